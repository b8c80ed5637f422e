/-
  What the proof of Jtc stands on, part 5.
  Conditions: none.
-/
import Derived.Test.YtbeacjcmdijdmaaGreatZtcD
/-! ## C1 -/
namespace Go.Proofs.YtbeacjcmdijdmaaGreat
open Go Go.V Go.RowKit
theorem ordU_nd (S : SM) (k : Nat) : (ordU S k).Nodup := by
  unfold ordU
  exact List.pairwise_map.2 (List.nodup_range.imp fun {a b} h e => h (by omega))
theorem order_count {S : SM} (h : SOk S) {j : Int} (h1 : 1 ≤ j) (h2 : j ≤ S.cap) : (SM.order S).count j = if S.ok j = true then 0 else 1 := by
  have hfr := h.fr
  have hU : j ∈ ordU S (S.cap - S.fresh).toNat ↔ S.fresh < j := by
    unfold ordU
    rw [List.mem_map]
    constructor
    · rintro ⟨i, hi, e⟩; omega
    · intro hlt
      exact ⟨(j - S.fresh - 1).toNat, List.mem_range.2 (by omega), by omega⟩
  have hcU := (ordU_nd S (S.cap - S.fresh).toNat).count (a := j)
  have hcR := h.nd.count (a := j)
  unfold SM.order
  rw [List.count_append, List.count_reverse, hcU, hcR]
  by_cases hok : S.ok j = true
  · rw [if_pos hok]
    have n1 : ¬ j ∈ S.rel := fun hm => by have := (h.rm j hm).2.2; rw [hok] at this; cases this
    have n2 : ¬ j ∈ ordU S (S.cap - S.fresh).toNat := fun hm => by have := h.hi j (hU.1 hm); rw [hok] at this; cases this
    rw [if_neg n1, if_neg n2]
  · rw [if_neg hok]
    by_cases hlt : S.fresh < j
    · have n1 : ¬ j ∈ S.rel := fun hm => by have := (h.rm j hm).2.1; omega
      rw [if_neg n1, if_pos (hU.2 hlt)]
    · have n1 := h.cov j h1 (by omega) (Bool.eq_false_iff.2 hok)
      rw [if_pos n1, if_neg fun hm => hlt (hU.1 hm)]
theorem order_rng {S : SM} (h : SOk S) : ∀ j ∈ SM.order S, 1 ≤ j ∧ j ≤ S.cap := fun j hj => by
  have hfr := h.fr
  rcases List.mem_append.1 hj with hj | hj
  · have := h.rm j (List.mem_reverse.1 hj); omega
  · obtain ⟨i, hi, e⟩ := List.mem_map.1 hj
    have := List.mem_range.1 hi
    omega
theorem dmp_n (A : AM) : (sls (AM.dmp A)).length = A.s.cap.toNat := by rw [sls_len, AM.dmp_len]
theorem cap_rng {A : AM} {R : List Int} (h : ARf A R) : 1 ≤ A.s.cap ∧ A.s.cap ≤ 65536 := by
  have h1 := h.s.cap
  have h2 : A.s.cap = (A.s.used.length : Int) - 1 := rfl
  omega
set_option maxRecDepth 8192 in
theorem c6_alloc {g w : World} {L : List HP} (A : AM) (R : List Int) (da fa : Option Addr) (dc fc : Nat) (i : Int) (hA : ARf A R) (hi : 0 ≤ i ∧ i ≤ 4294967295) (hS : St g (Sh 174 11 (sls (AM.dmp A)) da dc :: L) w) :
    Sp Tryz.prog 151 [.agg #[.slice da (List.length (sls (AM.dmp A))) dc, .slice fa (List.length (u32s (SM.order A.s))) fc], .int .u32 i] w (fun v w' => ∃ (b : Bool), v = .bool b ∧ St g (Sh 174 11 (sls (AM.dmp A)) da dc :: L) w' ∧ (b = A.s.ok i)) := by
  refine Sp.enter Tryz.func151 rfl (by kernel_rfl) (by kernel_rfl) ?_
  refine WC.seq <| WC.region <| WL.box rfl rfl #[.slice da (List.length (sls (AM.dmp A))) dc, .slice fa (List.length (u32s (SM.order A.s))) fc] hS rfl rfl (fun b1 w hS => ?_)
  refine WL.r 1 rfl <| WL.nil <| WC.seq <| WC.region ?_
  have hn := dmp_n A; have hcr := cap_rng hA; have hfr := hA.s.fr; have hcp : A.s.cap = (A.s.used.length : Int) - 1 := rfl
  refine WL.r 3 rfl ?_
  by_cases cg1 : 1 ≤ i
  · refine WL.reb 7 (.bool true) (congrArg Value.bool (decide_eq_true cg1)) <| WL.ung rfl rfl rfl <| WL.r 1 rfl <| WL.ung rfl rfl rfl <| WL.r 1 rfl <| WL.nw 9 rfl (wu64 (by omega)) ?_
    refine WL.ung rfl rfl rfl <| WL.r 1 rfl <| WL.ung rfl rfl rfl <| WL.run 1 [.slice da (List.length (sls (AM.dmp A))) dc] rfl (by exact hS.ld 0 rfl rfl) ?_
    refine WL.ung rfl rfl rfl <| WL.r 1 rfl <| WL.ung rfl rfl rfl <| WL.r 1 rfl <| WL.nw 13 rfl (wu64 (by omega)) ?_
    refine WL.ung rfl rfl rfl <| WL.r 3 rfl ?_
    by_cases cg2 : i ≤ (List.length (sls (AM.dmp A)) : Int)
    · refine WL.reb 16 (.bool true) (congrArg Value.bool (decide_eq_true cg2)) <| WL.ung rfl rfl rfl <| WL.r 1 rfl <| WL.ung rfl rfl rfl <| WL.run 1 [.slice da (List.length (sls (AM.dmp A))) dc] rfl (by exact hS.ld 0 rfl rfl) ?_
      refine WL.ung rfl rfl rfl <| WL.r 1 rfl <| WL.ung rfl rfl rfl <| WL.r 1 rfl <| WL.nw 20 rfl (wu32 (by omega)) ?_
      refine WL.ung rfl rfl rfl <| WL.ix rfl rfl (i := i - 1) (i.toNat - 1) el_60 rfl rfl (by omega) (by omega) (hS.rdS 1 rfl (sls_at (AM.dmp_at (A := A) (k := i.toNat - 1) (by omega)))).1 ?_
      refine WL.ung rfl rfl rfl <| WL.r 1 rfl <| WL.ung rfl rfl rfl <| WL.run 3 [.bool (A.dmpAt (((i.toNat - 1 : Nat) : Int) + 1)).al] rfl (by exact (hS.rdS 1 rfl (sls_at (AM.dmp_at (A := A) (k := i.toNat - 1) (by omega)))).2 0 _ rfl) ?_
      refine WL.nil ?_
      as_aux_lemma =>
      refine WC.ret ?_
      refine ⟨[.bool (A.dmpAt (((i.toNat - 1 : Nat) : Int) + 1)).al], rfl, ?_⟩
      replace hS := (hS.sel 1 [] rfl)
      exact ⟨_, rfl, hS, by show A.s.ok (((i.toNat - 1 : Nat) : Int) + 1) = _; rw [show ((i.toNat - 1 : Nat) : Int) + 1 = i by omega]⟩
    · refine WL.reb 16 (.bool false) (congrArg Value.bool (decide_eq_false cg2)) <| WL.skp rfl rfl rfl rfl <| WL.skp rfl rfl rfl rfl <| WL.skp rfl rfl rfl rfl <| WL.skp rfl rfl rfl rfl <| WL.skp rfl rfl rfl rfl <| WL.skp rfl rfl rfl rfl <| WL.skp rfl rfl rfl rfl <| WL.r 2 rfl <| WL.nil ?_
      as_aux_lemma =>
      refine WC.ret ?_
      refine ⟨[.bool false], rfl, ?_⟩
      replace hS := (hS.sel 1 [] rfl)
      exact ⟨false, rfl, hS, by have h9 : ¬ A.s.ok i = true := fun e => cg2 (by have := (SM.ok_rng hA.s (i := i) hi.1 e).2.1; omega); exact (Bool.eq_false_iff.2 h9).symm⟩
  · refine WL.reb 7 (.bool false) (congrArg Value.bool (decide_eq_false cg1)) <| WL.skp rfl rfl rfl rfl <| WL.skp rfl rfl rfl rfl <| WL.skp rfl rfl rfl rfl <| WL.skp rfl rfl rfl rfl <| WL.skp rfl rfl rfl rfl <| WL.skp rfl rfl rfl rfl <| WL.skp rfl rfl rfl rfl <| WL.r 2 rfl <| WL.skp rfl rfl rfl rfl <| WL.skp rfl rfl rfl rfl <| WL.skp rfl rfl rfl rfl ?_
    refine WL.skp rfl rfl rfl rfl <| WL.skp rfl rfl rfl rfl <| WL.skp rfl rfl rfl rfl <| WL.skp rfl rfl rfl rfl <| WL.r 2 rfl <| WL.nil ?_
    as_aux_lemma =>
    refine WC.ret ?_
    refine ⟨[.bool false], rfl, ?_⟩
    replace hS := (hS.sel 1 [] rfl)
    exact ⟨false, rfl, hS, by rw [show i = 0 by omega]; exact hA.s.u0.symm⟩
set_option maxRecDepth 8192 in
theorem c6_kids {g w : World} {L : List HP} (x : SlE) (hS : St g (L) w) :
    Sp Tryz.prog 217 [.agg #[.bool x.al, .int .i64 x.cn, .int .u32 x.ge, .int .i64 x.nd.key, .int .i64 x.nd.val, .int .u32 x.nd.lf, .int .u32 x.nd.rg, .int .i64 x.nd.size, .int .i64 x.nd.sum, .int .i64 x.nd.mn, .int .i64 x.nd.mx]] w (fun v w' => v = .agg #[.int .u32 x.nd.lf, .int .u32 x.nd.rg] ∧ St g (L) w') := by
  refine Sp.enter Tryz.func217 rfl (by kernel_rfl) (by kernel_rfl) ?_
  refine WC.seq <| WC.region <| WL.box rfl rfl #[.bool x.al, .int .i64 x.cn, .int .u32 x.ge, .int .i64 x.nd.key, .int .i64 x.nd.val, .int .u32 x.nd.lf, .int .u32 x.nd.rg, .int .i64 x.nd.size, .int .i64 x.nd.sum, .int .i64 x.nd.mn, .int .i64 x.nd.mx] hS rfl rfl (fun b1 w hS => ?_)
  refine WL.new rfl rfl zv_302 hS (fun b2 w hS => ?_)
  refine WL.nil <| WC.seq <| WC.region <| WL.run 6 [.int .u32 x.nd.lf, .int .u32 x.nd.rg] rfl (by exact ⟨hS.ld 1 rfl rfl, hS.ld 1 rfl rfl⟩) ?_
  refine WL.buildA rfl rfl (cs := [.int .u32 x.nd.lf, .int .u32 x.nd.rg]) ar_302 zv_302 rfl <| WL.stF rfl rfl rfl 0 hS rfl rfl rfl rfl rfl ag_302 (fun w hS => ?_)
  replace hS : St g (cel b2 #[.int .u32 x.nd.lf, .int .u32 x.nd.rg] 302 :: cel b1 #[.bool x.al, .int .i64 x.cn, .int .u32 x.ge, .int .i64 x.nd.key, .int .i64 x.nd.val, .int .u32 x.nd.lf, .int .u32 x.nd.rg, .int .i64 x.nd.size, .int .i64 x.nd.sum, .int .i64 x.nd.mn, .int .i64 x.nd.mx] 174 :: L) w := hS
  refine WL.nil <| WC.ret ?_
  refine ⟨[.agg #[.int .u32 x.nd.lf, .int .u32 x.nd.rg]], ⟨⟨_, rfl, hS.lvF 0 rfl ag_302⟩, trivial⟩, ?_⟩
  replace hS := (hS.sel 2 [] rfl)
  exact ⟨rfl, hS⟩
end Go.Proofs.YtbeacjcmdijdmaaGreat
/-! ## C2 -/
namespace Go.Proofs.YtbeacjcmdijdmaaGreat
open Go Go.V Go.RowKit
theorem rep_i64 (n : Nat) : List.replicate n [Value.int .i64 0] = i64s (cntL [] n) := by
  rw [cntL_0]; unfold i64s; rw [List.map_replicate]
theorem cnt_step {l : List Int} {n k : Nat} {x : Int} (hx : l[k]? = some x) (h : 1 ≤ x ∧ x ≤ n) : (i64s (cntL (l.take k) n)).set (x.toNat - 1) [Value.int .i64 ((((l.take k).count x : Nat) : Int) + 1)] = i64s (cntL (l.take (k + 1)) n) := by
  rw [show x.toNat - 1 = (x - 1).toNat by omega, i64s_set, cntL_in h, List.take_add_one, hx]; rfl
theorem cnt_skip {l : List Int} {n k : Nat} {x : Int} (hx : l[k]? = some x) (h : ¬ (1 ≤ x ∧ x ≤ n)) : cntL (l.take k) n = cntL (l.take (k + 1)) n := by
  rw [List.take_add_one, hx]; exact (cntL_out h).symm
set_option maxRecDepth 8192 in
theorem c6_counts {g w : World} {L : List HP} (l : List Int) (n : Nat) (a : Option Addr) (c : Nat) (hn : n ≤ 65536) (hl : l.length ≤ 100000000) (hr : ∀ x ∈ l, 0 ≤ x ∧ x ≤ 4294967295) (hS : St g (Sh 64 1 (u32s l) a c :: L) w) :
    Sp Tryz.prog 216 [.slice a (List.length (u32s l)) c, .int .i64 (n : Int)] w (fun v w' => ∃ (u : Option Addr) (d : Nat), v = .slice u (List.length (i64s (cntL l n))) d ∧ St g (Own 3 1 (i64s (cntL l n)) u d :: Sh 64 1 (u32s l) a c :: L) w') := by
  refine Sp.enter Tryz.func216 rfl (by kernel_rfl) (by kernel_rfl) ?_
  have _ := hl
  have _ := hn
  refine WC.seq <| WC.region <| WL.r 1 rfl <| WL.nil <| WC.seq <| WC.region ?_
  have hll := u32s_len l
  refine WL.r 1 rfl <| WL.make rfl rfl (v := (n : Int)) (v' := (n : Int)) (n) (n) el_56 hS rfl (by omega) rfl (by omega) (by omega) (Rm.of (by omega) (by decide)) (fun b1 w hS => ?_)
  replace hS := hS.n2 L (a0 := Own 3 1 (List.replicate n [.int .i64 0]) (some ⟨b1, 0, none⟩) n) rfl
  refine WL.r 1 rfl <| WL.nil <| WC.seq <| WC.seq <| WC.region ?_
  rw [rep_i64] at hS
  refine WL.r 1 rfl <| WL.nil <| WC.block <| WC.loop [0, 1, 4, 5, 6] (fun kM vs w => ∃ (k : Nat), vs = [.slice a (List.length (u32s l)) c, .int .i64 (n : Int), .slice none 0 0, .slice (some ⟨b1, 0, none⟩) n n, .int .i64 (k : Int)] ∧ St g (Own 3 1 (i64s (cntL (l.take k) n)) (some ⟨b1, 0, none⟩) n :: Sh 64 1 (u32s l) a c :: L) w ∧ (k ≤ l.length) ∧ (l.length - k) = kM) ((List.length l) - 0) ⟨0, rfl, hS, (Nat.zero_le _), rfl⟩ ?_
  clear hS; rintro _ _ w j ⟨k, rfl, hS, hk, rfl⟩
  refine WC.seq <| WC.seq <| WC.region <| WL.r 4 rfl <| WL.nil ?_
  as_aux_lemma =>
  refine WC.ifP rfl (fun cd1 => ?_) (fun cd1 => ?_)
  · refine WC.skip <| WC.seq <| WC.block <| WC.seq <| WC.region <| WL.r 2 rfl ?_
    obtain ⟨x, hx⟩ : ∃ x, l[k]? = some x := ⟨_, List.getElem?_eq_getElem (by omega)⟩; have hxr := hr x (List.mem_of_getElem? hx)
    refine WL.ix rfl rfl (i := (k : Int)) (k) el_32 rfl rfl (by omega) (by omega) (hS.rdS 1 rfl (u32s_at hx)).1 ?_
    refine WL.run 3 [.int .u32 x] rfl (by exact (hS.rdS 1 rfl (u32s_at hx)).2 0 _ rfl) ?_
    by_cases cg1 : 1 ≤ x
    · refine WL.reb 20 (.bool true) (congrArg Value.bool (decide_eq_true cg1)) <| WL.ung rfl rfl rfl <| WL.r 1 rfl <| WL.ung rfl rfl rfl <| WL.r 1 rfl <| WL.ung rfl rfl rfl <| WL.ix rfl rfl (i := (k : Int)) (k) el_32 rfl rfl (by omega) (by omega) (hS.rdS 1 rfl (u32s_at hx)).1 ?_
      refine WL.ung rfl rfl rfl <| WL.run 1 [.int .u32 x] rfl (by exact (hS.rdS 1 rfl (u32s_at hx)).2 0 _ rfl) ?_
      refine WL.ung rfl rfl rfl <| WL.r 1 rfl <| WL.nw 25 rfl (wu64 (by omega)) ?_
      refine WL.ung rfl rfl rfl <| WL.r 1 rfl <| WL.ung rfl rfl rfl <| WL.r 1 rfl <| WL.nw 27 rfl (wu64 (by omega)) ?_
      refine WL.ung rfl rfl rfl <| WL.r 2 rfl <| WL.nil ?_
      as_aux_lemma =>
      refine WC.ifP rfl (fun cd2 => ?_) (fun cd2 => ?_)
      · refine WC.region <| WL.r 3 rfl ?_
        have hcl := cntL_len (l.take k) n; have hil := i64s_len (cntL (l.take k) n); have hce : ((x.toNat - 1 : Nat) : Int) + 1 = x := (by omega); have hct := List.count_le_length (a := x) (l := l.take k); have htl := List.length_take_le k l; have hca : (cntL (l.take k) n)[x.toNat - 1]? = some (((l.take k).count x : Nat) : Int) := (by rw [cntL_at (by omega), hce])
        refine WL.ix rfl rfl (i := (k : Int)) (k) el_32 rfl rfl (by omega) (by omega) (hS.rdS 1 rfl (u32s_at hx)).1 ?_
        refine WL.run 2 [.int .u32 x] rfl (by exact (hS.rdS 1 rfl (u32s_at hx)).2 0 _ rfl) ?_
        refine WL.nw 35 rfl (wu32 (by omega)) ?_
        refine WL.ix rfl rfl (i := x - 1) (x.toNat - 1) el_56 rfl rfl (by omega) (by omega) (hS.rdO 0 rfl (i64s_at hca)).1 ?_
        refine WL.run 2 [.int .i64 (((l.take k).count x : Nat) : Int)] rfl (by exact (hS.rdO 0 rfl (i64s_at hca)).2 0 _ rfl) ?_
        refine WL.nw 38 rfl (w64 (by omega)) ?_
        refine WL.ix rfl rfl (i := x - 1) (x.toNat - 1) el_56 rfl rfl (by omega) (by omega) (hS.rdO 0 rfl (i64s_at hca)).1 ?_
        refine WL.stE rfl rfl rfl 0 (x.toNat - 1) 0 [.int .i64 (((l.take k).count x : Nat) : Int)] (i64s (cntL (l.take (k + 1)) n)) hS rfl (i64s_at hca) rfl rfl rfl rfl rfl (cnt_step hx (by omega)) (fun w hS => ?_)
        replace hS := hS.n2 L (a0 := Own 3 1 (i64s (cntL (l.take (k + 1)) n)) (some ⟨b1, 0, none⟩) n) rfl
        refine WL.nil <| WC.region <| WL.r 2 rfl <| WL.nw 14 rfl (w64 (by omega)) ?_
        refine WL.r 1 rfl <| WL.nil ?_
        exact ⟨_, by omega, k + 1, rfl, hS, (by omega), rfl⟩
      · refine WC.skip <| WC.region <| WL.r 2 rfl <| WL.nw 14 rfl (w64 (by omega)) ?_
        refine WL.r 1 rfl <| WL.nil ?_
        rw [cnt_skip hx (by omega)] at hS
        exact ⟨_, by omega, k + 1, rfl, hS, (by omega), rfl⟩
    · refine WL.reb 20 (.bool false) (congrArg Value.bool (decide_eq_false cg1)) <| WL.skp rfl rfl rfl rfl <| WL.skp rfl rfl rfl rfl <| WL.skp rfl rfl rfl rfl <| WL.skp rfl rfl rfl rfl <| WL.skp rfl rfl rfl rfl <| WL.skp rfl rfl rfl rfl <| WL.skp rfl rfl rfl rfl <| WL.skp rfl rfl rfl rfl <| WL.r 1 rfl <| WL.nil <| WC.ifF rfl rfl ?_
      refine WC.skip <| WC.region <| WL.r 2 rfl <| WL.nw 14 rfl (w64 (by omega)) ?_
      refine WL.r 1 rfl <| WL.nil ?_
      rw [cnt_skip hx (by omega)] at hS
      exact ⟨_, by omega, k + 1, rfl, hS, (by omega), rfl⟩
  · refine WC.exit <| WC.seq <| WC.region <| WL.r 2 rfl <| WL.nil <| WC.ret ?_
    refine ⟨[.slice (some ⟨b1, 0, none⟩) n n], rfl, ?_⟩
    have hk9 : k = l.length := (by omega); subst hk9; rw [List.take_length] at hS; exact ⟨_, _, by rw [i64s_len, cntL_len]; rfl, hS⟩
end Go.Proofs.YtbeacjcmdijdmaaGreat
/-! ## Arw -/
namespace Go.V
open Go Go.RowKit
def sz1 (P : Program) (e : TypeId) : Bool := match P.info? e with
  | some i => i.size == 1
  | none => false
theorem sz1_ex {P : Program} {e : TypeId} (h : sz1 P e = true) : ∃ i, P.info? e = some i ∧ i.size = 1 := by
  unfold sz1 at h
  cases hi : P.info? e with
  | none => rw [hi] at h; cases h
  | some i => rw [hi] at h; exact ⟨i, rfl, by simpa using h⟩
structure ArP (P : Program) (t : TypeId) (m : Nat) (e : TypeId) : Prop where
  und : P.underlying t = some (.array m e)
  one1 : sz1 P e = true
theorem ArP.one {P : Program} {t e : TypeId} {m : Nat} (h : ArP P t m e) : ∃ i, P.info? e = some i ∧ i.size = 1 := sz1_ex h.one1
section
variable {P : Program} {T : Tab} [hT : TabOk P T] {n : Nat} {os l : List Oper} {K : Kt} {F : Fm} {w : World} {t e : TypeId} {m : Nat}
theorem WL.ixP {o : Oper} {x y : Operand} {b : Nat} {kk : IntKind} {i : Int} (hg : o.guard = none) (ho : o.op = .indexAddr t x y) (k : Nat) (hE : ArP P t m e) (hx : ev F x = .pointer (some ⟨b, 0, none⟩)) (hy : ev F y = .int kk i) (hik : i = k) (hlt : k < m)
    (hk : WL P n os l K (updo F o.dst (.pointer (some ⟨b, k, none⟩))) w) : WL P n os (o :: l) K F w := by
  refine WL.val hg (fun hok => ?_) hk
  have e1 := okX_at (F := F) hok (x := x) (by simp [ho, Op.operands])
  have e2 := okX_at (F := F) hok (x := y) (by simp [ho, Op.operands])
  subst hik
  have hr : (0 : Int) ≤ k ∧ (k : Int) < m := by omega
  have hadd : (⟨b, 0, none⟩ : Addr).add k = ⟨b, k, none⟩ := by unfold Addr.add; split <;> simp_all
  simp only [execOp, ho, e1, hx, e2, hy, Instr.indexAt, Instr.sureAddr, asIntOf, Sem.run_bind, Sem.run_pure, Result.andThen_ok, run_underlying hE.und, hr, and_self, if_true, run_sizeOf w hE.one, Int.toNat_natCast, Nat.mul_one, hadd]
theorem RQ.ixP {o : Oper} {x y : Operand} {b : Nat} {kk : IntKind} {i : Int} (hg : o.guard = none) (ho : o.op = .indexAddr t x y) (k : Nat) (hE : ArP P t m e) (hx : ev F x = .pointer (some ⟨b, 0, none⟩)) (hy : ev F y = .int kk i) (hik : i = k) (hlt : k < m)
    {d : Nat} (hd : o.dst = some d) (hfd : F d = (.pointer (some ⟨b, k, none⟩))) : RQ P n os w F o := by
  refine RQ.val hg (fun hok mm => ?_) hd hfd
  generalize hw0 : w.drewN mm = w0
  clear hw0
  have e1 := okX_at (F := F) hok (x := x) (by simp [ho, Op.operands])
  have e2 := okX_at (F := F) hok (x := y) (by simp [ho, Op.operands])
  subst hik
  have hr : (0 : Int) ≤ k ∧ (k : Int) < m := by omega
  have hadd : (⟨b, 0, none⟩ : Addr).add k = ⟨b, k, none⟩ := by unfold Addr.add; split <;> simp_all
  simp only [execOp, ho, e1, hx, e2, hy, Instr.indexAt, Instr.sureAddr, asIntOf, Sem.run_bind, Sem.run_pure, Result.andThen_ok, run_underlying hE.und, hr, and_self, if_true, run_sizeOf w0 hE.one, Int.toNat_natCast, Nat.mul_one, hadd]
theorem WQ.ixP {K : Fm → Prop} {o : Oper} {x y : Operand} {b : Nat} {kk : IntKind} {i : Int} (hg : o.guard = none) (ho : o.op = .indexAddr t x y) (k : Nat) (hE : ArP P t m e) (hx : ev F x = .pointer (some ⟨b, 0, none⟩)) (hy : ev F y = .int kk i) (hik : i = k) (hlt : k < m)
    (hk : WQ P n os l w K (updo F o.dst (.pointer (some ⟨b, k, none⟩)))) : WQ P n os (o :: l) w K F := by
  refine WQ.val hg (fun hok mm => ?_) hk
  generalize hw0 : w.drewN mm = w0
  clear hw0
  have e1 := okX_at (F := F) hok (x := x) (by simp [ho, Op.operands])
  have e2 := okX_at (F := F) hok (x := y) (by simp [ho, Op.operands])
  subst hik
  have hr : (0 : Int) ≤ k ∧ (k : Int) < m := by omega
  have hadd : (⟨b, 0, none⟩ : Addr).add k = ⟨b, k, none⟩ := by unfold Addr.add; split <;> simp_all
  simp only [execOp, ho, e1, hx, e2, hy, Instr.indexAt, Instr.sureAddr, asIntOf, Sem.run_bind, Sem.run_pure, Result.andThen_ok, run_underlying hE.und, hr, and_self, if_true, run_sizeOf w0 hE.one, Int.toNat_natCast, Nat.mul_one, hadd]
end
theorem RdE.sub {w : World} {size k : Nat} {a : Option Addr} {cs : List Value} (h : RdE w size a k cs) (d : Nat) (sub : List Value) (hs : (cs.drop d).take sub.length = sub) (j : Nat) (u : Value) (hj : sub[j]? = some u) : w.cell? ⟨bo a, oo a + k * size + d + j, none⟩ = some u := by
  have hlt := (List.getElem?_eq_some_iff.1 hj).1
  rw [← hs, List.getElem?_take, if_pos hlt, List.getElem?_drop] at hj
  rw [Nat.add_assoc]
  exact h (d + j) u hj
def wtA (h : Nat) : Array Value := ((List.range 81).map fun i : Nat => Value.int .i64 (if i < h then (Tr.wt i : Int) else 0)).toArray
theorem wtA_size (h : Nat) : (wtA h).size = 81 := by simp [wtA]
theorem wtA_at {h k : Nat} (hk : k < h) (hh : h ≤ 81) : (wtA h)[k]? = some (.int .i64 (Tr.wt k : Int)) := by
  unfold wtA
  rw [List.getElem?_toArray, List.getElem?_map, List.getElem?_range (by omega)]
  simp [hk]
theorem wtA_set {h : Nat} (hh : h < 81) : (wtA h).setIfInBounds h (.int .i64 (Tr.wt h : Int)) = wtA (h + 1) := by
  apply Array.ext_getElem?
  intro i
  rw [Array.getElem?_setIfInBounds]
  by_cases hi : h = i
  · subst hi
    rw [if_pos rfl, if_pos (by rw [wtA_size]; exact hh), wtA_at (by omega) (by omega)]
  · rw [if_neg hi]
    unfold wtA
    rw [List.getElem?_toArray, List.getElem?_toArray, List.getElem?_map, List.getElem?_map]
    by_cases h2 : i < 81
    · rw [List.getElem?_range h2]
      simp only [Option.map_some]
      by_cases h3 : i < h
      · rw [if_pos h3, if_pos (by omega)]
      · rw [if_neg h3, if_neg (by omega)]
    · rw [List.getElem?_eq_none (by simp; omega)]; rfl
theorem wt_big : ∀ h, h ≤ 81 → Tr.wt h ≤ 500000000000000 := by decide
end Go.V
/-! ## C3 -/
namespace Go.Proofs.YtbeacjcmdijdmaaGreat
open Go Go.V Go.RowKit
theorem ap_302 : ArP Tryz.prog 302 2 64 := ⟨by kernel_rfl, by kernel_rfl⟩
def kd2 (x y : Int) : Array Value := #[.int .u32 x, .int .u32 y]
theorem kd2_at {x y v : Int} {k : Nat} (h : [x, y][k]? = some v) : (kd2 x y)[k]? = some (.int .u32 v) := by
  match k, h with
  | 0, h => cases h; rfl
  | 1, h => cases h; rfl
def edI (A : AM) (i k : Nat) : List Int := A.edK i ++ (if A.s.ok ((i : Int) + 1) = true then [(A.nd ((i : Int) + 1)).lf, (A.nd ((i : Int) + 1)).rg].take k else [])
theorem edI_0 (A : AM) (i : Nat) : edI A i 0 = A.edK i := by unfold edI; simp
theorem edI_2 (A : AM) (i : Nat) : edI A i 2 = A.edK (i + 1) := by
  unfold edI
  by_cases h : A.s.ok ((i : Int) + 1) = true
  · rw [if_pos h, AM.edK_in h, List.append_assoc]; rfl
  · rw [if_neg h, AM.edK_out h, List.append_nil]
theorem edI_no {A : AM} {i k : Nat} (h : ¬ A.s.ok ((i : Int) + 1) = true) : edI A i k = edI A i (k + 1) := by
  unfold edI; rw [if_neg h, if_neg h]
theorem edI_in {A : AM} {i k : Nat} {v : Int} (h : A.s.ok ((i : Int) + 1) = true) (hv : [(A.nd ((i : Int) + 1)).lf, (A.nd ((i : Int) + 1)).rg][k]? = some v) : edI A i (k + 1) = edI A i k ++ [v] := by
  unfold edI; rw [if_pos h, if_pos h, List.take_add_one, hv, List.append_assoc]; rfl
theorem edI_len (A : AM) (i k : Nat) : (edI A i k).length ≤ 2 * i + 2 := by
  have h1 : (A.edK i).length ≤ 2 * i := by
    unfold AM.edK
    rw [List.length_flatMap]
    induction i with
    | zero => simp
    | succ i ih =>
      rw [List.range_succ, List.map_append, List.sum_append]
      have : (if A.s.ok ((i : Int) + 1) = true then [(A.nd ((i : Int) + 1)).lf, (A.nd ((i : Int) + 1)).rg] else []).length ≤ 2 := by split <;> simp
      simp only [List.map_cons, List.map_nil, List.sum_cons, List.sum_nil]; omega
  unfold edI
  rw [List.length_append]
  split
  · have := List.length_take_le k [(A.nd ((i : Int) + 1)).lf, (A.nd ((i : Int) + 1)).rg]
    have h2 : ([(A.nd ((i : Int) + 1)).lf, (A.nd ((i : Int) + 1)).rg].take k).length ≤ 2 := by rw [List.length_take]; exact Nat.min_le_right _ _
    omega
  · simp; omega
theorem kid_rng {A : AM} {R : List Int} (h : ARf A R) {j : Int} (h1 : 1 ≤ j) (hok : A.s.ok j = true) {c : Int} (hc : c = (A.nd j).lf ∨ c = (A.nd j).rg) : 0 ≤ c ∧ c ≤ A.s.cap := by
  rcases h.kid j hok (by omega) c hc with e | ⟨e1, e2⟩
  · have := cap_rng h; omega
  · have := (SM.ok_rng h.s (i := c) (by omega) e2).2.1
    have := h.s.fr; omega
theorem kd_rng {A : AM} {R : List Int} (h : ARf A R) {i k : Nat} {v : Int} (hv : [(A.nd ((i : Int) + 1)).lf, (A.nd ((i : Int) + 1)).rg][k]? = some v) : 0 ≤ v ∧ v ≤ A.s.cap := by
  have hc : v = (A.nd ((i : Int) + 1)).lf ∨ v = (A.nd ((i : Int) + 1)).rg := by
    match k, hv with
    | 0, hv => cases hv; exact .inl rfl
    | 1, hv => cases hv; exact .inr rfl
  by_cases hok : A.s.ok ((i : Int) + 1) = true
  · exact kid_rng h (by omega) hok hc
  · have hz := h.zero ((i : Int) + 1) (Bool.eq_false_iff.2 hok) (by omega)
    have := cap_rng h
    rw [hz] at hc
    have e : v = 0 := by rcases hc with e | e <;> exact e
    omega
theorem ed_skip {A : AM} {i k : Nat} {n : Nat} {v : Int} (hv : [(A.nd ((i : Int) + 1)).lf, (A.nd ((i : Int) + 1)).rg][k]? = some v) (h : ¬ A.s.ok ((i : Int) + 1) = true ∨ ¬ (1 ≤ v ∧ v ≤ n)) : cntL (edI A i k) n = cntL (edI A i (k + 1)) n := by
  by_cases hok : A.s.ok ((i : Int) + 1) = true
  · rw [edI_in hok hv]; exact (cntL_out (h.resolve_left fun h1 => h1 hok)).symm
  · rw [edI_no (k := k) hok]
theorem ed_step {A : AM} {i k : Nat} {n : Nat} {v : Int} (hv : [(A.nd ((i : Int) + 1)).lf, (A.nd ((i : Int) + 1)).rg][k]? = some v) (hok : A.s.ok ((i : Int) + 1) = true) (h : 1 ≤ v ∧ v ≤ n) : (i64s (cntL (edI A i k) n)).set (v.toNat - 1) [Value.int .i64 ((((edI A i k).count v : Nat) : Int) + 1)] = i64s (cntL (edI A i (k + 1)) n) := by
  rw [show v.toNat - 1 = (v - 1).toNat by omega, i64s_set, cntL_in h, edI_in hok hv]
set_option maxRecDepth 8192 in
theorem c6_edges {g w : World} {L : List HP} (A : AM) (R : List Int) (da fa : Option Addr) (dc fc : Nat) (hA : ARf A R) (hS : St g (Sh 174 11 (sls (AM.dmp A)) da dc :: L) w) :
    Sp Tryz.prog 214 [.agg #[.slice da (List.length (sls (AM.dmp A))) dc, .slice fa (List.length (u32s (SM.order A.s))) fc]] w (fun v w' => ∃ (u : Option Addr) (d : Nat), v = .slice u (List.length (i64s (cntL A.kids A.s.cap.toNat))) d ∧ St g (Own 3 1 (i64s (cntL A.kids A.s.cap.toNat)) u d :: Sh 174 11 (sls (AM.dmp A)) da dc :: L) w') := by
  refine Sp.enter Tryz.func214 rfl (by kernel_rfl) (by kernel_rfl) ?_
  refine WC.seq <| WC.region <| WL.box rfl rfl #[.slice da (List.length (sls (AM.dmp A))) dc, .slice fa (List.length (u32s (SM.order A.s))) fc] hS rfl rfl (fun b1 w hS => ?_)
  refine WL.r 1 rfl <| WL.nil <| WC.seq <| WC.region ?_
  have hn := dmp_n A; have hcr := cap_rng hA
  refine WL.run 3 [.slice da (List.length (sls (AM.dmp A))) dc] rfl (by exact hS.ld 0 rfl rfl) ?_
  refine WL.make rfl rfl (v := (List.length (sls (AM.dmp A)) : Int)) (v' := (List.length (sls (AM.dmp A)) : Int)) (A.s.cap.toNat) (A.s.cap.toNat) el_56 hS rfl (by omega) rfl (by omega) (by omega) (Rm.of (by omega) (by decide)) (fun b2 w hS => ?_)
  replace hS := hS.n3 L (a0 := Own 3 1 (List.replicate A.s.cap.toNat [.int .i64 0]) (some ⟨b2, 0, none⟩) A.s.cap.toNat) (a1 := cel b1 #[.slice da (List.length (sls (AM.dmp A))) dc, .slice fa (List.length (u32s (SM.order A.s))) fc] 62) rfl
  refine WL.r 1 rfl <| WL.nil <| WC.seq <| WC.seq <| WC.region ?_
  rw [rep_i64] at hS
  refine WL.r 1 rfl <| WL.nil <| WC.block <| WC.loop [1, 2, 3, 4] (fun kM vs w => ∃ (i : Nat), vs = [.pointer (some ⟨b1, 0, none⟩), .slice none 0 0, .slice (some ⟨b2, 0, none⟩) A.s.cap.toNat A.s.cap.toNat, .int .i64 (i : Int)] ∧ St g (Own 3 1 (i64s (cntL (A.edK i) A.s.cap.toNat)) (some ⟨b2, 0, none⟩) A.s.cap.toNat :: cel b1 #[.slice da (List.length (sls (AM.dmp A))) dc, .slice fa (List.length (u32s (SM.order A.s))) fc] 62 :: Sh 174 11 (sls (AM.dmp A)) da dc :: L) w ∧ (i ≤ A.s.cap.toNat) ∧ (A.s.cap.toNat - i) = kM) (A.s.cap.toNat - 0) ⟨0, rfl, hS, (Nat.zero_le _), rfl⟩ ?_
  clear hS; rintro _ _ w j ⟨i, rfl, hS, hi, rfl⟩
  refine WC.seq <| WC.seq <| WC.region <| WL.run 5 [.slice da (List.length (sls (AM.dmp A))) dc] rfl (by exact hS.ld 1 rfl rfl) ?_
  refine WL.nil ?_
  as_aux_lemma =>
  refine WC.ifP rfl (fun cd1 => ?_) (fun cd1 => ?_)
  · refine WC.skip <| WC.seq <| WC.block <| WC.seq <| WC.region <| WL.run 3 [.slice da (List.length (sls (AM.dmp A))) dc] rfl (by exact hS.ld 1 rfl rfl) ?_
    refine WL.ix rfl rfl (i := (i : Int)) (i) el_60 rfl rfl (by omega) (by omega) (hS.rdS 2 rfl (sls_at (AM.dmp_at (A := A) (k := i) (by omega)))).1 ?_
    refine WL.ldC rfl rfl [.bool (A.dmpAt ((i : Int) + 1)).al, .int .i64 (A.dmpAt ((i : Int) + 1)).cn, .int .u32 (A.dmpAt ((i : Int) + 1)).ge, .int .i64 (A.dmpAt ((i : Int) + 1)).nd.key, .int .i64 (A.dmpAt ((i : Int) + 1)).nd.val, .int .u32 (A.dmpAt ((i : Int) + 1)).nd.lf, .int .u32 (A.dmpAt ((i : Int) + 1)).nd.rg, .int .i64 (A.dmpAt ((i : Int) + 1)).nd.size, .int .i64 (A.dmpAt ((i : Int) + 1)).nd.sum, .int .i64 (A.dmpAt ((i : Int) + 1)).nd.mn, .int .i64 (A.dmpAt ((i : Int) + 1)).nd.mx] ag_174 rfl (hS.rdS 2 rfl (sls_at (AM.dmp_at (A := A) (k := i) (by omega)))).2 ?_
    refine WL.call rfl rfl (c6_kids (x := A.dmpAt ((i : Int) + 1))  (hS := hS)) rfl ?_
    clear hS; rintro _ w ⟨rfl, hS⟩
    replace hS := hS.n3 L rfl
    refine WL.new rfl rfl zv_302 hS (fun b3 w hS => ?_)
    refine WL.stF rfl rfl rfl 0 hS rfl rfl rfl rfl rfl ag_302 (fun w hS => ?_)
    replace hS := hS.n4 L (a0 := cel b3 #[.int .u32 (A.dmpAt ((i : Int) + 1)).nd.lf, .int .u32 (A.dmpAt ((i : Int) + 1)).nd.rg] 302) rfl
    refine WL.nil <| WC.seq <| WC.region ?_
    rw [← edI_0] at hS
    refine WL.r 1 rfl <| WL.nil <| WC.block <| WC.loop [1, 2, 3, 4, 5, 6, 11, 12, 13, 14, 15, 18, 19, 20, 21, 22, 23] (fun kM vs w => ∃ (k : Nat), vs = [.pointer (some ⟨b1, 0, none⟩), .slice none 0 0, .slice (some ⟨b2, 0, none⟩) A.s.cap.toNat A.s.cap.toNat, .int .i64 (i : Int), .pointer (some ⟨b3, 0, none⟩), .int .i64 (k : Int), .int .i64 (i : Int), .pointer (some ⟨b1, 0, none⟩), .slice da (List.length (sls (AM.dmp A))) dc, .int .i64 (List.length (sls (AM.dmp A)) : Int), .bool (decide ((i : Int) < (List.length (sls (AM.dmp A)) : Int))), .pointer (some ⟨b1, 0, none⟩), .slice da (List.length (sls (AM.dmp A))) dc, .int .i64 (i : Int), .pointer (some ⟨bo da, (oo da) + (i * 11), none⟩), .agg #[.bool (A.dmpAt ((i : Int) + 1)).al, .int .i64 (A.dmpAt ((i : Int) + 1)).cn, .int .u32 (A.dmpAt ((i : Int) + 1)).ge, .int .i64 (A.dmpAt ((i : Int) + 1)).nd.key, .int .i64 (A.dmpAt ((i : Int) + 1)).nd.val, .int .u32 (A.dmpAt ((i : Int) + 1)).nd.lf, .int .u32 (A.dmpAt ((i : Int) + 1)).nd.rg, .int .i64 (A.dmpAt ((i : Int) + 1)).nd.size, .int .i64 (A.dmpAt ((i : Int) + 1)).nd.sum, .int .i64 (A.dmpAt ((i : Int) + 1)).nd.mn, .int .i64 (A.dmpAt ((i : Int) + 1)).nd.mx], .agg #[.int .u32 (A.dmpAt ((i : Int) + 1)).nd.lf, .int .u32 (A.dmpAt ((i : Int) + 1)).nd.rg]] ∧ St g (cel b3 (kd2 (A.nd ((i : Int) + 1)).lf (A.nd ((i : Int) + 1)).rg) 302 :: Own 3 1 (i64s (cntL (edI A i k) A.s.cap.toNat)) (some ⟨b2, 0, none⟩) A.s.cap.toNat :: cel b1 #[.slice da (List.length (sls (AM.dmp A))) dc, .slice fa (List.length (u32s (SM.order A.s))) fc] 62 :: Sh 174 11 (sls (AM.dmp A)) da dc :: L) w ∧ (k ≤ 2) ∧ (2 - k) = kM) (2 - 0) ⟨0, rfl, hS, (Nat.zero_le _), rfl⟩ ?_
    clear hS; rintro _ _ w j ⟨k, rfl, hS, hk, rfl⟩
    refine WC.seq <| WC.seq <| WC.region <| WL.r 2 rfl <| WL.nil ?_
    as_aux_lemma =>
    refine WC.ifP rfl (fun cd2 => ?_) (fun cd2 => ?_)
    · refine WC.skip <| WC.seq <| WC.block <| WC.seq <| WC.region <| WL.run 3 [.slice da (List.length (sls (AM.dmp A))) dc] rfl (by exact hS.ld 2 rfl rfl) ?_
      obtain ⟨v, hv⟩ : ∃ v, [(A.nd ((i : Int) + 1)).lf, (A.nd ((i : Int) + 1)).rg][k]? = some v := ⟨_, List.getElem?_eq_getElem (by show k < 2; omega)⟩; have hvr := kd_rng hA hv; have hcl := cntL_len (edI A i k) A.s.cap.toNat; have hil := i64s_len (cntL (edI A i k) A.s.cap.toNat); have hct := List.count_le_length (a := v) (l := edI A i k); have hel := edI_len A i k
      refine WL.ix rfl rfl (i := (i : Int)) (i) el_60 rfl rfl (by omega) (by omega) (hS.rdS 3 rfl (sls_at (AM.dmp_at (A := A) (k := i) (by omega)))).1 ?_
      refine WL.run 3 [.bool (A.dmpAt ((i : Int) + 1)).al] rfl (by exact (hS.rdS 3 rfl (sls_at (AM.dmp_at (A := A) (k := i) (by omega)))).2 0 _ rfl) ?_
      by_cases cg1 : (A.dmpAt ((i : Int) + 1)).al = true
      · refine WL.reb 34 (.bool true) (congrArg Value.bool cg1) <| WL.ung rfl rfl rfl <| WL.r 1 rfl <| WL.ung rfl rfl rfl <| WL.ixP rfl rfl (k) ap_302 rfl rfl (by omega) (by omega) ?_
        refine WL.ung rfl rfl rfl <| WL.run 1 [.int .u32 v] rfl (by exact hS.ld 0 rfl (kd2_at hv)) ?_
        refine WL.ung rfl rfl rfl <| WL.r 3 rfl ?_
        by_cases cg2 : 1 ≤ v
        · refine WL.reb 40 (.bool true) (congrArg Value.bool (decide_eq_true cg2)) <| WL.ung rfl rfl rfl <| WL.r 1 rfl <| WL.ung rfl rfl rfl <| WL.ixP rfl rfl (k) ap_302 rfl rfl (by omega) (by omega) ?_
          refine WL.ung rfl rfl rfl <| WL.run 1 [.int .u32 v] rfl (by exact hS.ld 0 rfl (kd2_at hv)) ?_
          refine WL.ung rfl rfl rfl <| WL.r 1 rfl <| WL.nw 44 rfl (wu64 (by omega)) ?_
          refine WL.ung rfl rfl rfl <| WL.r 1 rfl <| WL.ung rfl rfl rfl <| WL.r 1 rfl <| WL.ung rfl rfl rfl <| WL.r 1 rfl <| WL.nw 47 rfl (wu64 (by omega)) ?_
          refine WL.ung rfl rfl rfl <| WL.r 2 rfl <| WL.nil ?_
          as_aux_lemma =>
          refine WC.ifP rfl (fun cd3 => ?_) (fun cd3 => ?_)
          · refine WC.region <| WL.r 2 rfl <| WL.ixP rfl rfl (k) ap_302 rfl rfl (by omega) (by omega) ?_
            refine WL.run 2 [.int .u32 v] rfl (by exact hS.ld 0 rfl (kd2_at hv)) ?_
            refine WL.nw 54 rfl (wu32 (by omega)) ?_
            have hce : ((v.toNat - 1 : Nat) : Int) + 1 = v := (by omega); have hca : (cntL (edI A i k) A.s.cap.toNat)[v.toNat - 1]? = some (((edI A i k).count v : Nat) : Int) := (by rw [cntL_at (by omega), hce])
            refine WL.ix rfl rfl (i := v - 1) (v.toNat - 1) el_56 rfl rfl (by omega) (by omega) (hS.rdO 1 rfl (i64s_at hca)).1 ?_
            refine WL.run 2 [.int .i64 (((edI A i k).count v : Nat) : Int)] rfl (by exact (hS.rdO 1 rfl (i64s_at hca)).2 0 _ rfl) ?_
            refine WL.nw 57 rfl (w64 (by omega)) ?_
            refine WL.ix rfl rfl (i := v - 1) (v.toNat - 1) el_56 rfl rfl (by omega) (by omega) (hS.rdO 1 rfl (i64s_at hca)).1 ?_
            refine WL.stE rfl rfl rfl 1 (v.toNat - 1) 0 [.int .i64 (((edI A i k).count v : Nat) : Int)] (i64s (cntL (edI A i (k + 1)) A.s.cap.toNat)) hS rfl (i64s_at hca) rfl rfl rfl rfl rfl (ed_step hv cg1 (by omega)) (fun w hS => ?_)
            replace hS := hS.n4 L (a1 := Own 3 1 (i64s (cntL (edI A i (k + 1)) A.s.cap.toNat)) (some ⟨b2, 0, none⟩) A.s.cap.toNat) rfl
            refine WL.nil <| WC.region <| WL.r 2 rfl <| WL.nw 27 rfl (w64 (by omega)) ?_
            refine WL.r 1 rfl <| WL.nil ?_
            exact ⟨_, by omega, k + 1, rfl, hS, (by omega), rfl⟩
          · refine WC.skip <| WC.region <| WL.r 2 rfl <| WL.nw 27 rfl (w64 (by omega)) ?_
            refine WL.r 1 rfl <| WL.nil ?_
            rw [ed_skip hv (.inr (by omega))] at hS
            exact ⟨_, by omega, k + 1, rfl, hS, (by omega), rfl⟩
        · refine WL.reb 40 (.bool false) (congrArg Value.bool (decide_eq_false cg2)) <| WL.skp rfl rfl rfl rfl <| WL.skp rfl rfl rfl rfl <| WL.skp rfl rfl rfl rfl <| WL.skp rfl rfl rfl rfl <| WL.skp rfl rfl rfl rfl <| WL.skp rfl rfl rfl rfl <| WL.skp rfl rfl rfl rfl <| WL.skp rfl rfl rfl rfl <| WL.r 1 rfl <| WL.nil ?_
          as_aux_lemma =>
          refine WC.ifF rfl rfl <| WC.skip <| WC.region <| WL.r 2 rfl <| WL.nw 27 rfl (w64 (by omega)) ?_
          refine WL.r 1 rfl <| WL.nil ?_
          rw [ed_skip hv (.inr (by omega))] at hS
          exact ⟨_, by omega, k + 1, rfl, hS, (by omega), rfl⟩
      · refine WL.reb 34 (.bool false) (congrArg Value.bool (Bool.eq_false_iff.2 cg1)) <| WL.skp rfl rfl rfl rfl <| WL.skp rfl rfl rfl rfl <| WL.skp rfl rfl rfl rfl <| WL.skp rfl rfl rfl rfl <| WL.r 2 rfl <| WL.skp rfl rfl rfl rfl <| WL.skp rfl rfl rfl rfl <| WL.skp rfl rfl rfl rfl <| WL.skp rfl rfl rfl rfl <| WL.skp rfl rfl rfl rfl <| WL.skp rfl rfl rfl rfl ?_
        refine WL.skp rfl rfl rfl rfl <| WL.skp rfl rfl rfl rfl <| WL.r 1 rfl <| WL.nil ?_
        as_aux_lemma =>
        refine WC.ifF rfl rfl <| WC.skip <| WC.region <| WL.r 2 rfl <| WL.nw 27 rfl (w64 (by omega)) ?_
        refine WL.r 1 rfl <| WL.nil ?_
        rw [ed_skip hv (.inl cg1)] at hS
        exact ⟨_, by omega, k + 1, rfl, hS, (by omega), rfl⟩
    · refine WC.exit <| WC.region <| WL.r 2 rfl <| WL.nw 17 rfl (w64 (by omega)) ?_
      refine WL.r 1 rfl <| WL.nil ?_
      obtain rfl : k = 2 := (by omega); rw [edI_2] at hS
      exact ⟨_, by omega, i + 1, rfl, (hS.sel 1 [] rfl), (by omega), rfl⟩
  · refine WC.exit <| WC.seq <| WC.region <| WL.r 2 rfl <| WL.nil <| WC.ret ?_
    refine ⟨[.slice (some ⟨b2, 0, none⟩) A.s.cap.toNat A.s.cap.toNat], rfl, ?_⟩
    replace hS := (hS.sel 2 [0] rfl)
    have hi9 : i = A.s.cap.toNat := (by omega); subst hi9; rw [AM.edK_kids hA.s] at hS; exact ⟨_, _, by rw [i64s_len, cntL_len]; rfl, hS⟩
end Go.Proofs.YtbeacjcmdijdmaaGreat
/-! ## C4 -/
namespace Go.Proofs.YtbeacjcmdijdmaaGreat
open Go Go.V Go.RowKit
theorem rep_bos (n : Nat) : List.replicate n [Value.bool false] = bos (List.replicate n false) := by unfold bos; rw [List.map_replicate]
theorem ref_rng {A : AM} {R : List Int} (h : ARf A R) : ∀ r ∈ R, 0 ≤ r ∧ r ≤ 4294967295 := fun r hr => by
  have := h.rng hr; omega
theorem last_of {l : List Int} (h : 0 < l.length) : ∃ a x, l = a ++ [x] := ⟨l.dropLast, l.getLast (fun e => by rw [e] at h; simp at h), (List.dropLast_concat_getLast _).symm⟩
theorem unm_le (bs : List Bool) : unm bs ≤ bs.length := List.countP_le_length
theorem kd_all {A : AM} {R : List Int} (h : ARf A R) {j : Int} (h1 : 1 ≤ j) (hok : A.s.ok j = true) : (0 ≤ (A.nd j).lf ∧ (A.nd j).lf ≤ 4294967295) ∧ 0 ≤ (A.nd j).rg ∧ (A.nd j).rg ≤ 4294967295 := by
  have h2 := kid_rng h h1 hok (.inl rfl)
  have h3 := kid_rng h h1 hok (.inr rfl)
  have := cap_rng h
  omega
set_option maxRecDepth 8192 in
theorem c6_marks {g w : World} {L : List HP} (A : AM) (R : List Int) (da fa ra : Option Addr) (dc fc rc : Nat) (hA : ARf A R) (hRl : R.length ≤ 1000000) (hS : St g (Sh 174 11 (sls (AM.dmp A)) da dc :: Sh 64 1 (u32s R) ra rc :: L) w) :
    Sp Tryz.prog 215 [.agg #[.slice da (List.length (sls (AM.dmp A))) dc, .slice fa (List.length (u32s (SM.order A.s))) fc], .slice ra (List.length (u32s R)) rc] w (fun v w' => ∃ (bs : List Bool) (u : Option Addr) (d : Nat), v = .slice u (List.length (bos bs)) d ∧ St g (Own 4 1 (bos bs) u d :: Sh 174 11 (sls (AM.dmp A)) da dc :: Sh 64 1 (u32s R) ra rc :: L) w' ∧ (bs.length = A.s.cap.toNat) ∧ (∀ j : Int, 1 ≤ j → A.s.ok j = true → bs[(j - 1).toNat]? = some true)) := by
  refine Sp.enter Tryz.func215 rfl (by kernel_rfl) (by kernel_rfl) ?_
  have _ := hRl
  refine WC.seq <| WC.region <| WL.box rfl rfl #[.slice da (List.length (sls (AM.dmp A))) dc, .slice fa (List.length (u32s (SM.order A.s))) fc] hS rfl rfl (fun b1 w hS => ?_)
  refine WL.r 1 rfl <| WL.nil <| WC.seq <| WC.region ?_
  have hn := dmp_n A; have hcr := cap_rng hA; have hul := u32s_len R
  refine WL.run 3 [.slice da (List.length (sls (AM.dmp A))) dc] rfl (by exact hS.ld 0 rfl rfl) ?_
  refine WL.make rfl rfl (v := (List.length (sls (AM.dmp A)) : Int)) (v' := (List.length (sls (AM.dmp A)) : Int)) (A.s.cap.toNat) (A.s.cap.toNat) el_33 hS rfl (by omega) rfl (by omega) (by omega) (Rm.of (by omega) (by decide)) (fun b2 w hS => ?_)
  replace hS := hS.n4 L (a0 := Own 4 1 (List.replicate A.s.cap.toNat [.bool false]) (some ⟨b2, 0, none⟩) A.s.cap.toNat) (a1 := cel b1 #[.slice da (List.length (sls (AM.dmp A))) dc, .slice fa (List.length (u32s (SM.order A.s))) fc] 62) rfl
  refine WL.r 1 rfl <| WL.nil <| WC.seq <| WC.region ?_
  rw [rep_bos] at hS
  replace hS := hS.n4 L (a0 := Own 4 1 (bos (List.replicate A.s.cap.toNat false)) (some ⟨b2, 0, none⟩) A.s.cap.toNat) rfl
  refine WL.r 1 rfl ?_
  replace hS := hS.nil_ 64 1
  refine WL.app rfl rfl 0 (u32s R) el_32 hS rfl (hS.srcS 4 rfl) (List.nil_append _) (Rm.of (by first | omega | (simp <;> omega)) (by decide)) rfl rfl (fun a1 c1 w hS => ?_)
  replace hS := hS.n5 L (a0 := Own 64 1 (u32s R) a1 c1) rfl
  refine WL.r 1 rfl <| WL.nil <| WC.seq <| WC.block <| WC.loop [2, 4, 5, 6] (fun kM vs w => ∃ (bs : List Bool) (ws : List Int) (u : Option Addr) (d : Nat), vs = [.pointer (some ⟨b1, 0, none⟩), .slice none 0 0, .slice (some ⟨b2, 0, none⟩) A.s.cap.toNat A.s.cap.toNat, .slice u (List.length (u32s ws)) d] ∧ St g (Own 64 1 (u32s ws) u d :: Own 4 1 (bos bs) (some ⟨b2, 0, none⟩) A.s.cap.toNat :: cel b1 #[.slice da (List.length (sls (AM.dmp A))) dc, .slice fa (List.length (u32s (SM.order A.s))) fc] 62 :: Sh 174 11 (sls (AM.dmp A)) da dc :: Sh 64 1 (u32s R) ra rc :: L) w ∧ (MkI A R bs ws) ∧ (ws.length + 2 * unm bs ≤ R.length + 2 * A.s.cap.toNat) ∧ (2 * unm bs + ws.length) = kM) (2 * unm (List.replicate A.s.cap.toNat false) + (List.length R)) ⟨List.replicate A.s.cap.toNat false, R, _, _, rfl, hS, (MkI.init (ref_rng hA)), (by have := unm_le (List.replicate A.s.cap.toNat false); rw [List.length_replicate] at this; omega), rfl⟩ ?_
  clear hS; rintro _ _ w j ⟨bs, ws, u, d, rfl, hS, hI, hwl, rfl⟩
  refine WC.seq <| WC.seq <| WC.region <| WL.r 3 rfl <| WL.nil ?_
  as_aux_lemma =>
  refine WC.ifP rfl (fun cd1 => ?_) (fun cd1 => ?_)
  · refine WC.skip <| WC.block <| WC.seq <| WC.region ?_
    obtain ⟨wt, x, rfl⟩ := last_of (l := ws) (by have := u32s_len ws; omega); have hu3 := u32s_len (wt ++ [x]); have hw3 : (wt ++ [x]).length = wt.length + 1 := (by simp); have hbl := hI.len; have hbl2 := bos_len bs; have hfr := hA.s.fr; have hul := u32s_len R; have hu4 := u32s_len wt
    refine WL.r 4 rfl <| WL.nw 21 rfl (w64 (by omega)) ?_
    have hx : (wt ++ [x])[wt.length]? = some x := (by simp); have hxr := hI.rng x (by simp)
    refine WL.ix rfl rfl (i := (List.length (u32s (wt ++ [x])) : Int) - 1) (wt.length) el_32 rfl rfl (by omega) (by omega) (hS.rdO 0 rfl (u32s_at hx)).1 ?_
    refine WL.run 2 [.int .u32 x] rfl (by exact (hS.rdO 0 rfl (u32s_at hx)).2 0 _ rfl) ?_
    refine WL.nil <| WC.seq <| WC.region <| WL.r 4 rfl <| WL.nw 27 rfl (w64 (by omega)) ?_
    refine WL.slOwn rfl rfl (v := (List.length (u32s (wt ++ [x])) : Int) - 1) 0 (wt.length) (u32s wt) el_32 hS rfl rfl rfl (by omega) (by omega) (by rw [u32s_take]; simp) (fun hS => ?_)
    replace hS := hS.n5 L (a0 := Own 64 1 (u32s wt) u d) rfl
    refine WL.r 1 rfl <| WL.nil <| WC.seq <| WC.seq <| WC.region <| WL.ldF rfl rfl 2 hS rfl rfl ag_62 <| WL.r 1 rfl <| WL.call rfl rfl (c6_alloc (A := A) (fa := fa) (fc := fc) (i := x) (hA := hA) (hi := hxr) (hS := (hS.sel 4 [3, 0, 0, 0] rfl))) rfl ?_
    clear hS; rintro _ w ⟨b3, rfl, hS, f1⟩
    replace hS := hS.n5 L rfl
    refine WL.r 1 rfl <| WL.r 1 rfl ?_
    by_cases cg1 : (! b3) = true
    · refine WL.reb 33 (.bool true) (congrArg Value.bool cg1) <| WL.skp rfl rfl rfl rfl <| WL.skp rfl rfl rfl rfl <| WL.skp rfl rfl rfl rfl <| WL.skp rfl rfl rfl rfl <| WL.skp rfl rfl rfl rfl <| WL.r 1 rfl <| WL.nil ?_
      as_aux_lemma =>
      refine WC.ifT rfl rfl <| WC.exit ?_
      exact ⟨_, by omega, bs, wt, _, _, rfl, (hS.sel 4 [1, 1, 1, 0] rfl), (hI.skip (.inl (by rw [← f1]; simpa using cg1)) hA), (by omega), rfl⟩
    · refine WL.reb 33 (.bool false) (congrArg Value.bool (Bool.eq_false_iff.2 cg1)) <| WL.ung rfl rfl rfl <| WL.r 1 rfl <| WL.ung rfl rfl rfl <| WL.r 1 rfl <| WL.ung rfl rfl rfl <| WL.r 1 rfl <| WL.nw 36 rfl (wu32 (by have hok9 : A.s.ok x = true := (by rw [← f1]; simpa using cg1); have hor9 := SM.ok_rng hA.s (i := x) hxr.1 hok9; omega)) ?_
      refine WL.ung rfl rfl rfl ?_
      have hok : A.s.ok x = true := (by rw [← f1]; simpa using cg1); have hor := SM.ok_rng hA.s (i := x) hxr.1 hok; obtain ⟨bv, hb⟩ : ∃ v, bs[x.toNat - 1]? = some v := ⟨_, List.getElem?_eq_getElem (by omega)⟩
      refine WL.ix rfl rfl (i := x - 1) (x.toNat - 1) el_33 rfl rfl (by omega) (by omega) (hS.rdO 2 rfl (bos_at hb)).1 ?_
      refine WL.ung rfl rfl rfl <| WL.run 2 [.bool bv] rfl (by exact (hS.rdO 2 rfl (bos_at hb)).2 0 _ rfl) ?_
      refine WL.nil ?_
      as_aux_lemma =>
      refine WC.if_ rfl (fun cd2 => ?_) (fun cd2 => ?_)
      · refine WC.exit ?_
        exact ⟨_, by omega, bs, wt, _, _, rfl, (hS.sel 4 [1, 1, 1, 0] rfl), (hI.skip (.inr (by rw [show (x - 1).toNat = x.toNat - 1 by omega, hb]; simpa using cd2)) hA), (by omega), rfl⟩
      · refine WC.skip <| WC.seq <| WC.region <| WL.r 3 rfl <| WL.nw 42 rfl (wu32 (by omega)) ?_
        refine WL.ix rfl rfl (i := x - 1) (x.toNat - 1) el_33 rfl rfl (by omega) (by omega) (hS.rdO 2 rfl (bos_at hb)).1 ?_
        refine WL.stE rfl rfl rfl 2 (x.toNat - 1) 0 [.bool bv] (bos (bs.set (x.toNat - 1) true)) hS rfl (bos_at hb) rfl rfl rfl rfl rfl (bos_set _ _ _) (fun w hS => ?_)
        replace hS := hS.n5 L (a2 := Own 4 1 (bos (bs.set (x.toNat - 1) true)) (some ⟨b2, 0, none⟩) A.s.cap.toNat) rfl
        refine WL.nil <| WC.seq <| WC.region <| WL.run 4 [.slice da (List.length (sls (AM.dmp A))) dc] rfl (by exact hS.ld 3 rfl rfl) ?_
        refine WL.nw 47 rfl (wu32 (by omega)) ?_
        refine WL.ix rfl rfl (i := x - 1) (x.toNat - 1) el_60 rfl rfl (by omega) (by omega) (hS.rdS 0 rfl (sls_at (AM.dmp_at (A := A) (k := x.toNat - 1) (by omega)))).1 ?_
        refine WL.ldC rfl rfl [.bool (A.dmpAt (((x.toNat - 1 : Nat) : Int) + 1)).al, .int .i64 (A.dmpAt (((x.toNat - 1 : Nat) : Int) + 1)).cn, .int .u32 (A.dmpAt (((x.toNat - 1 : Nat) : Int) + 1)).ge, .int .i64 (A.dmpAt (((x.toNat - 1 : Nat) : Int) + 1)).nd.key, .int .i64 (A.dmpAt (((x.toNat - 1 : Nat) : Int) + 1)).nd.val, .int .u32 (A.dmpAt (((x.toNat - 1 : Nat) : Int) + 1)).nd.lf, .int .u32 (A.dmpAt (((x.toNat - 1 : Nat) : Int) + 1)).nd.rg, .int .i64 (A.dmpAt (((x.toNat - 1 : Nat) : Int) + 1)).nd.size, .int .i64 (A.dmpAt (((x.toNat - 1 : Nat) : Int) + 1)).nd.sum, .int .i64 (A.dmpAt (((x.toNat - 1 : Nat) : Int) + 1)).nd.mn, .int .i64 (A.dmpAt (((x.toNat - 1 : Nat) : Int) + 1)).nd.mx] ag_174 rfl (hS.rdS 0 rfl (sls_at (AM.dmp_at (A := A) (k := x.toNat - 1) (by omega)))).2 ?_
        refine WL.call rfl rfl (c6_kids (x := A.dmpAt (((x.toNat - 1 : Nat) : Int) + 1))  (hS := hS)) rfl ?_
        clear hS; rintro _ w ⟨rfl, hS⟩
        replace hS := hS.n5 L rfl
        refine WL.new rfl rfl zv_302 hS (fun b4 w hS => ?_)
        refine WL.stF rfl rfl rfl 0 hS rfl rfl rfl rfl rfl ag_302 (fun w hS => ?_)
        replace hS := hS.n6 L (a0 := cel b4 #[.int .u32 (A.dmpAt (((x.toNat - 1 : Nat) : Int) + 1)).nd.lf, .int .u32 (A.dmpAt (((x.toNat - 1 : Nat) : Int) + 1)).nd.rg] 302) rfl
        refine WL.nil <| WC.region ?_
        have hus := unm_set (k := x.toNat - 1) (show bs[x.toNat - 1]? = some false by rw [hb]; simpa using cd2); have hnd : (A.dmpAt (((x.toNat - 1 : Nat) : Int) + 1)).nd = A.nd x := (by rw [show ((x.toNat - 1 : Nat) : Int) + 1 = x by omega]; rfl); have hl2 : (wt ++ [(A.dmpAt (((x.toNat - 1 : Nat) : Int) + 1)).nd.lf, (A.dmpAt (((x.toNat - 1 : Nat) : Int) + 1)).nd.rg]).length = wt.length + 2 := (by simp)
        refine WL.r 1 rfl <| WL.ixP rfl rfl (0) ap_302 rfl rfl (by omega) (by omega) ?_
        refine WL.run 1 [.int .u32 (A.dmpAt (((x.toNat - 1 : Nat) : Int) + 1)).nd.lf] rfl (by exact hS.ld 0 rfl rfl) ?_
        refine WL.ixP rfl rfl (1) ap_302 rfl rfl (by omega) (by omega) ?_
        refine WL.run 1 [.int .u32 (A.dmpAt (((x.toNat - 1 : Nat) : Int) + 1)).nd.rg] rfl (by exact hS.ld 0 rfl rfl) ?_
        refine WL.lit rfl rfl (u32s [(A.dmpAt (((x.toNat - 1 : Nat) : Int) + 1)).nd.lf, (A.dmpAt (((x.toNat - 1 : Nat) : Int) + 1)).nd.rg]) el_32 hS (by exact ⟨rfl, rfl, rfl, rfl⟩) (u32s_ok _) rfl (Nat.le_of_ble_eq_true rfl) (fun b5 w hS => ?_)
        refine WL.app rfl rfl 3 (u32s (wt ++ [(A.dmpAt (((x.toNat - 1 : Nat) : Int) + 1)).nd.lf, (A.dmpAt (((x.toNat - 1 : Nat) : Int) + 1)).nd.rg])) el_32 hS rfl (hS.srcO 0 rfl) (u32s_app _ _).symm (Rm.of (by first | omega | (simp <;> omega)) (by decide)) rfl rfl (fun a3 c2 w hS => ?_)
        replace hS := hS.n7 L (a0 := Own 64 1 (u32s [(A.dmpAt (((x.toNat - 1 : Nat) : Int) + 1)).nd.lf, (A.dmpAt (((x.toNat - 1 : Nat) : Int) + 1)).nd.rg]) (some ⟨b5, 0, none⟩) (List.length (u32s [(A.dmpAt (((x.toNat - 1 : Nat) : Int) + 1)).nd.lf, (A.dmpAt (((x.toNat - 1 : Nat) : Int) + 1)).nd.rg]))) (a3 := Own 64 1 (u32s (wt ++ [(A.dmpAt (((x.toNat - 1 : Nat) : Int) + 1)).nd.lf, (A.dmpAt (((x.toNat - 1 : Nat) : Int) + 1)).nd.rg])) a3 c2) rfl
        refine WL.r 1 rfl <| WL.nil ?_
        exact ⟨_, by omega, bs.set (x.toNat - 1) true, wt ++ [(A.dmpAt (((x.toNat - 1 : Nat) : Int) + 1)).nd.lf, (A.dmpAt (((x.toNat - 1 : Nat) : Int) + 1)).nd.rg], _, _, rfl, (hS.sel 6 [3, 3, 3, 2] rfl), (by rw [hnd, show x.toNat - 1 = (x - 1).toNat by omega]; exact hI.mark hor.1 (by omega) (kd_all hA hor.1 hok)), (by omega), rfl⟩
  · refine WC.exit <| WC.seq <| WC.region <| WL.r 2 rfl <| WL.nil <| WC.ret ?_
    refine ⟨[.slice (some ⟨b2, 0, none⟩) A.s.cap.toNat A.s.cap.toNat], rfl, ?_⟩
    replace hS := (hS.sel 3 [1] rfl)
    exact ⟨bs, _, _, by rw [bos_len, hI.len]; rfl, hS, hI.len, by have e9 : ws = [] := (by have := u32s_len ws; exact List.eq_nil_of_length_eq_zero (by omega)); subst e9; exact hI.all hA⟩
end Go.Proofs.YtbeacjcmdijdmaaGreat
/-! ## C5 -/
namespace Go.Proofs.YtbeacjcmdijdmaaGreat
open Go Go.V Go.RowKit
theorem c5_free {A : AM} {R : List Int} (h : ARf A R) {n : Nat} (hn : n < A.s.cap.toNat) : (((SM.order A.s).count ((n : Int) + 1) : Nat) : Int) = if A.s.ok ((n : Int) + 1) = true then 0 else 1 := by
  have hcr := cap_rng h
  rw [order_count h.s (by omega) (by omega)]
  split <;> rfl
theorem c5_cnt {A : AM} {R : List Int} (h : ARf A R) {n : Nat} (hok : A.s.ok ((n : Int) + 1) = true) : ((A.kids.count ((n : Int) + 1) : Nat) : Int) + ((R.count ((n : Int) + 1) : Nat) : Int) = A.cntD ((n : Int) + 1) := by
  have h1 := (h.cnt ((n : Int) + 1) hok (by omega)).1
  rw [List.count_append] at h1
  unfold AM.cntD; rw [if_pos hok]; omega
theorem cntD_le {A : AM} {R : List Int} (h : ARf A R) (i : Int) : A.cntD i ≤ 2000000000 := by
  unfold AM.cntD
  split
  · rename_i hi
    by_cases h0 : 0 ≤ i
    · exact (h.cnt_le hi h0).2
    · exfalso
      have e : i.toNat = 0 := by omega
      have hu := h.s.u0
      unfold SM.ok at hi hu
      rw [e] at hi
      rw [show (0 : Int).toNat = 0 from rfl] at hu
      rw [hu] at hi; cases hi
  · omega
theorem c5_no {A : AM} {n : Nat} (hok : ¬ A.s.ok ((n : Int) + 1) = true) : (0 : Int) = A.cntD ((n : Int) + 1) := by
  unfold AM.cntD; rw [if_neg hok]
def szK (A : AM) (x y : Int) (k : Nat) : Int := if k = 0 then 1 else if k = 1 then 1 + A.sz x else 1 + A.sz x + A.sz y
theorem szK_in {A : AM} {x y v : Int} {k : Nat} (hv : [x, y][k]? = some v) : szK A x y (k + 1) = szK A x y k + A.sz v := by
  match k, hv with
  | 0, hv => cases hv; rfl
  | 1, hv => cases hv; rfl
theorem szK_rng {A : AM} {R : List Int} (h : ARf A R) {j : Int} (h1 : 1 ≤ j) (hok : A.s.ok j = true) (k : Nat) : 1 ≤ szK A (A.nd j).lf (A.nd j).rg k ∧ szK A (A.nd j).lf (A.nd j).rg k ≤ 2147483647 := by
  have h2 := h.sz j hok (by omega)
  have h3 : ∀ c, 0 ≤ A.sz c := fun c => by
    unfold AM.sz
    split
    · rename_i hc
      by_cases c0 : 0 ≤ c
      · have := h.pos c hc c0; omega
      · exfalso
        have e : c.toNat = 0 := by omega
        have hu := h.s.u0
        unfold SM.ok at hc hu
        rw [e] at hc
        rw [show (0 : Int).toNat = 0 from rfl] at hu
        rw [hu] at hc; cases hc
    · omega
  have h4 := h3 (A.nd j).lf
  have h5 := h3 (A.nd j).rg
  unfold szK
  split
  · omega
  · split <;> omega
theorem kd_mem {x y v : Int} {k : Nat} (h : [x, y][k]? = some v) : v = x ∨ v = y := by
  match k, h with
  | 0, h => cases h; exact .inl rfl
  | 1, h => cases h; exact .inr rfl
theorem sz_no {A : AM} {c : Int} (h : ¬ A.s.ok c = true) : A.sz c = 0 := if_neg h
set_option maxHeartbeats 4000000 in
set_option maxRecDepth 8192 in
theorem c6_check {g w : World} {L : List HP} (A : AM) (R : List Int) (da fa ra : Option Addr) (dc fc rc : Nat) (hA : ARf A R) (hRl : R.length ≤ 1000000) (hS : St g (Sh 174 11 (sls (AM.dmp A)) da dc :: Sh 64 1 (u32s (SM.order A.s)) fa fc :: Sh 64 1 (u32s R) ra rc :: L) w) :
    Sp Tryz.prog 184 [.agg #[.slice da (List.length (sls (AM.dmp A))) dc, .slice fa (List.length (u32s (SM.order A.s))) fc], .slice ra (List.length (u32s R)) rc] w (fun v w' => v = .slice none 0 0 ∧ St g (Sh 174 11 (sls (AM.dmp A)) da dc :: Sh 64 1 (u32s (SM.order A.s)) fa fc :: Sh 64 1 (u32s R) ra rc :: L) w') := by
  refine Sp.enter Tryz.func184 rfl (by kernel_rfl) (by kernel_rfl) ?_
  refine WC.seq <| WC.region <| WL.box rfl rfl #[.slice da (List.length (sls (AM.dmp A))) dc, .slice fa (List.length (u32s (SM.order A.s))) fc] hS rfl rfl (fun b1 w hS => ?_)
  refine WL.r 1 rfl <| WL.nil <| WC.seq <| WC.region <| WL.r 1 rfl <| WL.nil <| WC.seq <| WC.plan [([0, 2, 3], some (1, [2, 3])), ([], some (4, [])), ([5, 6], none)] (by kernel_rfl) (by kernel_rfl) ?_
  have hn := dmp_n A; have hcr := cap_rng hA; have hul := u32s_len R; have hol := u32s_len (SM.order A.s); have hog := order_n hA.s; have hfr := hA.s.free_rng; have hor := order_rng hA.s; have hce : (((sls (AM.dmp A)).length : Nat) : Int) = A.s.cap := (by omega)
  refine WQ.ldF rfl rfl 0 hS rfl rfl ag_62 <| WQ.ldF rfl rfl 0 hS rfl rfl ag_62 <| WQ.r 1 rfl <| WQ.nil ?_
  intro m1
  replace hS := hS.drewN m1; generalize hwm1 : World.drewN _ _ = w at *; clear hwm1
  refine WL.call rfl rfl (c6_edges (A := A) (R := R) (fa := fa) (fc := fc) (hA := hA) (hS := (hS.sel 2 [1, 0] rfl))) rfl ?_
  clear hS; rintro _ w ⟨u1, d1, rfl, hS⟩
  replace hS := hS.n5 L (a0 := Own 3 1 (i64s (cntL A.kids A.s.cap.toNat)) u1 d1) (a2 := cel b1 #[.slice da (List.length (sls (AM.dmp A))) dc, .slice fa (List.length (u32s (SM.order A.s))) fc] 62) rfl
  refine WL.nil ?_
  refine ⟨by exact ⟨RQ.ldF rfl rfl 2 hS rfl rfl ag_62 rfl rfl, RQ.pure rfl rfl rfl rfl⟩, ?_⟩
  refine WQ.nil ?_
  intro m2
  replace hS := hS.drewN m2; generalize hwm2 : World.drewN _ _ = w at *; clear hwm2
  refine WL.call rfl rfl (c6_marks (A := A) (fa := fa) (fc := fc) (hA := hA) (hRl := hRl) (hS := (hS.sel 5 [1, 3, 0, 0, 0] rfl))) rfl ?_
  clear hS; rintro _ w ⟨bs1, u2, d2, rfl, hS, f1, f2⟩
  replace hS := hS.n6 L (a0 := Own 4 1 (bos bs1) u2 d2) rfl
  refine WL.nil ?_
  refine ⟨by exact trivial, ?_⟩
  refine WQ.r 2 rfl <| WQ.nil ?_
  intro m3
  replace hS := hS.drewN m3; generalize hwm3 : World.drewN _ _ = w at *; clear hwm3
  as_aux_lemma =>
  refine WC.seq <| WC.plan [([0, 2, 6, 7, 1, 3, 8, 4, 9], some (5, [6, 7, 8, 9])), ([], some (10, [])), ([11, 12], none)] (by kernel_rfl) (by kernel_rfl) ?_
  refine WQ.run 9 [.slice fa (List.length (u32s (SM.order A.s))) fc, .slice da (List.length (sls (AM.dmp A))) dc, .slice da (List.length (sls (AM.dmp A))) dc] rfl (by exact ⟨hS.ld 4 rfl rfl, hS.ld 4 rfl rfl, hS.ld 4 rfl rfl⟩) ?_
  refine WQ.nil ?_
  intro m4
  replace hS := hS.drewN m4; generalize hwm4 : World.drewN _ _ = w at *; clear hwm4
  refine WL.call rfl rfl (c6_counts (l := SM.order A.s) (n := List.length (sls (AM.dmp A))) (hn := (by omega)) (hl := (by omega)) (hr := (fun x hx => by have := hor x hx; omega)) (hS := (hS.sel 6 [5, 0, 0, 0, 0, 0] rfl))) rfl ?_
  clear hS; rintro _ w ⟨u3, d3, rfl, hS⟩
  replace hS := hS.n7 L (a0 := Own 3 1 (i64s (cntL (SM.order A.s) (List.length (sls (AM.dmp A))))) u3 d3) rfl
  refine WL.nil ?_
  refine ⟨by exact ⟨RQ.pure rfl rfl rfl rfl, RQ.pure rfl rfl rfl rfl, RQ.load rfl rfl rfl rfl (hS.ld 6 rfl rfl), RQ.pure rfl rfl rfl rfl⟩, ?_⟩
  refine WQ.nil ?_
  intro m5
  replace hS := hS.drewN m5; generalize hwm5 : World.drewN _ _ = w at *; clear hwm5
  refine WL.call rfl rfl (c6_counts (n := List.length (sls (AM.dmp A))) (hn := (by omega)) (hl := (by omega)) (hr := (ref_rng hA)) (hS := (hS.sel 5 [4, 0, 0, 0, 0] rfl))) rfl ?_
  clear hS; rintro _ w ⟨u4, d4, rfl, hS⟩
  replace hS := hS.n8 L (a0 := Own 3 1 (i64s (cntL R (List.length (sls (AM.dmp A))))) u4 d4) rfl
  refine WL.nil ?_
  refine ⟨by exact trivial, ?_⟩
  refine WQ.r 2 rfl <| WQ.nil ?_
  intro m6
  replace hS := hS.drewN m6; generalize hwm6 : World.drewN _ _ = w at *; clear hwm6
  refine WC.seq <| WC.seq <| WC.region <| WL.r 1 rfl <| WL.nil ?_
  as_aux_lemma =>
  refine WC.block <| WC.loop [1, 2, 4, 5, 6, 7, 8, 9, 10] (fun kM vs w => ∃ (n : Nat), vs = [.slice ra (List.length (u32s R)) rc, .pointer (some ⟨b1, 0, none⟩), .slice none 0 0, .slice none 0 0, .slice u1 (List.length (i64s (cntL A.kids A.s.cap.toNat))) d1, .slice u2 (List.length (bos bs1)) d2, .slice u3 (List.length (i64s (cntL (SM.order A.s) (List.length (sls (AM.dmp A)))))) d3, .slice u4 (List.length (i64s (cntL R (List.length (sls (AM.dmp A)))))) d4, .int .i64 (n : Int)] ∧ St g (Own 3 1 (i64s (cntL R (List.length (sls (AM.dmp A))))) u4 d4 :: Sh 64 1 (u32s R) ra rc :: Own 3 1 (i64s (cntL (SM.order A.s) (List.length (sls (AM.dmp A))))) u3 d3 :: Sh 64 1 (u32s (SM.order A.s)) fa fc :: Own 4 1 (bos bs1) u2 d2 :: Sh 174 11 (sls (AM.dmp A)) da dc :: Own 3 1 (i64s (cntL A.kids A.s.cap.toNat)) u1 d1 :: cel b1 #[.slice da (List.length (sls (AM.dmp A))) dc, .slice fa (List.length (u32s (SM.order A.s))) fc] 62 :: L) w ∧ (n ≤ A.s.cap.toNat) ∧ (A.s.cap.toNat - n) = kM) (A.s.cap.toNat - 0) ⟨0, rfl, hS, (Nat.zero_le _), rfl⟩ ?_
  clear hS; rintro _ _ w j ⟨n, rfl, hS, hnl, rfl⟩
  refine WC.seq <| WC.seq <| WC.region <| WL.run 5 [.slice da (List.length (sls (AM.dmp A))) dc] rfl (by exact hS.ld 7 rfl rfl) ?_
  refine WL.nil <| WC.ifP rfl (fun cd1 => ?_) (fun cd1 => ?_)
  · refine WC.skip <| WC.seq <| WC.block <| WC.seq <| WC.plan [([0, 3, 5, 1, 4, 2, 6, 7], some (8, [0, 1, 2, 3, 4, 5, 6, 7])), ([9], some (10, []))] (by kernel_rfl) (by kernel_rfl) ?_
    refine WQ.r 4 rfl <| WQ.nw 45 rfl (w64 (by omega)) ?_
    refine WQ.run 2 [.slice da (List.length (sls (AM.dmp A))) dc] rfl (by exact hS.ld 7 rfl rfl) ?_
    refine WQ.nw 46 rfl (wu32 (by omega)) ?_
    have hkl := cntL_len A.kids A.s.cap.toNat; have hrl := cntL_len R (sls (AM.dmp A)).length; have hdl := cntL_len (SM.order A.s) (sls (AM.dmp A)).length; have hi1 := i64s_len (cntL A.kids A.s.cap.toNat); have hi2 := i64s_len (cntL R (sls (AM.dmp A)).length); have hi3 := i64s_len (cntL (SM.order A.s) (sls (AM.dmp A)).length); have hbl := bos_len bs1
    refine WQ.ix rfl rfl (i := (n : Int)) (n) el_60 rfl rfl (by omega) (by omega) (hS.rdS 5 rfl (sls_at (AM.dmp_at (A := A) (k := n) (by omega)))).1 ?_
    refine WQ.ldC rfl rfl [.bool (A.dmpAt ((n : Int) + 1)).al, .int .i64 (A.dmpAt ((n : Int) + 1)).cn, .int .u32 (A.dmpAt ((n : Int) + 1)).ge, .int .i64 (A.dmpAt ((n : Int) + 1)).nd.key, .int .i64 (A.dmpAt ((n : Int) + 1)).nd.val, .int .u32 (A.dmpAt ((n : Int) + 1)).nd.lf, .int .u32 (A.dmpAt ((n : Int) + 1)).nd.rg, .int .i64 (A.dmpAt ((n : Int) + 1)).nd.size, .int .i64 (A.dmpAt ((n : Int) + 1)).nd.sum, .int .i64 (A.dmpAt ((n : Int) + 1)).nd.mn, .int .i64 (A.dmpAt ((n : Int) + 1)).nd.mx] ag_174 rfl (hS.rdS 5 rfl (sls_at (AM.dmp_at (A := A) (k := n) (by omega)))).2 ?_
    refine WQ.nil ?_
    intro m7
    replace hS := hS.drewN m7; generalize hwm7 : World.drewN _ _ = w at *; clear hwm7
    refine WL.new rfl rfl zv_174 hS (fun b2 w hS => ?_)
    refine WL.nil ?_
    refine ⟨by exact ⟨RQ.pure rfl rfl rfl rfl, RQ.pure rfl rfl rfl (congrArg (Value.int .i64) (Eq.symm (w64 (by omega)))), RQ.pure rfl rfl rfl (congrArg (Value.int .u32) (Eq.symm (wu32 (by omega)))), RQ.pure rfl rfl rfl rfl, RQ.load rfl rfl rfl rfl (hS.ld 8 rfl rfl), RQ.pure rfl rfl rfl rfl, RQ.ix rfl rfl (i := (n : Int)) (n) el_60 rfl rfl (by omega) (by omega) (hS.rdS 6 rfl (sls_at (AM.dmp_at (A := A) (k := n) (by omega)))).1 rfl rfl, RQ.ldC rfl rfl [.bool (A.dmpAt ((n : Int) + 1)).al, .int .i64 (A.dmpAt ((n : Int) + 1)).cn, .int .u32 (A.dmpAt ((n : Int) + 1)).ge, .int .i64 (A.dmpAt ((n : Int) + 1)).nd.key, .int .i64 (A.dmpAt ((n : Int) + 1)).nd.val, .int .u32 (A.dmpAt ((n : Int) + 1)).nd.lf, .int .u32 (A.dmpAt ((n : Int) + 1)).nd.rg, .int .i64 (A.dmpAt ((n : Int) + 1)).nd.size, .int .i64 (A.dmpAt ((n : Int) + 1)).nd.sum, .int .i64 (A.dmpAt ((n : Int) + 1)).nd.mn, .int .i64 (A.dmpAt ((n : Int) + 1)).nd.mx] ag_174 rfl (hS.rdS 6 rfl (sls_at (AM.dmp_at (A := A) (k := n) (by omega)))).2 rfl rfl⟩, ?_⟩
    refine WQ.r 1 rfl <| WQ.nil ?_
    intro m8
    replace hS := hS.drewN m8; generalize hwm8 : World.drewN _ _ = w at *; clear hwm8
    refine WL.stF rfl rfl rfl 0 hS rfl rfl rfl rfl rfl ag_174 (fun w hS => ?_)
    replace hS := hS.n9 L (a0 := cel b2 #[.bool (A.dmpAt ((n : Int) + 1)).al, .int .i64 (A.dmpAt ((n : Int) + 1)).cn, .int .u32 (A.dmpAt ((n : Int) + 1)).ge, .int .i64 (A.dmpAt ((n : Int) + 1)).nd.key, .int .i64 (A.dmpAt ((n : Int) + 1)).nd.val, .int .u32 (A.dmpAt ((n : Int) + 1)).nd.lf, .int .u32 (A.dmpAt ((n : Int) + 1)).nd.rg, .int .i64 (A.dmpAt ((n : Int) + 1)).nd.size, .int .i64 (A.dmpAt ((n : Int) + 1)).nd.sum, .int .i64 (A.dmpAt ((n : Int) + 1)).nd.mn, .int .i64 (A.dmpAt ((n : Int) + 1)).nd.mx] 174) rfl
    refine WL.nil ?_
    refine ⟨by exact trivial, ?_⟩
    intro m9
    replace hS := hS.drewN m9; generalize hwm9 : World.drewN _ _ = w at *; clear hwm9
    as_aux_lemma =>
    refine WC.seq <| WC.region <| WL.r 1 rfl <| WL.nil <| WC.seq <| WC.seq <| WC.region <| WL.run 2 [.bool (A.dmpAt ((n : Int) + 1)).al] rfl (by exact hS.ld 0 rfl rfl) ?_
    refine WL.nil <| WC.cut [1, 2, 4, 5, 6, 7, 8, 9, 10, 11, 12, 13, 37, 38, 39, 40, 41, 44, 45, 46, 47, 48, 49, 50, 51, 52, 53] (fun vs w => ∃ (fr : Int), vs = [.slice ra (List.length (u32s R)) rc, .pointer (some ⟨b1, 0, none⟩), .slice none 0 0, .slice none 0 0, .slice u1 (List.length (i64s (cntL A.kids A.s.cap.toNat))) d1, .slice u2 (List.length (bos bs1)) d2, .slice u3 (List.length (i64s (cntL (SM.order A.s) (List.length (sls (AM.dmp A)))))) d3, .slice u4 (List.length (i64s (cntL R (List.length (sls (AM.dmp A)))))) d4, .int .i64 (n : Int), .int .u32 ((n : Int) + 1), .pointer (some ⟨b2, 0, none⟩), .int .i64 fr, .int .i64 (n : Int), .pointer (some ⟨b1, 0, none⟩), .slice da (List.length (sls (AM.dmp A))) dc, .int .i64 (List.length (sls (AM.dmp A)) : Int), .bool (decide ((n : Int) < (List.length (sls (AM.dmp A)) : Int))), .int .i64 (n : Int), .int .i64 ((n : Int) + 1), .int .u32 ((n : Int) + 1), .pointer (some ⟨b1, 0, none⟩), .slice da (List.length (sls (AM.dmp A))) dc, .int .i64 (n : Int), .pointer (some ⟨bo da, (oo da) + (n * 11), none⟩), .agg #[.bool (A.dmpAt ((n : Int) + 1)).al, .int .i64 (A.dmpAt ((n : Int) + 1)).cn, .int .u32 (A.dmpAt ((n : Int) + 1)).ge, .int .i64 (A.dmpAt ((n : Int) + 1)).nd.key, .int .i64 (A.dmpAt ((n : Int) + 1)).nd.val, .int .u32 (A.dmpAt ((n : Int) + 1)).nd.lf, .int .u32 (A.dmpAt ((n : Int) + 1)).nd.rg, .int .i64 (A.dmpAt ((n : Int) + 1)).nd.size, .int .i64 (A.dmpAt ((n : Int) + 1)).nd.sum, .int .i64 (A.dmpAt ((n : Int) + 1)).nd.mn, .int .i64 (A.dmpAt ((n : Int) + 1)).nd.mx], .pointer (some ⟨b2, 0, none⟩), .bool (A.dmpAt ((n : Int) + 1)).al] ∧ St g (cel b2 #[.bool (A.dmpAt ((n : Int) + 1)).al, .int .i64 (A.dmpAt ((n : Int) + 1)).cn, .int .u32 (A.dmpAt ((n : Int) + 1)).ge, .int .i64 (A.dmpAt ((n : Int) + 1)).nd.key, .int .i64 (A.dmpAt ((n : Int) + 1)).nd.val, .int .u32 (A.dmpAt ((n : Int) + 1)).nd.lf, .int .u32 (A.dmpAt ((n : Int) + 1)).nd.rg, .int .i64 (A.dmpAt ((n : Int) + 1)).nd.size, .int .i64 (A.dmpAt ((n : Int) + 1)).nd.sum, .int .i64 (A.dmpAt ((n : Int) + 1)).nd.mn, .int .i64 (A.dmpAt ((n : Int) + 1)).nd.mx] 174 :: Own 3 1 (i64s (cntL R (List.length (sls (AM.dmp A))))) u4 d4 :: Sh 64 1 (u32s R) ra rc :: Own 3 1 (i64s (cntL (SM.order A.s) (List.length (sls (AM.dmp A))))) u3 d3 :: Sh 64 1 (u32s (SM.order A.s)) fa fc :: Own 4 1 (bos bs1) u2 d2 :: Sh 174 11 (sls (AM.dmp A)) da dc :: Own 3 1 (i64s (cntL A.kids A.s.cap.toNat)) u1 d1 :: cel b1 #[.slice da (List.length (sls (AM.dmp A))) dc, .slice fa (List.length (u32s (SM.order A.s))) fc] 62 :: L) w ∧ (fr = if A.s.ok ((n : Int) + 1) = true then 0 else 1)) ?_ ?_
    · refine WC.if_ rfl (fun cd2 => ?_) (fun cd2 => ?_)
      · refine WC.region <| WL.r 1 rfl <| WL.nil ?_
        exact ⟨0, rfl, hS, (if_pos cd2).symm⟩
      · refine WC.skip ?_
        exact ⟨1, rfl, hS, (if_neg (Bool.eq_false_iff.1 cd2)).symm⟩
    clear hS; rintro _ w j ⟨fr, rfl, hS, hfe⟩
    refine WC.seq <| WC.seq <| WC.region <| WL.r 2 rfl <| WL.ix rfl rfl (i := (n : Int)) (n) el_56 rfl rfl (by omega) (by omega) (hS.rdO 3 rfl (i64s_at (cntL_at (l := SM.order A.s) (n := (sls (AM.dmp A)).length) (k := n) (by omega)))).1 ?_
    refine WL.run 2 [.int .i64 (((SM.order A.s).count ((n : Int) + 1) : Nat) : Int)] rfl (by exact (hS.rdO 3 rfl (i64s_at (cntL_at (l := SM.order A.s) (n := (sls (AM.dmp A)).length) (k := n) (by omega)))).2 0 _ rfl) ?_
    refine WL.nil <| WC.seq <| WC.region <| WL.r 3 rfl <| WL.nil <| WC.ifF rfl (decide_eq_false ((by rw [hfe, c5_free hA (by omega)]; simp))) ?_
    refine WC.skip <| WC.seq <| WC.region <| WL.r 1 rfl <| WL.nil ?_
    as_aux_lemma =>
    refine WC.seq <| WC.seq <| WC.region <| WL.run 2 [.bool (A.dmpAt ((n : Int) + 1)).al] rfl (by exact hS.ld 0 rfl rfl) ?_
    refine WL.nil <| WC.cut [1, 2, 4, 5, 6, 7, 8, 9, 10, 11, 12, 13, 14, 15, 37, 38, 39, 40, 41, 44, 45, 46, 47, 48, 49, 50, 51, 52, 53, 54, 55, 56, 57, 58, 59, 60, 68, 69] (fun vs w => ∃ (ct : Int), vs = [.slice ra (List.length (u32s R)) rc, .pointer (some ⟨b1, 0, none⟩), .slice none 0 0, .slice none 0 0, .slice u1 (List.length (i64s (cntL A.kids A.s.cap.toNat))) d1, .slice u2 (List.length (bos bs1)) d2, .slice u3 (List.length (i64s (cntL (SM.order A.s) (List.length (sls (AM.dmp A)))))) d3, .slice u4 (List.length (i64s (cntL R (List.length (sls (AM.dmp A)))))) d4, .int .i64 (n : Int), .int .u32 ((n : Int) + 1), .pointer (some ⟨b2, 0, none⟩), .int .i64 fr, .int .i64 (((SM.order A.s).count ((n : Int) + 1) : Nat) : Int), .int .i64 ct, .int .i64 (n : Int), .pointer (some ⟨b1, 0, none⟩), .slice da (List.length (sls (AM.dmp A))) dc, .int .i64 (List.length (sls (AM.dmp A)) : Int), .bool (decide ((n : Int) < (List.length (sls (AM.dmp A)) : Int))), .int .i64 (n : Int), .int .i64 ((n : Int) + 1), .int .u32 ((n : Int) + 1), .pointer (some ⟨b1, 0, none⟩), .slice da (List.length (sls (AM.dmp A))) dc, .int .i64 (n : Int), .pointer (some ⟨bo da, (oo da) + (n * 11), none⟩), .agg #[.bool (A.dmpAt ((n : Int) + 1)).al, .int .i64 (A.dmpAt ((n : Int) + 1)).cn, .int .u32 (A.dmpAt ((n : Int) + 1)).ge, .int .i64 (A.dmpAt ((n : Int) + 1)).nd.key, .int .i64 (A.dmpAt ((n : Int) + 1)).nd.val, .int .u32 (A.dmpAt ((n : Int) + 1)).nd.lf, .int .u32 (A.dmpAt ((n : Int) + 1)).nd.rg, .int .i64 (A.dmpAt ((n : Int) + 1)).nd.size, .int .i64 (A.dmpAt ((n : Int) + 1)).nd.sum, .int .i64 (A.dmpAt ((n : Int) + 1)).nd.mn, .int .i64 (A.dmpAt ((n : Int) + 1)).nd.mx], .pointer (some ⟨b2, 0, none⟩), .bool (A.dmpAt ((n : Int) + 1)).al, .slice u3 (List.length (i64s (cntL (SM.order A.s) (List.length (sls (AM.dmp A)))))) d3, .int .i64 (n : Int), .pointer (some ⟨bo u3, (oo u3) + (n * 1), none⟩), .int .i64 (((SM.order A.s).count ((n : Int) + 1) : Nat) : Int), .int .i64 (((SM.order A.s).count ((n : Int) + 1) : Nat) : Int), .int .i64 fr, .bool (decide ((((SM.order A.s).count ((n : Int) + 1) : Nat) : Int) ≠ fr)), .pointer (some ⟨b2, 0, none⟩), .bool (A.dmpAt ((n : Int) + 1)).al] ∧ St g (cel b2 #[.bool (A.dmpAt ((n : Int) + 1)).al, .int .i64 (A.dmpAt ((n : Int) + 1)).cn, .int .u32 (A.dmpAt ((n : Int) + 1)).ge, .int .i64 (A.dmpAt ((n : Int) + 1)).nd.key, .int .i64 (A.dmpAt ((n : Int) + 1)).nd.val, .int .u32 (A.dmpAt ((n : Int) + 1)).nd.lf, .int .u32 (A.dmpAt ((n : Int) + 1)).nd.rg, .int .i64 (A.dmpAt ((n : Int) + 1)).nd.size, .int .i64 (A.dmpAt ((n : Int) + 1)).nd.sum, .int .i64 (A.dmpAt ((n : Int) + 1)).nd.mn, .int .i64 (A.dmpAt ((n : Int) + 1)).nd.mx] 174 :: Own 3 1 (i64s (cntL R (List.length (sls (AM.dmp A))))) u4 d4 :: Sh 64 1 (u32s R) ra rc :: Own 3 1 (i64s (cntL (SM.order A.s) (List.length (sls (AM.dmp A))))) u3 d3 :: Sh 64 1 (u32s (SM.order A.s)) fa fc :: Own 4 1 (bos bs1) u2 d2 :: Sh 174 11 (sls (AM.dmp A)) da dc :: Own 3 1 (i64s (cntL A.kids A.s.cap.toNat)) u1 d1 :: cel b1 #[.slice da (List.length (sls (AM.dmp A))) dc, .slice fa (List.length (u32s (SM.order A.s))) fc] 62 :: L) w ∧ (ct = A.cntD ((n : Int) + 1))) ?_ ?_
    · refine WC.if_ rfl (fun cd2 => ?_) (fun cd2 => ?_)
      · refine WC.seq <| WC.region <| WL.ldF rfl rfl 0 hS rfl rfl ag_174 <| WL.call rfl rfl (c6_kids (x := A.dmpAt ((n : Int) + 1))  (hS := hS)) rfl ?_
        clear hS; rintro _ w ⟨rfl, hS⟩
        replace hS := hS.n9 L rfl
        refine WL.new rfl rfl zv_302 hS (fun b3 w hS => ?_)
        refine WL.stF rfl rfl rfl 0 hS rfl rfl rfl rfl rfl ag_302 (fun w hS => ?_)
        replace hS := hS.n10 L (a0 := cel b3 #[.int .u32 (A.dmpAt ((n : Int) + 1)).nd.lf, .int .u32 (A.dmpAt ((n : Int) + 1)).nd.rg] 302) rfl
        refine WL.nil <| WC.seq <| WC.region <| WL.r 1 rfl <| WL.nil <| WC.seq <| WC.seq <| WC.region <| WL.r 1 rfl <| WL.nil ?_
        as_aux_lemma =>
        refine WC.block <| WC.loop [1, 2, 4, 5, 6, 7, 8, 9, 10, 11, 12, 13, 14, 15, 16, 17, 18, 37, 38, 39, 40, 41, 44, 45, 46, 47, 48, 49, 50, 51, 52, 53, 54, 55, 56, 57, 58, 59, 60, 68, 69, 70, 71] (fun kM vs w => ∃ (k : Nat) (sz : Int), vs = [.slice ra (List.length (u32s R)) rc, .pointer (some ⟨b1, 0, none⟩), .slice none 0 0, .slice none 0 0, .slice u1 (List.length (i64s (cntL A.kids A.s.cap.toNat))) d1, .slice u2 (List.length (bos bs1)) d2, .slice u3 (List.length (i64s (cntL (SM.order A.s) (List.length (sls (AM.dmp A)))))) d3, .slice u4 (List.length (i64s (cntL R (List.length (sls (AM.dmp A)))))) d4, .int .i64 (n : Int), .int .u32 ((n : Int) + 1), .pointer (some ⟨b2, 0, none⟩), .int .i64 fr, .int .i64 (((SM.order A.s).count ((n : Int) + 1) : Nat) : Int), .int .i64 0, .pointer (some ⟨b3, 0, none⟩), .int .i64 sz, .int .i64 (k : Int), .int .i64 (n : Int), .pointer (some ⟨b1, 0, none⟩), .slice da (List.length (sls (AM.dmp A))) dc, .int .i64 (List.length (sls (AM.dmp A)) : Int), .bool (decide ((n : Int) < (List.length (sls (AM.dmp A)) : Int))), .int .i64 (n : Int), .int .i64 ((n : Int) + 1), .int .u32 ((n : Int) + 1), .pointer (some ⟨b1, 0, none⟩), .slice da (List.length (sls (AM.dmp A))) dc, .int .i64 (n : Int), .pointer (some ⟨bo da, (oo da) + (n * 11), none⟩), .agg #[.bool (A.dmpAt ((n : Int) + 1)).al, .int .i64 (A.dmpAt ((n : Int) + 1)).cn, .int .u32 (A.dmpAt ((n : Int) + 1)).ge, .int .i64 (A.dmpAt ((n : Int) + 1)).nd.key, .int .i64 (A.dmpAt ((n : Int) + 1)).nd.val, .int .u32 (A.dmpAt ((n : Int) + 1)).nd.lf, .int .u32 (A.dmpAt ((n : Int) + 1)).nd.rg, .int .i64 (A.dmpAt ((n : Int) + 1)).nd.size, .int .i64 (A.dmpAt ((n : Int) + 1)).nd.sum, .int .i64 (A.dmpAt ((n : Int) + 1)).nd.mn, .int .i64 (A.dmpAt ((n : Int) + 1)).nd.mx], .pointer (some ⟨b2, 0, none⟩), .bool (A.dmpAt ((n : Int) + 1)).al, .slice u3 (List.length (i64s (cntL (SM.order A.s) (List.length (sls (AM.dmp A)))))) d3, .int .i64 (n : Int), .pointer (some ⟨bo u3, (oo u3) + (n * 1), none⟩), .int .i64 (((SM.order A.s).count ((n : Int) + 1) : Nat) : Int), .int .i64 (((SM.order A.s).count ((n : Int) + 1) : Nat) : Int), .int .i64 fr, .bool (decide ((((SM.order A.s).count ((n : Int) + 1) : Nat) : Int) ≠ fr)), .pointer (some ⟨b2, 0, none⟩), .bool (A.dmpAt ((n : Int) + 1)).al, .agg #[.bool (A.dmpAt ((n : Int) + 1)).al, .int .i64 (A.dmpAt ((n : Int) + 1)).cn, .int .u32 (A.dmpAt ((n : Int) + 1)).ge, .int .i64 (A.dmpAt ((n : Int) + 1)).nd.key, .int .i64 (A.dmpAt ((n : Int) + 1)).nd.val, .int .u32 (A.dmpAt ((n : Int) + 1)).nd.lf, .int .u32 (A.dmpAt ((n : Int) + 1)).nd.rg, .int .i64 (A.dmpAt ((n : Int) + 1)).nd.size, .int .i64 (A.dmpAt ((n : Int) + 1)).nd.sum, .int .i64 (A.dmpAt ((n : Int) + 1)).nd.mn, .int .i64 (A.dmpAt ((n : Int) + 1)).nd.mx], .agg #[.int .u32 (A.dmpAt ((n : Int) + 1)).nd.lf, .int .u32 (A.dmpAt ((n : Int) + 1)).nd.rg]] ∧ St g (cel b3 (kd2 (A.nd ((n : Int) + 1)).lf (A.nd ((n : Int) + 1)).rg) 302 :: cel b2 #[.bool (A.dmpAt ((n : Int) + 1)).al, .int .i64 (A.dmpAt ((n : Int) + 1)).cn, .int .u32 (A.dmpAt ((n : Int) + 1)).ge, .int .i64 (A.dmpAt ((n : Int) + 1)).nd.key, .int .i64 (A.dmpAt ((n : Int) + 1)).nd.val, .int .u32 (A.dmpAt ((n : Int) + 1)).nd.lf, .int .u32 (A.dmpAt ((n : Int) + 1)).nd.rg, .int .i64 (A.dmpAt ((n : Int) + 1)).nd.size, .int .i64 (A.dmpAt ((n : Int) + 1)).nd.sum, .int .i64 (A.dmpAt ((n : Int) + 1)).nd.mn, .int .i64 (A.dmpAt ((n : Int) + 1)).nd.mx] 174 :: Own 3 1 (i64s (cntL R (List.length (sls (AM.dmp A))))) u4 d4 :: Sh 64 1 (u32s R) ra rc :: Own 3 1 (i64s (cntL (SM.order A.s) (List.length (sls (AM.dmp A))))) u3 d3 :: Sh 64 1 (u32s (SM.order A.s)) fa fc :: Own 4 1 (bos bs1) u2 d2 :: Sh 174 11 (sls (AM.dmp A)) da dc :: Own 3 1 (i64s (cntL A.kids A.s.cap.toNat)) u1 d1 :: cel b1 #[.slice da (List.length (sls (AM.dmp A))) dc, .slice fa (List.length (u32s (SM.order A.s))) fc] 62 :: L) w ∧ (k ≤ 2) ∧ (sz = szK A (A.nd ((n : Int) + 1)).lf (A.nd ((n : Int) + 1)).rg k) ∧ (2 - k) = kM) (2 - 0) ⟨0, 1, rfl, hS, (Nat.zero_le _), (rfl), rfl⟩ ?_
        clear hS; rintro _ _ w j ⟨k, sz, rfl, hS, hk, hsz, rfl⟩
        refine WC.seq <| WC.seq <| WC.region <| WL.r 2 rfl <| WL.nil <| WC.ifP rfl (fun cd3 => ?_) (fun cd3 => ?_)
        · refine WC.skip <| WC.seq <| WC.block <| WC.seq <| WC.plan [([0, 1, 2, 3], some (4, []))] (by kernel_rfl) (by kernel_rfl) ?_
          obtain ⟨v, hv⟩ : ∃ v, [(A.nd ((n : Int) + 1)).lf, (A.nd ((n : Int) + 1)).rg][k]? = some v := ⟨_, List.getElem?_eq_getElem (by show k < 2; omega)⟩; have hvr := kd_rng hA hv
          refine WQ.ldF rfl rfl 9 hS rfl rfl ag_62 <| WQ.r 1 rfl <| WQ.ixP rfl rfl (k) ap_302 rfl rfl (by omega) (by omega) ?_
          refine WQ.run 1 [.int .u32 v] rfl (by exact hS.ld 0 rfl (kd2_at hv)) ?_
          refine WQ.nil ?_
          intro m10
          replace hS := hS.drewN m10; generalize hwm10 : World.drewN _ _ = w at *; clear hwm10
          refine WL.call rfl rfl (c6_alloc (A := A) (fa := fa) (fc := fc) (i := v) (hA := hA) (hi := (by omega)) (hS := (hS.sel 8 [7, 0, 0, 0, 0, 0, 0, 0] rfl))) rfl ?_
          clear hS; rintro _ w ⟨b4, rfl, hS, f3⟩
          replace hS := hS.n10 L rfl
          refine WL.nil ?_
          refine ⟨by exact trivial, ?_⟩
          intro m11
          replace hS := hS.drewN m11; generalize hwm11 : World.drewN _ _ = w at *; clear hwm11
          as_aux_lemma =>
          refine WC.if_ rfl (fun cd4 => ?_) (fun cd4 => ?_)
          · refine WC.plan [([0, 1, 3, 2], some (4, [0, 1, 2])), ([5, 6], some (7, [0])), ([8, 9, 10, 11], some (12, []))] (by kernel_rfl) (by kernel_rfl) ?_
            have hok : A.s.ok v = true := (by rw [← f3]; exact cd4); have hor := SM.ok_rng hA.s (i := v) hvr.1 hok; have hzr := szK_rng hA (j := (n : Int) + 1) (by omega) cd2 (k + 1); rw [szK_in hv, ← hsz] at hzr; have hzv : (A.dmpAt (((v.toNat - 1 : Nat) : Int) + 1)).nd.size = A.sz v := (by rw [show ((v.toNat - 1 : Nat) : Int) + 1 = v by omega, sz_ok hok]; rfl)
            refine WQ.run 4 [.slice da (List.length (sls (AM.dmp A))) dc] rfl (by exact hS.ld 9 rfl rfl) ?_
            refine WQ.nil ?_
            intro m12
            replace hS := hS.drewN m12; generalize hwm12 : World.drewN _ _ = w at *; clear hwm12
            refine WL.ixP rfl rfl (k) ap_302 rfl rfl (by omega) (by omega) ?_
            refine WL.nil ?_
            refine ⟨by exact ⟨RQ.pure rfl rfl rfl rfl, RQ.pure rfl rfl rfl rfl, RQ.load rfl rfl rfl rfl (hS.ld 9 rfl rfl)⟩, ?_⟩
            refine WQ.run 2 [.int .u32 v] rfl (by exact hS.ld 1 rfl (kd2_at hv)) ?_
            refine WQ.nw 87 rfl (wu32 (by omega)) ?_
            refine WQ.nil ?_
            intro m13
            replace hS := hS.drewN m13; generalize hwm13 : World.drewN _ _ = w at *; clear hwm13
            refine WL.ix rfl rfl (i := v - 1) (v.toNat - 1) el_60 rfl rfl (by omega) (by omega) (hS.rdS 0 rfl (sls_at (AM.dmp_at (A := A) (k := v.toNat - 1) (by omega)))).1 ?_
            refine WL.nil ?_
            refine ⟨by exact RQ.pure rfl rfl rfl rfl, ?_⟩
            refine WQ.run 4 [.int .i64 (A.dmpAt (((v.toNat - 1 : Nat) : Int) + 1)).nd.size] rfl (by exact (hS.rdS 0 rfl (sls_at (AM.dmp_at (A := A) (k := v.toNat - 1) (by omega)))).2 7 _ rfl) ?_
            refine WQ.nw 92 rfl (w64 (by omega)) ?_
            refine WQ.nil ?_
            intro m14
            replace hS := hS.drewN m14; generalize hwm14 : World.drewN _ _ = w at *; clear hwm14
            refine WL.r 1 rfl <| WL.nil ?_
            refine ⟨by exact trivial, ?_⟩
            intro m15
            replace hS := hS.drewN m15; generalize hwm15 : World.drewN _ _ = w at *; clear hwm15
            as_aux_lemma =>
            refine WC.region <| WL.r 2 rfl <| WL.nw 75 rfl (w64 (by omega)) ?_
            refine WL.r 1 rfl <| WL.nil ?_
            exact ⟨_, by omega, k + 1, sz + (A.dmpAt (((v.toNat - 1 : Nat) : Int) + 1)).nd.size, rfl, (hS.sel 8 [1, 1, 1, 1, 1, 1, 1, 0] rfl), (by omega), (by rw [szK_in hv, hsz, hzv]), rfl⟩
          · refine WC.seq <| WC.region ?_
            have hnok : ¬ A.s.ok v = true := (by rw [← f3, cd4]; decide); have hv0 : v = 0 := (hA.kid ((n : Int) + 1) cd2 (by omega) v (kd_mem hv)).resolve_right (fun h => hnok h.2)
            refine WL.r 1 rfl <| WL.ixP rfl rfl (k) ap_302 rfl rfl (by omega) (by omega) ?_
            refine WL.run 2 [.int .u32 v] rfl (by exact hS.ld 1 rfl (kd2_at hv)) ?_
            refine WL.nil <| WC.ifF rfl (decide_eq_false ((by omega))) ?_
            refine WC.skip <| WC.region <| WL.r 2 rfl <| WL.nw 75 rfl (w64 (by omega)) ?_
            refine WL.r 1 rfl <| WL.nil ?_
            exact ⟨_, by omega, k + 1, sz, rfl, (hS.sel 8 [1, 1, 1, 1, 1, 1, 1, 0] rfl), (by omega), (by rw [szK_in hv, hsz, sz_no hnok, Int.add_zero]), rfl⟩
        · refine WC.exit <| WC.seq <| WC.seq <| WC.region <| WL.run 5 [.int .i64 (A.dmpAt ((n : Int) + 1)).nd.size] rfl (by exact hS.ld 1 rfl rfl) ?_
          refine WL.nil <| WC.ifF rfl (decide_eq_false ((fun h => h (by have e9 : k = 2 := (by omega); rw [hsz, e9]; exact (hA.sz ((n : Int) + 1) cd2 (by omega)).1.symm)))) ?_
          refine WC.skip <| WC.plan [([0, 1, 4, 5, 2, 6, 3, 7, 8, 9], none)] (by kernel_rfl) (by kernel_rfl) ?_
          have hct1 := List.count_le_length (a := (n : Int) + 1) (l := R); have hct2 := c5_cnt hA (n := n) cd2; have hct3 := cntD_le hA ((n : Int) + 1)
          refine WQ.r 4 rfl <| WQ.ix rfl rfl (i := (n : Int)) (n) el_56 rfl rfl (by omega) (by omega) (hS.rdO 8 rfl (i64s_at (cntL_at (l := A.kids) (n := A.s.cap.toNat) (k := n) (by omega)))).1 ?_
          refine WQ.ix rfl rfl (i := (n : Int)) (n) el_56 rfl rfl (by omega) (by omega) (hS.rdO 2 rfl (i64s_at (cntL_at (l := R) (n := (sls (AM.dmp A)).length) (k := n) (by omega)))).1 ?_
          refine WQ.run 3 [.int .i64 ((A.kids.count ((n : Int) + 1) : Nat) : Int), .int .i64 ((R.count ((n : Int) + 1) : Nat) : Int)] rfl (by exact ⟨(hS.rdO 8 rfl (i64s_at (cntL_at (l := A.kids) (n := A.s.cap.toNat) (k := n) (by omega)))).2 0 _ rfl, (hS.rdO 2 rfl (i64s_at (cntL_at (l := R) (n := (sls (AM.dmp A)).length) (k := n) (by omega)))).2 0 _ rfl⟩) ?_
          refine WQ.nw 128 rfl (w64 (by omega)) ?_
          refine WQ.r 1 rfl <| WQ.nil ?_
          intro m10
          replace hS := hS.drewN m10; generalize hwm10 : World.drewN _ _ = w at *; clear hwm10
          exact ⟨((A.kids.count ((n : Int) + 1) : Nat) : Int) + ((R.count ((n : Int) + 1) : Nat) : Int), rfl, (hS.sel 1 [] rfl), (c5_cnt hA cd2)⟩
      · refine WC.skip ?_
        exact ⟨0, rfl, hS, (c5_no (Bool.eq_false_iff.1 cd2))⟩
    clear hS; rintro _ w j ⟨ct, rfl, hS, hcte⟩
    refine WC.seq <| WC.seq <| WC.region <| WL.run 4 [.int .i64 (A.dmpAt ((n : Int) + 1)).cn] rfl (by exact hS.ld 0 rfl rfl) ?_
    refine WL.nil <| WC.ifF rfl (decide_eq_false ((fun h => h hcte))) <| WC.skip <| WC.seq <| WC.region <| WL.run 3 [.bool (A.dmpAt ((n : Int) + 1)).al] rfl (by exact hS.ld 0 rfl rfl) ?_
    by_cases cg1 : (A.dmpAt ((n : Int) + 1)).al = true
    · refine WL.reb 143 (.bool true) (congrArg Value.bool cg1) <| WL.ung rfl rfl rfl <| WL.r 1 rfl <| WL.ung rfl rfl rfl <| WL.r 1 rfl <| WL.ung rfl rfl rfl ?_
      have hbn : bs1[n]? = some true := (by have h9 := f2 ((n : Int) + 1) (by omega) cg1; rw [show ((n : Int) + 1 - 1).toNat = n by omega] at h9; exact h9)
      refine WL.ix rfl rfl (i := (n : Int)) (n) el_33 rfl rfl (by omega) (by omega) (hS.rdO 5 rfl (bos_at hbn)).1 ?_
      refine WL.ung rfl rfl rfl <| WL.run 1 [.bool true] rfl (by exact (hS.rdO 5 rfl (bos_at hbn)).2 0 _ rfl) ?_
      refine WL.ung rfl rfl rfl <| WL.r 2 rfl <| WL.nil ?_
      as_aux_lemma =>
      refine WC.ifF rfl rfl <| WC.skip <| WC.region <| WL.r 2 rfl <| WL.nw 43 rfl (w64 (by omega)) ?_
      refine WL.r 1 rfl <| WL.nil ?_
      exact ⟨_, by omega, n + 1, rfl, (hS.sel 1 [] rfl), (by omega), rfl⟩
    · refine WL.reb 143 (.bool false) (congrArg Value.bool (Bool.eq_false_iff.2 cg1)) <| WL.skp rfl rfl rfl rfl <| WL.skp rfl rfl rfl rfl <| WL.skp rfl rfl rfl rfl <| WL.skp rfl rfl rfl rfl <| WL.skp rfl rfl rfl rfl <| WL.r 1 rfl <| WL.nil ?_
      as_aux_lemma =>
      refine WC.ifF rfl rfl <| WC.skip <| WC.region <| WL.r 2 rfl <| WL.nw 43 rfl (w64 (by omega)) ?_
      refine WL.r 1 rfl <| WL.nil ?_
      exact ⟨_, by omega, n + 1, rfl, (hS.sel 1 [] rfl), (by omega), rfl⟩
  · refine WC.exit <| WC.seq <| WC.seq <| WC.region <| WL.r 1 rfl <| WL.nil <| WC.block <| WC.loop [1, 2, 4, 5, 19] (fun kM vs w => ∃ (k : Nat), vs = [.slice ra (List.length (u32s R)) rc, .pointer (some ⟨b1, 0, none⟩), .slice none 0 0, .slice none 0 0, .int .i64 (k : Int)] ∧ St g (Own 3 1 (i64s (cntL R (List.length (sls (AM.dmp A))))) u4 d4 :: Sh 64 1 (u32s R) ra rc :: Own 3 1 (i64s (cntL (SM.order A.s) (List.length (sls (AM.dmp A))))) u3 d3 :: Sh 64 1 (u32s (SM.order A.s)) fa fc :: Own 4 1 (bos bs1) u2 d2 :: Sh 174 11 (sls (AM.dmp A)) da dc :: Own 3 1 (i64s (cntL A.kids A.s.cap.toNat)) u1 d1 :: cel b1 #[.slice da (List.length (sls (AM.dmp A))) dc, .slice fa (List.length (u32s (SM.order A.s))) fc] 62 :: L) w ∧ (k ≤ (SM.order A.s).length) ∧ ((SM.order A.s).length - k) = kM) ((List.length (SM.order A.s)) - 0) ⟨0, rfl, hS, (Nat.zero_le _), rfl⟩ ?_
    clear hS; rintro _ _ w j ⟨k, rfl, hS, hk, rfl⟩
    refine WC.seq <| WC.seq <| WC.region <| WL.run 5 [.slice fa (List.length (u32s (SM.order A.s))) fc] rfl (by exact hS.ld 7 rfl rfl) ?_
    refine WL.nil <| WC.ifP rfl (fun cd2 => ?_) (fun cd2 => ?_)
    · refine WC.skip ?_
      as_aux_lemma =>
      refine WC.seq <| WC.block <| WC.seq <| WC.plan [([0, 2, 1, 3, 4, 5, 6, 7, 9, 13, 8, 14, 10, 15, 11, 16, 12, 17, 18], none)] (by kernel_rfl) (by kernel_rfl) ?_
      refine WQ.run 3 [.slice fa (List.length (u32s (SM.order A.s))) fc] rfl (by exact hS.ld 7 rfl rfl) ?_
      obtain ⟨x, hx⟩ : ∃ x, (SM.order A.s)[k]? = some x := ⟨_, List.getElem?_eq_getElem (by omega)⟩; have hxr := hor x (List.mem_of_getElem? hx)
      refine WQ.ix rfl rfl (i := (k : Int)) (k) el_32 rfl rfl (by omega) (by omega) (hS.rdS 3 rfl (u32s_at hx)).1 ?_
      refine WQ.run 3 [.int .u32 x] rfl (by exact (hS.rdS 3 rfl (u32s_at hx)).2 0 _ rfl) ?_
      refine WQ.reb 168 (.bool false) (congrArg Value.bool (decide_eq_false ((by omega)))) ?_
      refine WQ.ung rfl rfl rfl <| WQ.r 1 rfl <| WQ.ung rfl rfl rfl <| WQ.r 1 rfl <| WQ.ung rfl rfl rfl <| WQ.r 1 rfl <| WQ.ung rfl rfl rfl <| WQ.run 1 [.slice fa (List.length (u32s (SM.order A.s))) fc] rfl (by exact hS.ld 7 rfl rfl) ?_
      refine WQ.ung rfl rfl rfl <| WQ.run 1 [.slice da (List.length (sls (AM.dmp A))) dc] rfl (by exact hS.ld 7 rfl rfl) ?_
      refine WQ.ung rfl rfl rfl <| WQ.ix rfl rfl (i := (k : Int)) (k) el_32 rfl rfl (by omega) (by omega) (hS.rdS 3 rfl (u32s_at hx)).1 ?_
      refine WQ.ung rfl rfl rfl <| WQ.r 1 rfl <| WQ.ung rfl rfl rfl <| WQ.run 1 [.int .u32 x] rfl (by exact (hS.rdS 3 rfl (u32s_at hx)).2 0 _ rfl) ?_
      refine WQ.ung rfl rfl rfl <| WQ.r 1 rfl <| WQ.nw 178 rfl (wu64 (by omega)) ?_
      refine WQ.ung rfl rfl rfl <| WQ.r 1 rfl <| WQ.nw 174 rfl (wu64 (by omega)) ?_
      refine WQ.ung rfl rfl rfl <| WQ.r 2 rfl <| WQ.nil ?_
      intro m7
      replace hS := hS.drewN m7; generalize hwm7 : World.drewN _ _ = w at *; clear hwm7
      as_aux_lemma =>
      refine WC.ifF rfl (decide_eq_false ((by omega))) ?_
      refine WC.skip <| WC.region <| WL.r 2 rfl <| WL.nw 161 rfl (w64 (by omega)) ?_
      refine WL.r 1 rfl <| WL.nil ?_
      exact ⟨_, by omega, k + 1, rfl, hS, (by omega), rfl⟩
    · refine WC.exit ?_
      as_aux_lemma =>
      refine WC.seq <| WC.seq <| WC.region <| WL.r 1 rfl <| WL.nil <| WC.block <| WC.loop [1, 2, 4, 5, 20] (fun kM vs w => ∃ (k : Nat), vs = [.slice ra (List.length (u32s R)) rc, .pointer (some ⟨b1, 0, none⟩), .slice none 0 0, .slice none 0 0, .int .i64 (k : Int)] ∧ St g (Own 3 1 (i64s (cntL R (List.length (sls (AM.dmp A))))) u4 d4 :: Sh 64 1 (u32s R) ra rc :: Own 3 1 (i64s (cntL (SM.order A.s) (List.length (sls (AM.dmp A))))) u3 d3 :: Sh 64 1 (u32s (SM.order A.s)) fa fc :: Own 4 1 (bos bs1) u2 d2 :: Sh 174 11 (sls (AM.dmp A)) da dc :: Own 3 1 (i64s (cntL A.kids A.s.cap.toNat)) u1 d1 :: cel b1 #[.slice da (List.length (sls (AM.dmp A))) dc, .slice fa (List.length (u32s (SM.order A.s))) fc] 62 :: L) w ∧ (k ≤ R.length) ∧ (R.length - k) = kM) ((List.length R) - 0) ⟨0, rfl, hS, (Nat.zero_le _), rfl⟩ ?_
      clear hS; rintro _ _ w j ⟨k, rfl, hS, hk, rfl⟩
      refine WC.seq <| WC.seq <| WC.region <| WL.r 4 rfl <| WL.nil <| WC.ifP rfl (fun cd3 => ?_) (fun cd3 => ?_)
      · refine WC.skip <| WC.seq <| WC.block <| WC.seq <| WC.plan [([0, 1, 2, 3, 4, 5, 6, 7, 8, 9, 10], some (11, [])), ([12, 13], none)] (by kernel_rfl) (by kernel_rfl) ?_
        refine WQ.r 2 rfl ?_
        obtain ⟨x, hx⟩ : ∃ x, R[k]? = some x := ⟨_, List.getElem?_eq_getElem (by omega)⟩; have hxr := ref_rng hA x (List.mem_of_getElem? hx); have hxo := hA.ref x (List.mem_of_getElem? hx)
        refine WQ.ix rfl rfl (i := (k : Int)) (k) el_32 rfl rfl (by omega) (by omega) (hS.rdS 1 rfl (u32s_at hx)).1 ?_
        refine WQ.run 3 [.int .u32 x] rfl (by exact (hS.rdS 1 rfl (u32s_at hx)).2 0 _ rfl) ?_
        by_cases cg1 : x ≠ 0
        · refine WQ.reb 201 (.bool true) (congrArg Value.bool (decide_eq_true cg1)) <| WQ.ung rfl rfl rfl <| WQ.ldF rfl rfl 7 hS rfl rfl ag_62 <| WQ.ung rfl rfl rfl <| WQ.r 1 rfl <| WQ.ung rfl rfl rfl <| WQ.r 1 rfl <| WQ.ung rfl rfl rfl <| WQ.ix rfl rfl (i := (k : Int)) (k) el_32 rfl rfl (by omega) (by omega) (hS.rdS 1 rfl (u32s_at hx)).1 ?_
          refine WQ.ung rfl rfl rfl <| WQ.run 1 [.int .u32 x] rfl (by exact (hS.rdS 1 rfl (u32s_at hx)).2 0 _ rfl) ?_
          refine WQ.nil ?_
          intro m7
          replace hS := hS.drewN m7; generalize hwm7 : World.drewN _ _ = w at *; clear hwm7
          refine WL.ung rfl rfl rfl <| WL.call rfl rfl (c6_alloc (A := A) (fa := fa) (fc := fc) (i := x) (hA := hA) (hi := hxr) (hS := (hS.sel 6 [5, 0, 0, 0, 0, 0] rfl))) rfl ?_
          clear hS; rintro _ w ⟨b2, rfl, hS, f3⟩
          replace hS := hS.n8 L rfl
          refine WL.nil ?_
          refine ⟨by exact trivial, ?_⟩
          refine WQ.ung rfl rfl rfl <| WQ.r 1 rfl <| WQ.r 1 rfl <| WQ.nil ?_
          intro m8
          replace hS := hS.drewN m8; generalize hwm8 : World.drewN _ _ = w at *; clear hwm8
          as_aux_lemma =>
          refine WC.ifF rfl (by have h9 := (hxo.resolve_left cg1).2; rw [← f3] at h9; rw [h9]; rfl) ?_
          refine WC.skip <| WC.region <| WL.r 2 rfl <| WL.nw 195 rfl (w64 (by omega)) ?_
          refine WL.r 1 rfl <| WL.nil ?_
          exact ⟨_, by omega, k + 1, rfl, (hS.sel 6 [1, 1, 1, 1, 1, 0] rfl), (by omega), rfl⟩
        · refine WQ.reb 201 (.bool false) (congrArg Value.bool (decide_eq_false cg1)) <| WQ.skp rfl rfl rfl rfl <| WQ.skp rfl rfl rfl rfl <| WQ.skp rfl rfl rfl rfl <| WQ.skp rfl rfl rfl rfl <| WQ.skp rfl rfl rfl rfl <| WQ.nil ?_
          intro m7
          replace hS := hS.drewN m7; generalize hwm7 : World.drewN _ _ = w at *; clear hwm7
          refine WL.skp rfl rfl rfl rfl <| WL.nil ?_
          refine ⟨by exact trivial, ?_⟩
          refine WQ.skp rfl rfl rfl rfl <| WQ.r 1 rfl <| WQ.nil ?_
          intro m8
          replace hS := hS.drewN m8; generalize hwm8 : World.drewN _ _ = w at *; clear hwm8
          as_aux_lemma =>
          refine WC.ifF rfl rfl <| WC.skip <| WC.region <| WL.r 2 rfl <| WL.nw 195 rfl (w64 (by omega)) ?_
          refine WL.r 1 rfl <| WL.nil ?_
          exact ⟨_, by omega, k + 1, rfl, hS, (by omega), rfl⟩
      · refine WC.exit <| WC.seq <| WC.region <| WL.r 2 rfl <| WL.nil <| WC.ret ?_
        refine ⟨[.slice none 0 0], rfl, ?_⟩
        replace hS := (hS.sel 8 [5, 3, 1] rfl)
        exact ⟨rfl, hS⟩
set_option maxRecDepth 8192 in
theorem c6_clean {g w : World} {L : List HP} (A : AM) (R : List Int) (da fa ra : Option Addr) (dc fc rc : Nat) (hA : ARf A R) (hRl : R.length ≤ 1000000) (hS : St g (Sh 174 11 (sls (AM.dmp A)) da dc :: Sh 64 1 (u32s (SM.order A.s)) fa fc :: Sh 64 1 (u32s R) ra rc :: L) w) :
    Sp Tryz.prog 122 [.agg #[.slice da (List.length (sls (AM.dmp A))) dc, .slice fa (List.length (u32s (SM.order A.s))) fc], .slice ra (List.length (u32s R)) rc] w (fun v w' => v = .bool true ∧ St g (Sh 174 11 (sls (AM.dmp A)) da dc :: Sh 64 1 (u32s (SM.order A.s)) fa fc :: Sh 64 1 (u32s R) ra rc :: L) w') := by
  refine Sp.enter Tryz.func122 rfl (by kernel_rfl) (by kernel_rfl) ?_
  refine WC.seq <| WC.region <| WL.box rfl rfl #[.slice da (List.length (sls (AM.dmp A))) dc, .slice fa (List.length (u32s (SM.order A.s))) fc] hS rfl rfl (fun b1 w hS => ?_)
  refine WL.r 1 rfl <| WL.nil <| WC.seq <| WC.region <| WL.ldF rfl rfl 0 hS rfl rfl ag_62 <| WL.r 1 rfl <| WL.call rfl rfl (c6_check (A := A) (hA := hA) (hRl := hRl) (hS := (hS.sel 4 [1, 1, 1, 0] rfl))) rfl ?_
  clear hS; rintro _ w ⟨rfl, hS⟩
  replace hS := hS.n4 L (a3 := cel b1 #[.slice da (List.length (sls (AM.dmp A))) dc, .slice fa (List.length (u32s (SM.order A.s))) fc] 62) rfl
  refine WL.r 3 rfl <| WL.nil <| WC.ret ?_
  refine ⟨[.bool (decide (0 = 0))], rfl, ?_⟩
  replace hS := (hS.sel 4 [0, 0, 0] rfl)
  exact ⟨rfl, hS⟩
end Go.Proofs.YtbeacjcmdijdmaaGreat
/-! ## Tx5 -/
namespace Go.Proofs.YtbeacjcmdijdmaaGreat
open Go Go.V Go.RowKit Go.Maps
theorem wC_k (e : Int × Bool × Int) : (wC e).2.1 = e.1 := by unfold wC; split <;> rfl
theorem wC_3 (e : Int × Bool × Int) : decide ((wC e).1 = 3) = e.2.1 := by
  unfold wC
  cases e.2.1 <;> rfl
theorem wC_v {e : Int × Bool × Int} (h : e.2.1 = true) : (wC e).2.2.2 = e.2.2 := by unfold wC; rw [if_pos h]
theorem need_iff {t : Tr} {e : Int × Bool × Int} : ((¬ ((decide ((wC e).1 = 3) == (Tr.get (wC e).2.1 t).isSome) = true)) ∨ ((wC e).1 = 3 ∧ (Tr.get (wC e).2.1 t).getD 0 ≠ (wC e).2.2.2)) ↔ wNeed t e = true := by
  rw [wC_3, wC_k]
  have h3 : ((wC e).1 = 3) ↔ e.2.1 = true := by rw [← wC_3]; exact decide_eq_true_iff.symm
  rw [h3]
  unfold wNeed
  cases hp : e.2.1 with
  | false => cases (Tr.get e.1 t).isSome <;> simp
  | true => rw [wC_v hp]; cases (Tr.get e.1 t).isSome <;> simp
theorem wWork_len (t : Tr) (M : Wrs) : (wWork t M).length ≤ M.length := List.length_filter_le _ _
theorem wWork_in {t : Tr} {M : Wrs} {k : Nat} {e : Int × Bool × Int} (h : M[k]? = some e) (hn : wNeed t e = true) : wWork t (M.take (k + 1)) = wWork t (M.take k) ++ [e] := by
  unfold wWork; rw [List.take_add_one, h, List.filter_append]; simp [hn]
theorem wWork_out {t : Tr} {M : Wrs} {k : Nat} {e : Int × Bool × Int} (h : M[k]? = some e) (hn : wNeed t e = false) : wWork t (M.take (k + 1)) = wWork t (M.take k) := by
  unfold wWork; rw [List.take_add_one, h, List.filter_append]; simp [hn]
theorem wp_t {e : Int × Bool × Int} (h : (wC e).1 = 3) : e.2.1 = true := by rw [← wC_3]; exact decide_eq_true h
theorem wp_f {e : Int × Bool × Int} (h : ¬ (wC e).1 = 3) : e.2.1 = false := by rw [← wC_3]; exact decide_eq_false h
theorem wCost_ins {e : Int × Bool × Int} {u : Tr} {f : Int} (h : (wC e).1 = 3) (hc : (wCost u e : Int) ≤ f) : (Tr.ic (wC e).2.1 (wC e).2.2.2 u : Int) ≤ f := by
  unfold wCost at hc
  rw [if_pos (wp_t h)] at hc
  rw [wC_k, wC_v (wp_t h)]; exact hc
theorem wCost_del {e : Int × Bool × Int} {u : Tr} {f : Int} (h : ¬ (wC e).1 = 3) (hc : (wCost u e : Int) ≤ f) : (Tr.dc (wC e).2.1 u : Int) ≤ f := by
  unfold wCost at hc
  rw [if_neg (by rw [wp_f h]; decide)] at hc
  rw [wC_k]; exact hc
theorem step_ins {A B C : AM} {R : List Int} {o j : Int} {W : Wrs} {k : Nat} {e : Int × Bool × Int} {t : Tr} (he : W[k]? = some e) (h : (wC e).1 = 3) (hT : TOp A B R o (wAll (W.take k) t) (wSum (W.take k) t)) (f : TOp B C R j (Tr.ins (wC e).2.1 (wC e).2.2.2 (wAll (W.take k) t)) (Tr.ic (wC e).2.1 (wC e).2.2.2 (wAll (W.take k) t))) : TOp A C R j (wAll (W.take (k + 1)) t) (wSum (W.take (k + 1)) t) := by
  rw [wC_k, wC_v (wp_t h)] at f
  rw [wAll_snoc he, wSum_snoc he]
  unfold wOne wCost
  rw [if_pos (wp_t h), if_pos (wp_t h)]
  exact f.after hT.ch sb0 (Nat.le_refl _)
theorem step_del {A B C : AM} {R : List Int} {o j : Int} {W : Wrs} {k : Nat} {e : Int × Bool × Int} {t : Tr} (he : W[k]? = some e) (h : ¬ (wC e).1 = 3) (hT : TOp A B R o (wAll (W.take k) t) (wSum (W.take k) t)) (f : TOp B C R j (Tr.del (wC e).2.1 (wAll (W.take k) t)) (Tr.dc (wC e).2.1 (wAll (W.take k) t))) : TOp A C R j (wAll (W.take (k + 1)) t) (wSum (W.take (k + 1)) t) := by
  have hp : ¬ e.2.1 = true := by rw [wp_f h]; decide
  rw [wC_k] at f
  rw [wAll_snoc he, wSum_snoc he]
  unfold wOne wCost
  rw [if_neg hp, if_neg hp]
  exact f.after hT.ch sb0 (Nat.le_refl _)
theorem TOp.fin {A B C : AM} {R : List Int} {r o : Int} {u : Tr} {c : Nat} (h : TOp A B (r :: R) o u c) (k : Rl B C (o :: R)) : TOp A C R o u c :=
  ⟨k.ref, k.kp o (by simp) u h.is, (h.kp.sub sb1).trans (k.kp.sub sb1), by have := h.fr; have := k.fr; omega, by rw [k.cap, h.cap]⟩
def ComT (A : AM) (R : List Int) (th : Tr) (M : Wrs) (hd : Int) (A2 : AM) (i e : Int) (en : Bool) : Prop := (e = 0 ∧ en = true ∧ (wWork th M = [] ∨ ((th.n : Int) + M.length + 4 * ((Tr.mxH (th.n + M.length) : Int) + 2)) ≤ A.s.free) ∧ TOp A A2 R i (wAll (wWork th M) th) (wSum (wWork th M) th) ∧ (wWork th M = [] → i = hd)) ∨ (e = 2 ∧ i = 0 ∧ en = false ∧ A2 = A ∧ wWork th M ≠ [] ∧ A.s.free < ((th.n : Int) + M.length + 4 * ((Tr.mxH (th.n + M.length) : Int) + 2)))
set_option maxHeartbeats 4000000 in
set_option maxRecDepth 8192 in
theorem tx_com2 {g w : World} {L : List HP} (x a : Nat) (rt : Int) (xs : List WE) (q : Nat) (S : Kvs) (M : Wrs) (A : AM) (R : List Int) (hd : Int) (ts th : Tr) (hW : WOk xs q M) (hA : ARf A (rt :: R)) (hts : Is A ts rt) (hth : Is A th hd) (hss : Srt ts.ls) (hsh : Srt th.ls) (hn : ts.n + th.n ≤ 60000) (hSl : S.length ≤ 100000) (hR : R.length ≤ 500000000) (hno : ∀ s ∈ S, inR s.1 s.2 (dif ts.ls th.ls) = []) (hcs : wWork th M = [] ∨ ((th.n : Int) + M.length + 4 * ((Tr.mxH (th.n + M.length) : Int) + 2)) ≤ A.s.free → ∀ (k : Nat) (e : Int × Bool × Int) (B : AM) (o : Int), (wWork th M)[k]? = some e → TOp A B (rt :: R) o (wAll ((wWork th M).take k) th) (wSum ((wWork th M).take k) th) → (wCost (wAll ((wWork th M).take k) th) e : Int) ≤ B.s.free) (hS : St g (Tx x a rt xs q S :: Arn a A :: L) w) :
    Sp Tryz.prog 31 [.pointer (some ⟨x, 0, none⟩), .int .u32 hd] w (fun v w' => ∃ (A2 : AM) (i e : Int) (en : Bool), v = .tuple #[.int .u32 i, .int .i64 e] ∧ St g (Tz x a rt S en :: Arn a A2 :: L) w' ∧ (ComT A R th M hd A2 i e en)) := by
  refine Sp.enter Tryz.func31 rfl (by kernel_rfl) (by kernel_rfl) ?_
  have _ := hR
  have _ := hSl
  have _ := hn
  refine WC.seq <| WC.region <| WL.r 2 rfl <| WL.nil <| WC.seq <| WC.seq <| WC.region ?_
  obtain ⟨⟨xm, xu, xc⟩, hS⟩ := St.exOpen (f := txF x a rt xs q S) hS
  replace hS := hS.n4 L (a0 := cel x #[.pointer (some ⟨a, 0, none⟩), .int .u32 rt, .bool false, .map (some xm), .slice xu (List.length (en2 S)) xc] 188) (a1 := blk xm (.map (mE (List.map wK xs)) q)) (a2 := Own 106 2 (en2 S) xu xc) rfl
  have hll := en2_len S; have hml := hW.len; have hmn := hW.k.num
  refine WL.run 4 [.bool false] rfl (by exact hS.ld 0 rfl rfl) ?_
  refine WL.nil <| WC.ifF rfl rfl <| WC.skip <| WC.seq <| WC.seq <| WC.region <| WL.run 6 [.slice xu (List.length (en2 S)) xc] rfl (by exact hS.ld 0 rfl rfl) ?_
  refine WL.nil <| WC.block <| WC.loop [0, 1, 24, 25, 26] (fun kM vs w => ∃ (k : Nat), vs = [.pointer (some ⟨x, 0, none⟩), .int .u32 hd, .slice xu (List.length (en2 S)) xc, .int .i64 (List.length (en2 S) : Int), .int .i64 (k : Int)] ∧ St g (cel x #[.pointer (some ⟨a, 0, none⟩), .int .u32 rt, .bool false, .map (some xm), .slice xu (List.length (en2 S)) xc] 188 :: blk xm (.map (mE (List.map wK xs)) q) :: Own 106 2 (en2 S) xu xc :: Arn a A :: L) w ∧ (k ≤ S.length) ∧ (S.length - k) = kM) ((List.length S) - 0) ⟨0, rfl, hS, (Nat.zero_le _), rfl⟩ ?_
  clear hS; rintro _ _ w j ⟨k, rfl, hS, hk, rfl⟩
  refine WC.seq <| WC.region <| WL.r 1 rfl <| WL.nil ?_
  as_aux_lemma =>
  refine WC.seq <| WC.ifP rfl (fun cd1 => ?_) (fun cd1 => ?_)
  · refine WC.skip <| WC.seq <| WC.block <| WC.seq <| WC.region ?_
    obtain ⟨e, he⟩ : ∃ e, S[k]? = some e := ⟨_, List.getElem?_eq_getElem (by omega)⟩; have h0 := hno e (List.mem_of_getElem? he)
    refine WL.ix rfl rfl (i := (k : Int)) (k) el_98 rfl rfl (by omega) (by omega) (hS.rdO 2 rfl (en2_at he)).1 ?_
    refine WL.ldC rfl rfl [.int .i64 e.1, .int .i64 e.2] ag_106 rfl (hS.rdO 2 rfl (en2_at he)).2 <| WL.new rfl rfl zv_106 hS (fun b1 w hS => ?_)
    refine WL.stF rfl rfl rfl 0 hS rfl rfl rfl rfl rfl ag_106 (fun w hS => ?_)
    replace hS := hS.n5 L (a0 := cel b1 #[.int .i64 e.1, .int .i64 e.2] 106) rfl
    refine WL.nil <| WC.seq <| WC.plan [([0, 4, 8, 9, 11, 1, 5, 10, 12, 2, 6, 3, 7], some (13, [])), ([14, 15], none)] (by kernel_rfl) (by kernel_rfl) ?_
    refine WQ.run 13 [.int .i64 e.1, .int .i64 e.2, .pointer (some ⟨a, 0, none⟩), .int .u32 rt] rfl (by exact ⟨hS.ld 0 rfl rfl, hS.ld 0 rfl rfl, hS.ld 1 rfl rfl, hS.ld 1 rfl rfl⟩) ?_
    refine WQ.nil ?_
    intro m1
    replace hS := hS.drewN m1; generalize hwm1 : World.drewN _ _ = w at *; clear hwm1
    refine WL.call rfl rfl (df_range (R := rt :: R) (x := rt) (y := hd) (lo := e.1) (hi := e.2) (tx := ts) (ty := th) (hA := hA) (hx := hts) (hy := hth) (hsx := hss) (hsy := hsh) (hl := (by omega)) (hS := (hS.sel 5 [4, 0, 0, 0, 0] rfl))) rfl ?_
    clear hS; rintro _ w ⟨a1, c1, rfl, hS⟩
    replace hS := hS.n6 L (a0 := Own 110 4 (ch4 (inR e.1 e.2 (dif ts.ls th.ls))) a1 c1) rfl
    refine WL.nil ?_
    refine ⟨by exact trivial, ?_⟩
    refine WQ.r 2 rfl <| WQ.nil ?_
    intro m2
    replace hS := hS.drewN m2; generalize hwm2 : World.drewN _ _ = w at *; clear hwm2
    as_aux_lemma =>
    refine WC.ifF rfl (decide_eq_false ((by rw [h0]; decide))) ?_
    refine WC.skip <| WC.region <| WL.r 1 rfl <| WL.nw 46 rfl (w64 (by omega)) ?_
    refine WL.r 1 rfl <| WL.nil ?_
    exact ⟨_, by omega, k + 1, rfl, (hS.sel 6 [3, 3, 3, 1] rfl), (by omega), rfl⟩
  · refine WC.exit <| WC.seq <| WC.region ?_
    replace hS := St.exClose (f := txF x a rt xs q S) (L := Arn a A :: L) ⟨xm, xu, xc⟩ (hS)
    replace hS := hS.n2 L (a0 := Tx x a rt xs q S) rfl
    refine WL.r 1 rfl <| WL.nil <| WC.seq <| WC.seq <| WC.region ?_
    have hcl := ch4_len (M.map wC); have hmp : (M.map wC).length = M.length := List.length_map ..
    refine WL.r 1 rfl <| WL.call rfl rfl (tx_writes (M := M) (hW := hW) (hS := hS)) rfl ?_
    clear hS; rintro _ w ⟨a1, c1, rfl, hS⟩
    replace hS := hS.n3 L (a0 := Own 110 4 (ch4 (M.map wC)) a1 c1) rfl
    refine WL.r 2 rfl <| WL.nil <| WC.block ?_
    replace hS := hS.nil_ 110 4
    refine WC.loop [0, 1, 8, 48, 49, 50] (fun kM vs w => ∃ (k2 : Nat) (acc : List (Int × Int × Int × Int)) (u : Option Addr) (d : Nat), vs = [.pointer (some ⟨x, 0, none⟩), .int .u32 hd, .slice u (List.length (ch4 acc)) d, .slice a1 (List.length (ch4 (M.map wC))) c1, .int .i64 (List.length (ch4 (M.map wC)) : Int), .int .i64 (k2 : Int)] ∧ St g (Own 110 4 (ch4 acc) u d :: Own 110 4 (ch4 (M.map wC)) a1 c1 :: Tx x a rt xs q S :: Arn a A :: L) w ∧ (k2 ≤ M.length) ∧ (acc = (wWork th (M.take k2)).map wC) ∧ (M.length - k2) = kM) ((List.length M) - 0) ⟨0, [], none, 0, rfl, hS, (Nat.zero_le _), (rfl), rfl⟩ ?_
    clear hS; rintro _ _ w j ⟨k2, acc, u, d, rfl, hS, hk2, hac, rfl⟩
    refine WC.seq <| WC.region ?_
    have hcl := ch4_len (M.map wC); have hmp : (M.map wC).length = M.length := List.length_map ..
    refine WL.r 1 rfl <| WL.nil ?_
    as_aux_lemma =>
    refine WC.seq <| WC.ifP rfl (fun cd2 => ?_) (fun cd2 => ?_)
    · refine WC.skip <| WC.seq <| WC.block <| WC.seq <| WC.region ?_
      obtain ⟨e, he⟩ : ∃ e, M[k2]? = some e := ⟨_, List.getElem?_eq_getElem (by omega)⟩; have hz : (M.map wC)[k2]? = some (wC e) := (by rw [List.getElem?_map, he]; rfl); have hwl := wWork_len th (M.take k2); have htl := List.length_take_le k2 M; have hacl : acc.length ≤ k2 := (by rw [hac, List.length_map]; omega); have hal := ch4_len acc
      refine WL.ix rfl rfl (i := (k2 : Int)) (k2) el_111 rfl rfl (by omega) (by omega) (hS.rdO 1 rfl (ch4_at hz)).1 ?_
      refine WL.ldC rfl rfl [.int .i64 (wC e).1, .int .i64 (wC e).2.1, .int .i64 (wC e).2.2.1, .int .i64 (wC e).2.2.2] ag_110 rfl (hS.rdO 1 rfl (ch4_at hz)).2 <| WL.new rfl rfl zv_110 hS (fun b1 w hS => ?_)
      refine WL.stF rfl rfl rfl 0 hS rfl rfl rfl rfl rfl ag_110 (fun w hS => ?_)
      replace hS := hS.n5 L (a0 := cel b1 #[.int .i64 (wC e).1, .int .i64 (wC e).2.1, .int .i64 (wC e).2.2.1, .int .i64 (wC e).2.2.2] 110) rfl
      refine WL.nil <| WC.seq <| WC.plan [([0, 4, 5, 1, 6, 2, 3], some (7, [])), ([8, 9, 10, 11, 12], none)] (by kernel_rfl) (by kernel_rfl) ?_
      obtain ⟨⟨xm, xu, xc⟩, hS⟩ := St.exOpen (f := txF x a rt xs q S) (hS.at_ 3 rfl)
      replace hS := hS.n7 L (a0 := cel x #[.pointer (some ⟨a, 0, none⟩), .int .u32 rt, .bool false, .map (some xm), .slice xu (List.length (en2 S)) xc] 188) (a1 := blk xm (.map (mE (List.map wK xs)) q)) (a2 := Own 106 2 (en2 S) xu xc) rfl
      refine WQ.run 7 [.int .i64 (wC e).2.1, .pointer (some ⟨a, 0, none⟩)] rfl (by exact ⟨hS.ld 3 rfl rfl, hS.ld 0 rfl rfl⟩) ?_
      refine WQ.nil ?_
      intro m1
      replace hS := hS.drewN m1; generalize hwm1 : World.drewN _ _ = w at *; clear hwm1
      refine WL.call rfl rfl (lk_get (R := rt :: R) (i := hd) (k := (wC e).2.1) (t := th) (hA := hA) (hi := hth) (hS := (hS.sel 7 [6, 0, 0, 0, 0, 0, 0] rfl))) rfl ?_
      clear hS; rintro _ w ⟨rfl, hS⟩
      replace hS := hS.n7 L rfl
      refine WL.nil ?_
      refine ⟨by exact trivial, ?_⟩
      refine WQ.r 5 rfl <| WQ.nil ?_
      intro m2
      replace hS := hS.drewN m2; generalize hwm2 : World.drewN _ _ = w at *; clear hwm2
      as_aux_lemma =>
      refine WC.seq <| WC.region <| WL.run 4 [.int .i64 (wC e).1] rfl (by exact hS.ld 4 rfl rfl) ?_
      refine WL.nil <| WC.seq <| WC.region <| WL.r 3 rfl <| WL.runG 9 [.int .i64 (wC e).2.2.2] rfl (by exact (fun _ => hS.ld 4 rfl rfl)) (fun j => ?_)
      refine WL.prop 79 rfl (bor (bnot (dv _)) (band (dd _) (dd _))) <| WL.nil <| WC.ifP rfl (fun hnd => ?_) (fun hnd => ?_)
      · refine WC.region <| WL.r 1 rfl <| WL.ldF rfl rfl 4 hS rfl rfl ag_110 <| WL.lit rfl rfl (ch4 [((wC e).1, (wC e).2.1, (wC e).2.2.1, (wC e).2.2.2)]) el_111 hS (by exact ⟨rfl, rfl⟩) (ch4_ok _) rfl (Nat.le_of_ble_eq_true rfl) (fun b2 w hS => ?_)
        refine WL.app rfl rfl 6 (ch4 (acc ++ [((wC e).1, (wC e).2.1, (wC e).2.2.1, (wC e).2.2.2)])) el_111 hS rfl (hS.srcO 0 rfl) (ch4_app _ _).symm (Rm.of (by first | omega | (simp <;> omega)) (by decide)) rfl rfl (fun a2 c2 w hS => ?_)
        replace hS := hS.n8 L (a0 := Own 110 4 (ch4 [((wC e).1, (wC e).2.1, (wC e).2.2.1, (wC e).2.2.2)]) (some ⟨b2, 0, none⟩) (List.length (ch4 [((wC e).1, (wC e).2.1, (wC e).2.2.1, (wC e).2.2.2)]))) (a6 := Own 110 4 (ch4 (acc ++ [((wC e).1, (wC e).2.1, (wC e).2.2.1, (wC e).2.2.2)])) a2 c2) rfl
        refine WL.r 1 rfl <| WL.nil <| WC.region <| WL.r 1 rfl <| WL.nw 84 rfl (w64 (by omega)) ?_
        refine WL.r 1 rfl <| WL.nil ?_
        replace hS := St.exClose (f := txF x a rt xs q S) (L := Own 110 4 (ch4 [((wC e).1, (wC e).2.1, (wC e).2.2.1, (wC e).2.2.2)]) (some ⟨b2, 0, none⟩) (List.length (ch4 [((wC e).1, (wC e).2.1, (wC e).2.2.1, (wC e).2.2.2)])) :: Arn a A :: cel b1 #[.int .i64 (wC e).1, .int .i64 (wC e).2.1, .int .i64 (wC e).2.2.1, .int .i64 (wC e).2.2.2] 110 :: Own 110 4 (ch4 (acc ++ [((wC e).1, (wC e).2.1, (wC e).2.2.1, (wC e).2.2.2)])) a2 c2 :: Own 110 4 (ch4 (M.map wC)) a1 c1 :: L) ⟨xm, xu, xc⟩ ((hS.sel 5 [2, 2, 2, 0, 0] rfl))
        replace hS := hS.n6 L (a0 := Tx x a rt xs q S) rfl
        exact ⟨_, by omega, k2 + 1, acc ++ [wC e], a2, c2, rfl, (hS.sel 6 [4, 4, 0, 1] rfl), (by omega), (by rw [wWork_in he (need_iff.1 hnd), List.map_append, ← hac]; rfl), rfl⟩
      · refine WC.skip <| WC.region <| WL.r 1 rfl <| WL.nw 84 rfl (w64 (by omega)) ?_
        refine WL.r 1 rfl <| WL.nil ?_
        replace hS := St.exClose (f := txF x a rt xs q S) (L := Arn a A :: cel b1 #[.int .i64 (wC e).1, .int .i64 (wC e).2.1, .int .i64 (wC e).2.2.1, .int .i64 (wC e).2.2.2] 110 :: Own 110 4 (ch4 acc) u d :: Own 110 4 (ch4 (M.map wC)) a1 c1 :: L) ⟨xm, xu, xc⟩ ((hS.sel 4 [1, 1, 1, 0] rfl))
        replace hS := hS.n5 L (a0 := Tx x a rt xs q S) rfl
        exact ⟨_, by omega, k2 + 1, acc, u, d, rfl, (hS.sel 5 [3, 3, 0, 0] rfl), (by omega), (by rw [wWork_out he (by have := mt need_iff.2 hnd; simpa using this)]; exact hac), rfl⟩
    · refine WC.exit <| WC.seq <| WC.seq <| WC.plan [([0, 1, 2, 3, 4, 8, 12, 14, 5, 9, 15, 6, 10, 16, 7, 11, 17], some (13, [4, 5, 6, 7, 14, 15, 16, 17])), ([18], some (19, [4, 5, 6, 7])), ([], some (20, [])), ([21, 22], none)] (by kernel_rfl) (by kernel_rfl) ?_
      obtain ⟨⟨xm, xu, xc⟩, hS⟩ := St.exOpen (f := txF x a rt xs q S) (hS.at_ 2 rfl)
      replace hS := hS.n6 L (a0 := cel x #[.pointer (some ⟨a, 0, none⟩), .int .u32 rt, .bool false, .map (some xm), .slice xu (List.length (en2 S)) xc] 188) (a1 := blk xm (.map (mE (List.map wK xs)) q)) (a2 := Own 106 2 (en2 S) xu xc) rfl
      have hke : acc = (wWork th M).map wC := (by rw [hac, List.take_of_length_le (by omega)]); have hal := ch4_len acc; have hal2 : acc.length = (wWork th M).length := (by rw [hke, List.length_map]); have hwl := wWork_len th M
      refine WQ.r 4 rfl ?_
      by_cases cg1 : 0 < (List.length (ch4 acc) : Int)
      · refine WQ.reb 88 (.bool true) (congrArg Value.bool (decide_eq_true cg1)) <| WQ.ung rfl rfl rfl <| WQ.r 1 rfl <| WQ.ung rfl rfl rfl <| WQ.r 1 rfl <| WQ.ung rfl rfl rfl <| WQ.r 1 rfl <| WQ.ung rfl rfl rfl <| WQ.r 1 rfl <| WQ.ung rfl rfl rfl <| WQ.r 1 rfl <| WQ.ung rfl rfl rfl ?_
        refine WQ.r 1 rfl <| WQ.ung rfl rfl rfl <| WQ.r 1 rfl <| WQ.ung rfl rfl rfl <| WQ.r 1 rfl <| WQ.ung rfl rfl rfl <| WQ.r 1 rfl <| WQ.ung rfl rfl rfl <| WQ.r 1 rfl <| WQ.ung rfl rfl rfl <| WQ.run 1 [.pointer (some ⟨a, 0, none⟩)] rfl (by exact hS.ld 0 rfl rfl) ?_
        refine WQ.ung rfl rfl rfl <| WQ.run 1 [.pointer (some ⟨a, 0, none⟩)] rfl (by exact hS.ld 0 rfl rfl) ?_
        refine WQ.ung rfl rfl rfl <| WQ.run 1 [.map (some xm)] rfl (by exact hS.ld 0 rfl rfl) ?_
        refine WQ.nil ?_
        intro m1
        replace hS := hS.drewN m1; generalize hwm1 : World.drewN _ _ = w at *; clear hwm1
        refine WL.ung rfl rfl rfl <| WL.call rfl rfl (tr_size (R := rt :: R) (i := hd) (t := th) (hA := hA) (hi := hth) (hS := (hS.sel 6 [5, 0, 0, 0, 0, 0] rfl))) rfl ?_
        clear hS; rintro _ w ⟨rfl, hS⟩
        replace hS := hS.n6 L rfl
        refine WL.nil ?_
        refine ⟨by exact ⟨RQ.ung rfl rfl rfl (RQ.pure rfl rfl rfl rfl), RQ.ung rfl rfl rfl (RQ.pure rfl rfl rfl rfl), RQ.ung rfl rfl rfl (RQ.pure rfl rfl rfl rfl), RQ.ung rfl rfl rfl (RQ.load rfl rfl rfl rfl (hS.ld 1 rfl rfl)), RQ.ung rfl rfl rfl (RQ.pure rfl rfl rfl rfl), RQ.ung rfl rfl rfl (RQ.pure rfl rfl rfl rfl), RQ.ung rfl rfl rfl (RQ.pure rfl rfl rfl rfl), RQ.ung rfl rfl rfl (RQ.load rfl rfl rfl rfl (hS.ld 1 rfl rfl))⟩, ?_⟩
        refine WQ.ung rfl rfl rfl <| WQ.lenM rfl rfl mt_186 2 hS rfl rfl <| WQ.nil ?_
        intro m2
        replace hS := hS.drewN m2; generalize hwm2 : World.drewN _ _ = w at *; clear hwm2
        refine WL.ung rfl rfl rfl <| WL.call rfl rfl (rs_apply (n := th.n) (m := Array.size (mE (List.map wK xs))) (hn := (by rw [mE_size, List.length_map]; omega)) (hS := hS)) rfl ?_
        clear hS; rintro _ w ⟨rfl, hS⟩
        replace hS := hS.n6 L rfl
        refine WL.nil ?_
        refine ⟨by exact ⟨RQ.ung rfl rfl rfl (RQ.pure rfl rfl rfl rfl), RQ.ung rfl rfl rfl (RQ.pure rfl rfl rfl rfl), RQ.ung rfl rfl rfl (RQ.pure rfl rfl rfl rfl), RQ.ung rfl rfl rfl (RQ.load rfl rfl rfl rfl (hS.ld 1 rfl rfl))⟩, ?_⟩
        refine WQ.nil ?_
        intro m3
        replace hS := hS.drewN m3; generalize hwm3 : World.drewN _ _ = w at *; clear hwm3
        refine WL.ung rfl rfl rfl <| WL.call rfl rfl (tw_room (n := (th.n : Int) + (Array.size (mE (List.map wK xs))) + 4 * ((Tr.mxH (th.n + (Array.size (mE (List.map wK xs)))) : Int) + 2)) (hA := hA.toAWf) (hS := hS)) rfl ?_
        clear hS; rintro _ w ⟨rfl, hS⟩
        replace hS := hS.n6 L rfl
        refine WL.nil ?_
        refine ⟨by exact trivial, ?_⟩
        refine WQ.ung rfl rfl rfl <| WQ.r 1 rfl <| WQ.prop 106 rfl (bnot (dd _)) <| WQ.r 1 rfl <| WQ.nil ?_
        intro m4
        replace hS := hS.drewN m4; generalize hwm4 : World.drewN _ _ = w at *; clear hwm4
        as_aux_lemma =>
        refine WC.ifP rfl (fun hfl => ?_) (fun hfl => ?_)
        · refine WC.seq <| WC.region <| WL.r 2 rfl <| WL.nil <| WC.ret ?_
          replace hS := St.exClose (f := tzF x a rt S false) (L := Arn a A :: blk xm (.map (mE (List.map wK xs)) q) :: Own 106 2 (en2 S) xu xc :: Own 110 4 (ch4 acc) u d :: Own 110 4 (ch4 (M.map wC)) a1 c1 :: L) ⟨xm, xu, xc⟩ ((hS.sel 2 [1, 0] rfl))
          replace hS := hS.n6 L (a0 := Tz x a rt S false) rfl
          refine ⟨[.int .u32 0, .int .i64 2], ⟨rfl, rfl⟩, ?_⟩
          replace hS := (hS.sel 6 [0, 0] rfl)
          rw [mE_size, List.length_map, hml] at hfl; exact ⟨_, _, _, _, rfl, hS, .inr ⟨rfl, rfl, rfl, rfl, fun h => (by rw [h] at hal2; simp only [List.length_nil] at hal2; omega), Int.not_le.1 (fun h => hfl ⟨by omega, h⟩)⟩⟩
        · refine WC.skip <| WC.seq <| WC.region ?_
          have hrm : wWork th M = [] ∨ ((th.n : Int) + M.length + 4 * ((Tr.mxH (th.n + M.length) : Int) + 2)) ≤ A.s.free := (by first | exact .inl (List.length_eq_zero_iff.1 (by omega)) | (have h9 := (Classical.not_not.1 hfl).2; rw [mE_size, List.length_map, hml] at h9; exact .inr h9)); have hcs := hcs hrm
          refine WL.run 5 [.pointer (some ⟨a, 0, none⟩)] rfl (by exact hS.ld 1 rfl rfl) ?_
          refine WL.call rfl rfl (tw_hold (R := rt :: R) (i := hd) (hA := hA) (hi := hth.ref) (hz := (by simp only [List.length_cons]; omega)) (hS := hS)) rfl ?_
          clear hS; rintro _ w ⟨rfl, hS, f1⟩
          replace hS := hS.n6 L (a0 := Arn a (A.ret hd)) rfl
          refine WL.r 1 rfl <| WL.nil <| WC.seq <| WC.seq <| WC.region <| WL.r 3 rfl <| WL.nil <| WC.block <| WC.loop [0, 14, 114, 115, 116] (fun kM vs w => ∃ (k3 : Nat) (B : AM) (o : Int), vs = [.pointer (some ⟨x, 0, none⟩), .int .u32 o, .slice u (List.length (ch4 acc)) d, .int .i64 (List.length (ch4 acc) : Int), .int .i64 (k3 : Int)] ∧ St g (Arn a B :: cel x #[.pointer (some ⟨a, 0, none⟩), .int .u32 rt, .bool false, .map (some xm), .slice xu (List.length (en2 S)) xc] 188 :: blk xm (.map (mE (List.map wK xs)) q) :: Own 106 2 (en2 S) xu xc :: Own 110 4 (ch4 acc) u d :: Own 110 4 (ch4 (M.map wC)) a1 c1 :: L) w ∧ (k3 ≤ (wWork th M).length) ∧ (TOp A B (rt :: R) o (wAll ((wWork th M).take k3) th) (wSum ((wWork th M).take k3) th)) ∧ (k3 = 0 → o = hd) ∧ ((wWork th M).length - k3) = kM) ((List.length (wWork th M)) - 0) ⟨0, A.ret hd, hd, rfl, hS, (Nat.zero_le _), (TOp.held (ARf.refl f1 (hth.ret hd))), (fun _ => rfl), rfl⟩ ?_
          clear hS; rintro _ _ w j ⟨k3, B, o, rfl, hS, hk3, hT, ho3, rfl⟩
          refine WC.seq <| WC.region <| WL.r 1 rfl <| WL.nil <| WC.seq <| WC.ifP rfl (fun cd3 => ?_) (fun cd3 => ?_)
          · refine WC.skip ?_
            as_aux_lemma =>
            refine WC.seq <| WC.block <| WC.seq <| WC.region ?_
            obtain ⟨e3, he3⟩ : ∃ e, (wWork th M)[k3]? = some e := ⟨_, List.getElem?_eq_getElem (by omega)⟩; have hz3 : acc[k3]? = some (wC e3) := (by rw [hke, List.getElem?_map, he3]; rfl); have hc3 := hcs k3 e3 B o he3 hT; have hwn := wAll_n ((wWork th M).take k3) th; have htl3 := List.length_take_le k3 (wWork th M)
            refine WL.ix rfl rfl (i := (k3 : Int)) (k3) el_111 rfl rfl (by omega) (by omega) (hS.rdO 4 rfl (ch4_at hz3)).1 ?_
            refine WL.ldC rfl rfl [.int .i64 (wC e3).1, .int .i64 (wC e3).2.1, .int .i64 (wC e3).2.2.1, .int .i64 (wC e3).2.2.2] ag_110 rfl (hS.rdO 4 rfl (ch4_at hz3)).2 <| WL.new rfl rfl zv_110 hS (fun b1 w hS => ?_)
            refine WL.stF rfl rfl rfl 0 hS rfl rfl rfl rfl rfl ag_110 (fun w hS => ?_)
            replace hS := hS.n7 L (a0 := cel b1 #[.int .i64 (wC e3).1, .int .i64 (wC e3).2.1, .int .i64 (wC e3).2.2.1, .int .i64 (wC e3).2.2.2] 110) rfl
            refine WL.nil <| WC.seq <| WC.region <| WL.run 3 [.int .i64 (wC e3).1] rfl (by exact hS.ld 0 rfl rfl) ?_
            refine WL.nil <| WC.ifP rfl (fun hp => ?_) (fun hp => ?_)
            · refine WC.plan [([0, 4, 5, 7, 1, 6, 8, 2, 3], some (9, [0, 1, 2, 3, 4])), ([], some (10, [])), ([], some (11, []))] (by kernel_rfl) (by kernel_rfl) ?_
              refine WQ.run 9 [.int .i64 (wC e3).2.1, .int .i64 (wC e3).2.2.2, .pointer (some ⟨a, 0, none⟩)] rfl (by exact ⟨hS.ld 0 rfl rfl, hS.ld 0 rfl rfl, hS.ld 2 rfl rfl⟩) ?_
              refine WQ.nil ?_
              intro m5
              replace hS := hS.drewN m5; generalize hwm5 : World.drewN _ _ = w at *; clear hwm5
              refine WL.build rfl rfl (cs := [.int .i64 (wC e3).2.1, .int .i64 (wC e3).2.2.2]) zv_121 rfl rfl <| WL.nil ?_
              refine ⟨by exact ⟨RQ.pure rfl rfl rfl rfl, RQ.pure rfl rfl rfl rfl, RQ.pure rfl rfl rfl rfl, RQ.load rfl rfl rfl rfl (hS.ld 2 rfl rfl), RQ.pure rfl rfl rfl rfl⟩, ?_⟩
              refine WQ.nil ?_
              intro m6
              replace hS := hS.drewN m6; generalize hwm6 : World.drewN _ _ = w at *; clear hwm6
              refine WL.call rfl rfl (tw_ins (R := rt :: R) (i := o) (k := (wC e3).2.1) (z := (wC e3).2.2.2) (t := wAll ((wWork th M).take k3) th) (hA := hT.ref) (hi := hT.is) (hf := (wCost_ins hp hc3)) (hz := (by simp only [List.length_cons]; omega)) (hS := (hS.sel 2 [1, 0] rfl))) rfl ?_
              clear hS; rintro _ w ⟨A1, j1, rfl, hS, f2⟩
              replace hS := hS.n7 L (a0 := Arn a A1) rfl
              refine WL.nil ?_
              refine ⟨by exact trivial, ?_⟩
              refine WQ.nil ?_
              intro m7
              replace hS := hS.drewN m7; generalize hwm7 : World.drewN _ _ = w at *; clear hwm7
              refine WL.r 1 rfl <| WL.nil ?_
              refine ⟨by exact trivial, ?_⟩
              intro m8
              replace hS := hS.drewN m8; generalize hwm8 : World.drewN _ _ = w at *; clear hwm8
              as_aux_lemma =>
              refine WC.region <| WL.r 1 rfl <| WL.nw 142 rfl (w64 (by omega)) ?_
              refine WL.r 1 rfl <| WL.nil ?_
              exact ⟨_, by omega, k3 + 1, A1, j1, rfl, (hS.sel 2 [0] rfl), (by omega), (step_ins he3 hp hT f2), (fun h => absurd h (by omega)), rfl⟩
            · refine WC.plan [([0, 4, 5, 1, 6, 2, 3], some (7, [])), ([8], none)] (by kernel_rfl) (by kernel_rfl) ?_
              refine WQ.run 7 [.int .i64 (wC e3).2.1, .pointer (some ⟨a, 0, none⟩)] rfl (by exact ⟨hS.ld 0 rfl rfl, hS.ld 2 rfl rfl⟩) ?_
              refine WQ.nil ?_
              intro m5
              replace hS := hS.drewN m5; generalize hwm5 : World.drewN _ _ = w at *; clear hwm5
              refine WL.call rfl rfl (tw_del (R := rt :: R) (i := o) (k := (wC e3).2.1) (t := wAll ((wWork th M).take k3) th) (hA := hT.ref) (hi := hT.is) (hf := (wCost_del hp hc3)) (hz := (by simp only [List.length_cons]; omega)) (hS := (hS.sel 2 [1, 0] rfl))) rfl ?_
              clear hS; rintro _ w ⟨A1, j1, rfl, hS, f2⟩
              replace hS := hS.n7 L (a0 := Arn a A1) rfl
              refine WL.nil ?_
              refine ⟨by exact trivial, ?_⟩
              refine WQ.r 1 rfl <| WQ.nil ?_
              intro m6
              replace hS := hS.drewN m6; generalize hwm6 : World.drewN _ _ = w at *; clear hwm6
              as_aux_lemma =>
              refine WC.region <| WL.r 1 rfl <| WL.nw 142 rfl (w64 (by omega)) ?_
              refine WL.r 1 rfl <| WL.nil ?_
              exact ⟨_, by omega, k3 + 1, A1, j1, rfl, (hS.sel 2 [0] rfl), (by omega), (step_del he3 hp hT f2), (fun h => absurd h (by omega)), rfl⟩
          · refine WC.exit ?_
            as_aux_lemma =>
            refine WC.seq <| WC.region ?_
            replace hS := St.exClose (f := txF x a rt xs q S) (L := Arn a B :: Own 110 4 (ch4 acc) u d :: Own 110 4 (ch4 (M.map wC)) a1 c1 :: L) ⟨xm, xu, xc⟩ ((hS.sel 4 [1, 1, 1, 0] rfl))
            replace hS := hS.n4 L (a0 := Tx x a rt xs q S) rfl
            refine WL.r 1 rfl <| WL.call rfl rfl (tx_end (R := o :: R) (hA := hT.ref.sw) (hR := (by simp only [List.length_cons]; omega)) (hS := hS)) rfl ?_
            clear hS; rintro _ w ⟨A1, xm1, xu1, xc1, rfl, hS, f2⟩
            replace hS := hS.n4 L (a0 := cel x #[.pointer (some ⟨a, 0, none⟩), .int .u32 rt, .bool true, .map (some xm1), .slice xu1 (List.length (en2 S)) xc1] 188) (a1 := Arn a A1) rfl
            refine WL.nil <| WC.seq <| WC.region <| WL.r 3 rfl <| WL.nil <| WC.ret ?_
            replace hS := St.exClose (f := tzF x a rt S true) (L := Arn a A1 :: Own 110 4 (ch4 acc) u d :: Own 110 4 (ch4 (M.map wC)) a1 c1 :: L) ⟨xm1, xu1, xc1⟩ (hS)
            replace hS := hS.n4 L (a0 := Tz x a rt S true) rfl
            refine ⟨[.int .u32 o, .int .i64 0], ⟨rfl, rfl⟩, ?_⟩
            replace hS := (hS.sel 4 [0, 0] rfl)
            have hk9 : (wWork th M).take k3 = wWork th M := List.take_of_length_le (by omega); rw [hk9] at hT; exact ⟨_, _, _, _, rfl, hS, .inl ⟨rfl, rfl, hrm, TOp.fin hT f2, fun h => ho3 (by have h8 := congrArg List.length h; simp only [List.length_nil] at h8; omega)⟩⟩
      · refine WQ.reb 88 (.bool false) (congrArg Value.bool (decide_eq_false cg1)) <| WQ.skp rfl rfl rfl rfl <| WQ.skp rfl rfl rfl rfl <| WQ.skp rfl rfl rfl rfl <| WQ.skp rfl rfl rfl rfl <| WQ.skp rfl rfl rfl rfl <| WQ.skp rfl rfl rfl rfl <| WQ.skp rfl rfl rfl rfl <| WQ.skp rfl rfl rfl rfl <| WQ.skp rfl rfl rfl rfl <| WQ.skp rfl rfl rfl rfl <| WQ.skp rfl rfl rfl rfl ?_
        refine WQ.skp rfl rfl rfl rfl <| WQ.skp rfl rfl rfl rfl <| WQ.nil ?_
        intro m1
        replace hS := hS.drewN m1; generalize hwm1 : World.drewN _ _ = w at *; clear hwm1
        refine WL.skp rfl rfl rfl rfl <| WL.nil ?_
        refine ⟨by exact ⟨RQ.skp rfl rfl rfl rfl rfl rfl, RQ.skp rfl rfl rfl rfl rfl rfl, RQ.skp rfl rfl rfl rfl rfl rfl, RQ.skp rfl rfl rfl rfl rfl rfl, RQ.skp rfl rfl rfl rfl rfl rfl, RQ.skp rfl rfl rfl rfl rfl rfl, RQ.skp rfl rfl rfl rfl rfl rfl, RQ.skp rfl rfl rfl rfl rfl rfl⟩, ?_⟩
        refine WQ.skp rfl rfl rfl rfl <| WQ.nil ?_
        intro m2
        replace hS := hS.drewN m2; generalize hwm2 : World.drewN _ _ = w at *; clear hwm2
        refine WL.skp rfl rfl rfl rfl <| WL.nil ?_
        refine ⟨by exact ⟨RQ.skp rfl rfl rfl rfl rfl rfl, RQ.skp rfl rfl rfl rfl rfl rfl, RQ.skp rfl rfl rfl rfl rfl rfl, RQ.skp rfl rfl rfl rfl rfl rfl⟩, ?_⟩
        refine WQ.nil ?_
        intro m3
        replace hS := hS.drewN m3; generalize hwm3 : World.drewN _ _ = w at *; clear hwm3
        refine WL.skp rfl rfl rfl rfl <| WL.nil ?_
        refine ⟨by exact trivial, ?_⟩
        refine WQ.skp rfl rfl rfl rfl <| WQ.r 1 rfl <| WQ.nil ?_
        intro m4
        replace hS := hS.drewN m4; generalize hwm4 : World.drewN _ _ = w at *; clear hwm4
        as_aux_lemma =>
        refine WC.ifF rfl rfl <| WC.skip <| WC.seq <| WC.region ?_
        have hrm : wWork th M = [] ∨ ((th.n : Int) + M.length + 4 * ((Tr.mxH (th.n + M.length) : Int) + 2)) ≤ A.s.free := (by first | exact .inl (List.length_eq_zero_iff.1 (by omega)) | (have h9 := (Classical.not_not.1 hfl).2; rw [mE_size, List.length_map, hml] at h9; exact .inr h9)); have hcs := hcs hrm
        refine WL.run 5 [.pointer (some ⟨a, 0, none⟩)] rfl (by exact hS.ld 0 rfl rfl) ?_
        refine WL.call rfl rfl (tw_hold (R := rt :: R) (i := hd) (hA := hA) (hi := hth.ref) (hz := (by simp only [List.length_cons]; omega)) (hS := (hS.sel 6 [5, 0, 0, 0, 0, 0] rfl))) rfl ?_
        clear hS; rintro _ w ⟨rfl, hS, f1⟩
        replace hS := hS.n6 L (a0 := Arn a (A.ret hd)) rfl
        refine WL.r 1 rfl <| WL.nil <| WC.seq <| WC.seq <| WC.region <| WL.r 3 rfl <| WL.nil <| WC.block <| WC.loop [0, 14, 114, 115, 116] (fun kM vs w => ∃ (k3 : Nat) (B : AM) (o : Int), vs = [.pointer (some ⟨x, 0, none⟩), .int .u32 o, .slice u (List.length (ch4 acc)) d, .int .i64 (List.length (ch4 acc) : Int), .int .i64 (k3 : Int)] ∧ St g (Arn a B :: cel x #[.pointer (some ⟨a, 0, none⟩), .int .u32 rt, .bool false, .map (some xm), .slice xu (List.length (en2 S)) xc] 188 :: blk xm (.map (mE (List.map wK xs)) q) :: Own 106 2 (en2 S) xu xc :: Own 110 4 (ch4 acc) u d :: Own 110 4 (ch4 (M.map wC)) a1 c1 :: L) w ∧ (k3 ≤ (wWork th M).length) ∧ (TOp A B (rt :: R) o (wAll ((wWork th M).take k3) th) (wSum ((wWork th M).take k3) th)) ∧ (k3 = 0 → o = hd) ∧ ((wWork th M).length - k3) = kM) ((List.length (wWork th M)) - 0) ⟨0, A.ret hd, hd, rfl, hS, (Nat.zero_le _), (TOp.held (ARf.refl f1 (hth.ret hd))), (fun _ => rfl), rfl⟩ ?_
        clear hS; rintro _ _ w j ⟨k3, B, o, rfl, hS, hk3, hT, ho3, rfl⟩
        refine WC.seq <| WC.region <| WL.r 1 rfl <| WL.nil <| WC.seq <| WC.ifP rfl (fun cd3 => ?_) (fun cd3 => ?_)
        · refine WC.skip ?_
          as_aux_lemma =>
          refine WC.seq <| WC.block <| WC.seq <| WC.region ?_
          obtain ⟨e3, he3⟩ : ∃ e, (wWork th M)[k3]? = some e := ⟨_, List.getElem?_eq_getElem (by omega)⟩; have hz3 : acc[k3]? = some (wC e3) := (by rw [hke, List.getElem?_map, he3]; rfl); have hc3 := hcs k3 e3 B o he3 hT; have hwn := wAll_n ((wWork th M).take k3) th; have htl3 := List.length_take_le k3 (wWork th M)
          refine WL.ix rfl rfl (i := (k3 : Int)) (k3) el_111 rfl rfl (by omega) (by omega) (hS.rdO 4 rfl (ch4_at hz3)).1 ?_
          refine WL.ldC rfl rfl [.int .i64 (wC e3).1, .int .i64 (wC e3).2.1, .int .i64 (wC e3).2.2.1, .int .i64 (wC e3).2.2.2] ag_110 rfl (hS.rdO 4 rfl (ch4_at hz3)).2 <| WL.new rfl rfl zv_110 hS (fun b1 w hS => ?_)
          refine WL.stF rfl rfl rfl 0 hS rfl rfl rfl rfl rfl ag_110 (fun w hS => ?_)
          replace hS := hS.n7 L (a0 := cel b1 #[.int .i64 (wC e3).1, .int .i64 (wC e3).2.1, .int .i64 (wC e3).2.2.1, .int .i64 (wC e3).2.2.2] 110) rfl
          refine WL.nil <| WC.seq <| WC.region <| WL.run 3 [.int .i64 (wC e3).1] rfl (by exact hS.ld 0 rfl rfl) ?_
          refine WL.nil <| WC.ifP rfl (fun hp => ?_) (fun hp => ?_)
          · refine WC.plan [([0, 4, 5, 7, 1, 6, 8, 2, 3], some (9, [0, 1, 2, 3, 4])), ([], some (10, [])), ([], some (11, []))] (by kernel_rfl) (by kernel_rfl) ?_
            refine WQ.run 9 [.int .i64 (wC e3).2.1, .int .i64 (wC e3).2.2.2, .pointer (some ⟨a, 0, none⟩)] rfl (by exact ⟨hS.ld 0 rfl rfl, hS.ld 0 rfl rfl, hS.ld 2 rfl rfl⟩) ?_
            refine WQ.nil ?_
            intro m5
            replace hS := hS.drewN m5; generalize hwm5 : World.drewN _ _ = w at *; clear hwm5
            refine WL.build rfl rfl (cs := [.int .i64 (wC e3).2.1, .int .i64 (wC e3).2.2.2]) zv_121 rfl rfl <| WL.nil ?_
            refine ⟨by exact ⟨RQ.pure rfl rfl rfl rfl, RQ.pure rfl rfl rfl rfl, RQ.pure rfl rfl rfl rfl, RQ.load rfl rfl rfl rfl (hS.ld 2 rfl rfl), RQ.pure rfl rfl rfl rfl⟩, ?_⟩
            refine WQ.nil ?_
            intro m6
            replace hS := hS.drewN m6; generalize hwm6 : World.drewN _ _ = w at *; clear hwm6
            refine WL.call rfl rfl (tw_ins (R := rt :: R) (i := o) (k := (wC e3).2.1) (z := (wC e3).2.2.2) (t := wAll ((wWork th M).take k3) th) (hA := hT.ref) (hi := hT.is) (hf := (wCost_ins hp hc3)) (hz := (by simp only [List.length_cons]; omega)) (hS := (hS.sel 2 [1, 0] rfl))) rfl ?_
            clear hS; rintro _ w ⟨A1, j1, rfl, hS, f2⟩
            replace hS := hS.n7 L (a0 := Arn a A1) rfl
            refine WL.nil ?_
            refine ⟨by exact trivial, ?_⟩
            refine WQ.nil ?_
            intro m7
            replace hS := hS.drewN m7; generalize hwm7 : World.drewN _ _ = w at *; clear hwm7
            refine WL.r 1 rfl <| WL.nil ?_
            refine ⟨by exact trivial, ?_⟩
            intro m8
            replace hS := hS.drewN m8; generalize hwm8 : World.drewN _ _ = w at *; clear hwm8
            as_aux_lemma =>
            refine WC.region <| WL.r 1 rfl <| WL.nw 142 rfl (w64 (by omega)) ?_
            refine WL.r 1 rfl <| WL.nil ?_
            exact ⟨_, by omega, k3 + 1, A1, j1, rfl, (hS.sel 2 [0] rfl), (by omega), (step_ins he3 hp hT f2), (fun h => absurd h (by omega)), rfl⟩
          · refine WC.plan [([0, 4, 5, 1, 6, 2, 3], some (7, [])), ([8], none)] (by kernel_rfl) (by kernel_rfl) ?_
            refine WQ.run 7 [.int .i64 (wC e3).2.1, .pointer (some ⟨a, 0, none⟩)] rfl (by exact ⟨hS.ld 0 rfl rfl, hS.ld 2 rfl rfl⟩) ?_
            refine WQ.nil ?_
            intro m5
            replace hS := hS.drewN m5; generalize hwm5 : World.drewN _ _ = w at *; clear hwm5
            refine WL.call rfl rfl (tw_del (R := rt :: R) (i := o) (k := (wC e3).2.1) (t := wAll ((wWork th M).take k3) th) (hA := hT.ref) (hi := hT.is) (hf := (wCost_del hp hc3)) (hz := (by simp only [List.length_cons]; omega)) (hS := (hS.sel 2 [1, 0] rfl))) rfl ?_
            clear hS; rintro _ w ⟨A1, j1, rfl, hS, f2⟩
            replace hS := hS.n7 L (a0 := Arn a A1) rfl
            refine WL.nil ?_
            refine ⟨by exact trivial, ?_⟩
            refine WQ.r 1 rfl <| WQ.nil ?_
            intro m6
            replace hS := hS.drewN m6; generalize hwm6 : World.drewN _ _ = w at *; clear hwm6
            as_aux_lemma =>
            refine WC.region <| WL.r 1 rfl <| WL.nw 142 rfl (w64 (by omega)) ?_
            refine WL.r 1 rfl <| WL.nil ?_
            exact ⟨_, by omega, k3 + 1, A1, j1, rfl, (hS.sel 2 [0] rfl), (by omega), (step_del he3 hp hT f2), (fun h => absurd h (by omega)), rfl⟩
        · refine WC.exit ?_
          as_aux_lemma =>
          refine WC.seq <| WC.region ?_
          replace hS := St.exClose (f := txF x a rt xs q S) (L := Arn a B :: Own 110 4 (ch4 acc) u d :: Own 110 4 (ch4 (M.map wC)) a1 c1 :: L) ⟨xm, xu, xc⟩ ((hS.sel 4 [1, 1, 1, 0] rfl))
          replace hS := hS.n4 L (a0 := Tx x a rt xs q S) rfl
          refine WL.r 1 rfl <| WL.call rfl rfl (tx_end (R := o :: R) (hA := hT.ref.sw) (hR := (by simp only [List.length_cons]; omega)) (hS := hS)) rfl ?_
          clear hS; rintro _ w ⟨A1, xm1, xu1, xc1, rfl, hS, f2⟩
          replace hS := hS.n4 L (a0 := cel x #[.pointer (some ⟨a, 0, none⟩), .int .u32 rt, .bool true, .map (some xm1), .slice xu1 (List.length (en2 S)) xc1] 188) (a1 := Arn a A1) rfl
          refine WL.nil <| WC.seq <| WC.region <| WL.r 3 rfl <| WL.nil <| WC.ret ?_
          replace hS := St.exClose (f := tzF x a rt S true) (L := Arn a A1 :: Own 110 4 (ch4 acc) u d :: Own 110 4 (ch4 (M.map wC)) a1 c1 :: L) ⟨xm1, xu1, xc1⟩ (hS)
          replace hS := hS.n4 L (a0 := Tz x a rt S true) rfl
          refine ⟨[.int .u32 o, .int .i64 0], ⟨rfl, rfl⟩, ?_⟩
          replace hS := (hS.sel 4 [0, 0] rfl)
          have hk9 : (wWork th M).take k3 = wWork th M := List.take_of_length_le (by omega); rw [hk9] at hT; exact ⟨_, _, _, _, rfl, hS, .inl ⟨rfl, rfl, hrm, TOp.fin hT f2, fun h => ho3 (by have h8 := congrArg List.length h; simp only [List.length_nil] at h8; omega)⟩⟩
set_option maxRecDepth 8192 in
theorem tx_commit {g w : World} {L : List HP} (x a : Nat) (rt : Int) (xs : List WE) (q : Nat) (S : Kvs) (M : Wrs) (A : AM) (R : List Int) (hd : Int) (ts th : Tr) (hW : WOk xs q M) (hA : ARf A (rt :: R)) (hts : Is A ts rt) (hth : Is A th hd) (hss : Srt ts.ls) (hsh : Srt th.ls) (hn : ts.n + th.n ≤ 60000) (hSl : S.length ≤ 100000) (hR : R.length ≤ 500000000) (hno : ∀ s ∈ S, inR s.1 s.2 (dif ts.ls th.ls) = []) (hrm : wWork th M = [] ∨ ((th.n : Int) + M.length + 4 * ((Tr.mxH (th.n + M.length) : Int) + 2)) ≤ A.s.free) (hcs : ∀ (k : Nat) (e : Int × Bool × Int) (B : AM) (o : Int), (wWork th M)[k]? = some e → TOp A B (rt :: R) o (wAll ((wWork th M).take k) th) (wSum ((wWork th M).take k) th) → (wCost (wAll ((wWork th M).take k) th) e : Int) ≤ B.s.free) (hS : St g (Tx x a rt xs q S :: Arn a A :: L) w) :
    Sp Tryz.prog 31 [.pointer (some ⟨x, 0, none⟩), .int .u32 hd] w (fun v w' => ∃ (A2 : AM) (i : Int) (xm : Nat) (xu : Option Addr) (xc : Nat), v = .tuple #[.int .u32 i, .int .i64 0] ∧ St g (cel x #[.pointer (some ⟨a, 0, none⟩), .int .u32 rt, .bool true, .map (some xm), .slice xu (List.length (en2 S)) xc] 188 :: Arn a A2 :: L) w' ∧ (TOp A A2 R i (wAll (wWork th M) th) (wSum (wWork th M) th))) := by
  refine (tx_com2 x a rt xs q S M A R hd ts th hW hA hts hth hss hsh hn hSl hR hno (fun _ => hcs) hS).mono fun v w' ⟨A2, i, e, en, hv, hS', h⟩ => ?_
  rcases h with ⟨rfl, rfl, _, h1, _⟩ | ⟨_, _, _, _, h1, h2⟩
  · obtain ⟨⟨xm, xu, xc⟩, hS'⟩ := St.exOpen (f := tzF x a rt S true) hS'
    exact ⟨A2, i, xm, xu, xc, hv, hS', h1⟩
  · rcases hrm with h3 | h3
    · exact absurd h3 h1
    · omega
end Go.Proofs.YtbeacjcmdijdmaaGreat
/-! ## K1 -/
namespace Go.Proofs.YtbeacjcmdijdmaaGreat
open Go Go.V
set_option maxRecDepth 8192 in
theorem kb_bal {g w : World} {L : List HP} (x y : Int) (hx : 0 ≤ x ∧ x ≤ 2000000000) (hy : 0 ≤ y ∧ y ≤ 2000000000) (hS : St g (L) w) :
    Sp Tryz.prog 200 [.int .i64 x, .int .i64 y] w (fun v w' => v = .bool (decide (x + 1 ≤ 3 * (y + 1) ∧ y + 1 ≤ 3 * (x + 1))) ∧ St g (L) w') := by
  refine Sp.enter Tryz.func200 rfl (by kernel_rfl) (by kernel_rfl) ?_
  have _ := hy
  have _ := hx
  refine WC.seq <| WC.region <| WL.r 1 rfl <| WL.nil <| WC.seq <| WC.seq <| WC.region <| WL.r 2 rfl <| WL.rG 12 rfl (fun j => ?_)
  refine WL.prop 18 rfl (bor (bor (bor (dd _) (dd _)) (dd _)) (dd _)) <| WL.nil <| WC.ifF rfl (decide_eq_false ((by omega))) ?_
  refine WC.skip <| WC.seq <| WC.region <| WL.r 2 rfl <| WL.nw 20 rfl (w64 (by omega)) ?_
  refine WL.r 2 rfl <| WL.nw 22 rfl (w64 (by omega)) ?_
  refine WL.r 1 rfl <| WL.nw 23 rfl (w64 (by omega)) ?_
  refine WL.r 1 rfl <| WL.rG 9 rfl (fun j => ?_)
  refine WL.prop 32 rfl (band (dd _) (dd _)) <| WL.nil ?_
  as_aux_lemma =>
  refine WC.ret ?_
  refine ⟨[.bool (bif (decide ((x + 1) ≤ (3 * (y + 1)))) then (decide ((IntKind.i64.wrap (y + 1)) ≤ (IntKind.i64.wrap (3 * (IntKind.i64.wrap (x + 1)))))) else false)], rfl, ?_⟩
  exact ⟨congrArg Value.bool (by rw [w64 (z := y + 1) (by omega), w64 (z := x + 1) (by omega), w64 (z := 3 * (x + 1)) (by omega), bif_and]), hS⟩
set_option maxRecDepth 8192 in
theorem kt_least {g w : World} {L : List HP} (n : Nat) (hn : n ≤ 1000000) (hS : St g (L) w) :
    Sp Tryz.prog 201 [.int .i64 (n : Int)] w (fun v w' => v = .int .i64 ((n : Int) / 4) ∧ St g (L) w') := by
  refine Sp.enter Tryz.func201 rfl (by kernel_rfl) (by kernel_rfl) ?_
  have _ := hn
  refine WC.seq <| WC.region <| WL.r 1 rfl <| WL.nil <| WC.seq <| WC.region <| WL.r 3 rfl <| WL.reb 5 (.int .i64 ((max 0 (n : Int)) / 4)) (congrArg (Value.int .i64) (quo_i64 (p := max 0 (n : Int)) (q := 4) (by omega))) ?_
  refine WL.r 1 rfl <| WL.nil <| WC.ret ?_
  refine ⟨[.int .i64 ((max 0 (n : Int)) / 4)], rfl, ?_⟩
  exact ⟨congrArg (Value.int .i64) (by omega), hS⟩
set_option maxRecDepth 8192 in
theorem kt_pivot {g w : World} {L : List HP} (n : Nat) (q : Int) (hn : 1 ≤ n ∧ n ≤ 1000000) (hq : 0 ≤ q ∧ q < 18446744073709551616) (hS : St g (L) w) :
    Sp Tryz.prog 161 [.int .i64 (n : Int), .int .u64 q] w (fun v w' => ∃ (p : Nat), v = .int .i64 (p : Int) ∧ St g (L) w' ∧ (p < n) ∧ (Bal p (n - 1 - p))) := by
  refine Sp.enter Tryz.func161 rfl (by kernel_rfl) (by kernel_rfl) ?_
  have _ := hq
  have _ := hn
  refine WC.seq <| WC.region <| WL.r 1 rfl <| WL.nil <| WC.seq <| WC.region <| WL.r 1 rfl <| WL.call rfl rfl (kt_least (n := n) (hn := (by omega)) (hS := hS)) rfl ?_
  clear hS; rintro _ w ⟨rfl, hS⟩
  replace hS : St g (L) w := hS
  refine WL.r 1 rfl <| WL.nil <| WC.seq <| WC.block <| WC.loop [0, 1, 4, 5] (fun kM vs w => ∃ (j : Int), vs = [.int .i64 (n : Int), .int .u64 q, .int .i64 0, .int .i64 j] ∧ St g (L) w ∧ (0 ≤ j ∧ j < n) ∧ (j.toNat) = kM) (((n : Int) / 4).toNat) ⟨(n : Int) / 4, rfl, hS, (by omega), rfl⟩ ?_
  clear hS; rintro _ _ w j ⟨j, rfl, hS, hj, rfl⟩
  refine WC.seq <| WC.seq <| WC.region <| WL.r 3 rfl ?_
  by_cases cg1 : 0 < j
  · refine WL.reb 11 (.bool true) (congrArg Value.bool (decide_eq_true cg1)) <| WL.ung rfl rfl rfl <| WL.r 1 rfl <| WL.ung rfl rfl rfl <| WL.r 1 rfl <| WL.nw 13 rfl (w64 (by omega)) ?_
    refine WL.ung rfl rfl rfl <| WL.r 1 rfl <| WL.ung rfl rfl rfl <| WL.r 1 rfl <| WL.ung rfl rfl rfl <| WL.r 1 rfl <| WL.nw 16 rfl (w64 (by omega)) ?_
    refine WL.ung rfl rfl rfl <| WL.call rfl rfl (kb_bal (x := j - 1) (y := (n : Int) - j) (hx := (by omega)) (hy := (by omega)) (hS := hS)) rfl ?_
    clear hS; rintro _ w ⟨rfl, hS⟩
    replace hS : St g (L) w := hS
    refine WL.r 1 rfl <| WL.nil ?_
    as_aux_lemma =>
    refine WC.ifP rfl (fun cd1 => ?_) (fun cd1 => ?_)
    · refine WC.skip <| WC.block <| WC.region <| WL.r 2 rfl <| WL.nw 20 rfl (w64 (by omega)) ?_
      refine WL.r 1 rfl <| WL.nil ?_
      exact ⟨_, by omega, j - 1, rfl, hS, (by omega), rfl⟩
    · refine WC.exit <| WC.seq <| WC.block <| WC.loop [0, 1, 4, 5] (fun kM vs w => ∃ (k : Int), vs = [.int .i64 (n : Int), .int .u64 q, .int .i64 0, .int .i64 k] ∧ St g (L) w ∧ (0 ≤ k ∧ k < n) ∧ ((n - k).toNat) = kM) ((n - j).toNat) ⟨j, rfl, hS, (hj), rfl⟩ ?_
      clear hS; rintro _ _ w j ⟨k, rfl, hS, hk, rfl⟩
      refine WC.seq <| WC.seq <| WC.region <| WL.r 3 rfl <| WL.nw 23 rfl (w64 (by omega)) ?_
      refine WL.r 2 rfl ?_
      by_cases cg2 : k < ((n : Int) - 1)
      · refine WL.reb 25 (.bool true) (congrArg Value.bool (decide_eq_true cg2)) <| WL.ung rfl rfl rfl <| WL.r 1 rfl <| WL.ung rfl rfl rfl <| WL.r 1 rfl <| WL.ung rfl rfl rfl <| WL.r 1 rfl <| WL.nw 28 rfl (w64 (by omega)) ?_
        refine WL.ung rfl rfl rfl <| WL.r 1 rfl <| WL.ung rfl rfl rfl <| WL.r 1 rfl <| WL.nw 30 rfl (w64 (by omega)) ?_
        refine WL.ung rfl rfl rfl <| WL.call rfl rfl (kb_bal (x := k) (y := ((n : Int) - 1) - k) (hx := (by omega)) (hy := (by omega)) (hS := hS)) rfl ?_
        clear hS; rintro _ w ⟨rfl, hS⟩
        replace hS : St g (L) w := hS
        refine WL.ung rfl rfl rfl <| WL.r 1 rfl <| WL.prop 32 rfl (bnot (dd _)) <| WL.r 1 rfl <| WL.nil ?_
        as_aux_lemma =>
        refine WC.ifP rfl (fun cd2 => ?_) (fun cd2 => ?_)
        · refine WC.skip <| WC.block <| WC.region <| WL.r 2 rfl <| WL.nw 35 rfl (w64 (by omega)) ?_
          refine WL.r 1 rfl <| WL.nil ?_
          exact ⟨_, by omega, k + 1, rfl, hS, (by omega), rfl⟩
        · refine WC.exit <| WC.seq <| WC.region <| WL.r 2 rfl <| WL.nw 37 rfl (w64 (by omega)) ?_
          refine WL.r 2 rfl <| WL.nw 39 rfl (w64 (by omega)) ?_
          refine WL.r 1 rfl <| WL.nil <| WC.seq <| WC.seq <| WC.region <| WL.r 3 rfl <| WL.nil <| WC.ifP rfl (fun cd3 => ?_) (fun cd3 => ?_)
          · refine WC.seq <| WC.region <| WL.r 2 rfl <| WL.reb 44 (.int .i64 ((n : Int) / 2)) (congrArg (Value.int .i64) (quo_i64 (p := (n : Int)) (q := 2) (by omega))) ?_
            refine WL.r 1 rfl <| WL.nil <| WC.ret ?_
            refine ⟨[.int .i64 ((n : Int) / 2)], rfl, ?_⟩
            exact ⟨n / 2, congrArg (Value.int .i64) (by omega), hS, by omega, by constructor <;> omega⟩
          · refine WC.skip <| WC.seq <| WC.region ?_
            obtain ⟨m, hm⟩ : ∃ m : Nat, (n : Int) - 1 - k - k + 1 = Int.ofNat (m + 1) := ⟨((n : Int) - 1 - k - k).toNat, by simp; omega⟩; have hm1 := Int.emod_nonneg q (b := Int.ofNat (m + 1)) (by first | (simp; done) | (simp; omega)); have hm2 := Int.emod_lt_of_pos q (b := Int.ofNat (m + 1)) (by first | (simp; done) | (simp; omega))
            refine WL.r 5 rfl <| WL.nw 49 rfl (w64 (by omega)) ?_
            refine WL.r 1 rfl <| WL.nw 50 rfl (w64 (by omega)) ?_
            refine WL.r 1 rfl <| WL.reb 51 (.int .u64 (Int.ofNat (m + 1))) (congrArg (Value.int .u64) (by rw [wu64 (by omega)]; exact hm)) ?_
            refine WL.r 1 rfl <| WL.reb 52 (.int .u64 (q % (Int.ofNat (m + 1)))) (congrArg (Value.int .u64) (Int.tmod_eq_emod_of_nonneg (a := q) (by omega))) ?_
            refine WL.r 1 rfl <| WL.nw 53 rfl (w64 (by omega)) ?_
            refine WL.r 1 rfl <| WL.nw 54 rfl (w64 (by omega)) ?_
            refine WL.r 1 rfl <| WL.nil ?_
            as_aux_lemma =>
            refine WC.ret ?_
            refine ⟨[.int .i64 (k + (q % (Int.ofNat (m + 1))))], rfl, ?_⟩
            exact ⟨(k + q % Int.ofNat (m + 1)).toNat, congrArg (Value.int .i64) (by omega), hS, by omega, by constructor <;> omega⟩
      · refine WL.reb 25 (.bool false) (congrArg Value.bool (decide_eq_false cg2)) <| WL.skp rfl rfl rfl rfl <| WL.skp rfl rfl rfl rfl <| WL.skp rfl rfl rfl rfl <| WL.skp rfl rfl rfl rfl <| WL.skp rfl rfl rfl rfl <| WL.skp rfl rfl rfl rfl <| WL.skp rfl rfl rfl rfl <| WL.r 1 rfl <| WL.nil <| WC.ifF rfl rfl <| WC.exit ?_
        as_aux_lemma =>
        refine WC.seq <| WC.region <| WL.r 2 rfl <| WL.nw 37 rfl (w64 (by omega)) ?_
        refine WL.r 2 rfl <| WL.nw 39 rfl (w64 (by omega)) ?_
        refine WL.r 1 rfl <| WL.nil <| WC.seq <| WC.seq <| WC.region <| WL.r 3 rfl <| WL.nil <| WC.ifP rfl (fun cd2 => ?_) (fun cd2 => ?_)
        · refine WC.seq <| WC.region <| WL.r 2 rfl <| WL.reb 44 (.int .i64 ((n : Int) / 2)) (congrArg (Value.int .i64) (quo_i64 (p := (n : Int)) (q := 2) (by omega))) ?_
          refine WL.r 1 rfl <| WL.nil <| WC.ret ?_
          refine ⟨[.int .i64 ((n : Int) / 2)], rfl, ?_⟩
          exact ⟨n / 2, congrArg (Value.int .i64) (by omega), hS, by omega, by constructor <;> omega⟩
        · refine WC.skip <| WC.seq <| WC.region ?_
          obtain ⟨m, hm⟩ : ∃ m : Nat, (n : Int) - 1 - k - k + 1 = Int.ofNat (m + 1) := ⟨((n : Int) - 1 - k - k).toNat, by simp; omega⟩; have hm1 := Int.emod_nonneg q (b := Int.ofNat (m + 1)) (by first | (simp; done) | (simp; omega)); have hm2 := Int.emod_lt_of_pos q (b := Int.ofNat (m + 1)) (by first | (simp; done) | (simp; omega))
          refine WL.r 5 rfl <| WL.nw 49 rfl (w64 (by omega)) ?_
          refine WL.r 1 rfl <| WL.nw 50 rfl (w64 (by omega)) ?_
          refine WL.r 1 rfl <| WL.reb 51 (.int .u64 (Int.ofNat (m + 1))) (congrArg (Value.int .u64) (by rw [wu64 (by omega)]; exact hm)) ?_
          refine WL.r 1 rfl <| WL.reb 52 (.int .u64 (q % (Int.ofNat (m + 1)))) (congrArg (Value.int .u64) (Int.tmod_eq_emod_of_nonneg (a := q) (by omega))) ?_
          refine WL.r 1 rfl <| WL.nw 53 rfl (w64 (by omega)) ?_
          refine WL.r 1 rfl <| WL.nw 54 rfl (w64 (by omega)) ?_
          refine WL.r 1 rfl <| WL.nil ?_
          as_aux_lemma =>
          refine WC.ret ?_
          refine ⟨[.int .i64 (k + (q % (Int.ofNat (m + 1))))], rfl, ?_⟩
          exact ⟨(k + q % Int.ofNat (m + 1)).toNat, congrArg (Value.int .i64) (by omega), hS, by omega, by constructor <;> omega⟩
  · refine WL.reb 11 (.bool false) (congrArg Value.bool (decide_eq_false cg1)) <| WL.skp rfl rfl rfl rfl <| WL.skp rfl rfl rfl rfl <| WL.skp rfl rfl rfl rfl <| WL.skp rfl rfl rfl rfl <| WL.skp rfl rfl rfl rfl <| WL.skp rfl rfl rfl rfl <| WL.r 1 rfl <| WL.nil ?_
    as_aux_lemma =>
    refine WC.ifF rfl rfl <| WC.exit <| WC.seq <| WC.block <| WC.loop [0, 1, 4, 5] (fun kM vs w => ∃ (k : Int), vs = [.int .i64 (n : Int), .int .u64 q, .int .i64 0, .int .i64 k] ∧ St g (L) w ∧ (0 ≤ k ∧ k < n) ∧ ((n - k).toNat) = kM) ((n - j).toNat) ⟨j, rfl, hS, (hj), rfl⟩ ?_
    clear hS; rintro _ _ w j ⟨k, rfl, hS, hk, rfl⟩
    refine WC.seq <| WC.seq <| WC.region <| WL.r 3 rfl <| WL.nw 23 rfl (w64 (by omega)) ?_
    refine WL.r 2 rfl ?_
    by_cases cg2 : k < ((n : Int) - 1)
    · refine WL.reb 25 (.bool true) (congrArg Value.bool (decide_eq_true cg2)) <| WL.ung rfl rfl rfl <| WL.r 1 rfl <| WL.ung rfl rfl rfl <| WL.r 1 rfl <| WL.ung rfl rfl rfl <| WL.r 1 rfl <| WL.nw 28 rfl (w64 (by omega)) ?_
      refine WL.ung rfl rfl rfl <| WL.r 1 rfl <| WL.ung rfl rfl rfl <| WL.r 1 rfl <| WL.nw 30 rfl (w64 (by omega)) ?_
      refine WL.ung rfl rfl rfl <| WL.call rfl rfl (kb_bal (x := k) (y := ((n : Int) - 1) - k) (hx := (by omega)) (hy := (by omega)) (hS := hS)) rfl ?_
      clear hS; rintro _ w ⟨rfl, hS⟩
      replace hS : St g (L) w := hS
      refine WL.ung rfl rfl rfl <| WL.r 1 rfl <| WL.prop 32 rfl (bnot (dd _)) <| WL.r 1 rfl <| WL.nil ?_
      as_aux_lemma =>
      refine WC.ifP rfl (fun cd1 => ?_) (fun cd1 => ?_)
      · refine WC.skip <| WC.block <| WC.region <| WL.r 2 rfl <| WL.nw 35 rfl (w64 (by omega)) ?_
        refine WL.r 1 rfl <| WL.nil ?_
        exact ⟨_, by omega, k + 1, rfl, hS, (by omega), rfl⟩
      · refine WC.exit <| WC.seq <| WC.region <| WL.r 2 rfl <| WL.nw 37 rfl (w64 (by omega)) ?_
        refine WL.r 2 rfl <| WL.nw 39 rfl (w64 (by omega)) ?_
        refine WL.r 1 rfl <| WL.nil <| WC.seq <| WC.seq <| WC.region <| WL.r 3 rfl <| WL.nil <| WC.ifP rfl (fun cd2 => ?_) (fun cd2 => ?_)
        · refine WC.seq <| WC.region <| WL.r 2 rfl <| WL.reb 44 (.int .i64 ((n : Int) / 2)) (congrArg (Value.int .i64) (quo_i64 (p := (n : Int)) (q := 2) (by omega))) ?_
          refine WL.r 1 rfl <| WL.nil <| WC.ret ?_
          refine ⟨[.int .i64 ((n : Int) / 2)], rfl, ?_⟩
          exact ⟨n / 2, congrArg (Value.int .i64) (by omega), hS, by omega, by constructor <;> omega⟩
        · refine WC.skip <| WC.seq <| WC.region ?_
          obtain ⟨m, hm⟩ : ∃ m : Nat, (n : Int) - 1 - k - k + 1 = Int.ofNat (m + 1) := ⟨((n : Int) - 1 - k - k).toNat, by simp; omega⟩; have hm1 := Int.emod_nonneg q (b := Int.ofNat (m + 1)) (by first | (simp; done) | (simp; omega)); have hm2 := Int.emod_lt_of_pos q (b := Int.ofNat (m + 1)) (by first | (simp; done) | (simp; omega))
          refine WL.r 5 rfl <| WL.nw 49 rfl (w64 (by omega)) ?_
          refine WL.r 1 rfl <| WL.nw 50 rfl (w64 (by omega)) ?_
          refine WL.r 1 rfl <| WL.reb 51 (.int .u64 (Int.ofNat (m + 1))) (congrArg (Value.int .u64) (by rw [wu64 (by omega)]; exact hm)) ?_
          refine WL.r 1 rfl <| WL.reb 52 (.int .u64 (q % (Int.ofNat (m + 1)))) (congrArg (Value.int .u64) (Int.tmod_eq_emod_of_nonneg (a := q) (by omega))) ?_
          refine WL.r 1 rfl <| WL.nw 53 rfl (w64 (by omega)) ?_
          refine WL.r 1 rfl <| WL.nw 54 rfl (w64 (by omega)) ?_
          refine WL.r 1 rfl <| WL.nil ?_
          as_aux_lemma =>
          refine WC.ret ?_
          refine ⟨[.int .i64 (k + (q % (Int.ofNat (m + 1))))], rfl, ?_⟩
          exact ⟨(k + q % Int.ofNat (m + 1)).toNat, congrArg (Value.int .i64) (by omega), hS, by omega, by constructor <;> omega⟩
    · refine WL.reb 25 (.bool false) (congrArg Value.bool (decide_eq_false cg2)) <| WL.skp rfl rfl rfl rfl <| WL.skp rfl rfl rfl rfl <| WL.skp rfl rfl rfl rfl <| WL.skp rfl rfl rfl rfl <| WL.skp rfl rfl rfl rfl <| WL.skp rfl rfl rfl rfl <| WL.skp rfl rfl rfl rfl <| WL.r 1 rfl <| WL.nil <| WC.ifF rfl rfl <| WC.exit ?_
      as_aux_lemma =>
      refine WC.seq <| WC.region <| WL.r 2 rfl <| WL.nw 37 rfl (w64 (by omega)) ?_
      refine WL.r 2 rfl <| WL.nw 39 rfl (w64 (by omega)) ?_
      refine WL.r 1 rfl <| WL.nil <| WC.seq <| WC.seq <| WC.region <| WL.r 3 rfl <| WL.nil <| WC.ifP rfl (fun cd1 => ?_) (fun cd1 => ?_)
      · refine WC.seq <| WC.region <| WL.r 2 rfl <| WL.reb 44 (.int .i64 ((n : Int) / 2)) (congrArg (Value.int .i64) (quo_i64 (p := (n : Int)) (q := 2) (by omega))) ?_
        refine WL.r 1 rfl <| WL.nil <| WC.ret ?_
        refine ⟨[.int .i64 ((n : Int) / 2)], rfl, ?_⟩
        exact ⟨n / 2, congrArg (Value.int .i64) (by omega), hS, by omega, by constructor <;> omega⟩
      · refine WC.skip <| WC.seq <| WC.region ?_
        obtain ⟨m, hm⟩ : ∃ m : Nat, (n : Int) - 1 - k - k + 1 = Int.ofNat (m + 1) := ⟨((n : Int) - 1 - k - k).toNat, by simp; omega⟩; have hm1 := Int.emod_nonneg q (b := Int.ofNat (m + 1)) (by first | (simp; done) | (simp; omega)); have hm2 := Int.emod_lt_of_pos q (b := Int.ofNat (m + 1)) (by first | (simp; done) | (simp; omega))
        refine WL.r 5 rfl <| WL.nw 49 rfl (w64 (by omega)) ?_
        refine WL.r 1 rfl <| WL.nw 50 rfl (w64 (by omega)) ?_
        refine WL.r 1 rfl <| WL.reb 51 (.int .u64 (Int.ofNat (m + 1))) (congrArg (Value.int .u64) (by rw [wu64 (by omega)]; exact hm)) ?_
        refine WL.r 1 rfl <| WL.reb 52 (.int .u64 (q % (Int.ofNat (m + 1)))) (congrArg (Value.int .u64) (Int.tmod_eq_emod_of_nonneg (a := q) (by omega))) ?_
        refine WL.r 1 rfl <| WL.nw 53 rfl (w64 (by omega)) ?_
        refine WL.r 1 rfl <| WL.nw 54 rfl (w64 (by omega)) ?_
        refine WL.r 1 rfl <| WL.nil ?_
        as_aux_lemma =>
        refine WC.ret ?_
        refine ⟨[.int .i64 (k + (q % (Int.ofNat (m + 1))))], rfl, ?_⟩
        exact ⟨(k + q % Int.ofNat (m + 1)).toNat, congrArg (Value.int .i64) (by omega), hS, by omega, by constructor <;> omega⟩
theorem u64_rng (z : Int) : 0 ≤ IntKind.u64.wrap z ∧ IntKind.u64.wrap z < 18446744073709551616 := by
  have h : IntKind.u64.wrap z = z % 18446744073709551616 := rfl
  rw [h]; omega
theorem split_at {l : Kvs} {p : Nat} {e : Int × Int} (he : l[p]? = some e) : l.take p ++ e :: l.drop (p + 1) = l := by
  obtain ⟨h, rfl⟩ := List.getElem?_eq_some_iff.1 he
  rw [← List.drop_eq_getElem_cons h, List.take_append_drop]
set_option maxHeartbeats 1000000 in
set_option maxRecDepth 8192 in
theorem kt_plant_step (nM : Nat) (ih : ∀ mM : Nat, mM < nM → ∀ (g w : World) (L : List HP) (a : Nat) (A : AM) (R : List Int) (l : Kvs) (u : Option Addr) (d : Nat) (q : Int), (ARf A R) → ((l.length : Int) ≤ A.s.free) → (l.length ≤ 100000) → (R.length + l.length ≤ 800000000) → (0 ≤ q ∧ q < 18446744073709551616) → l.length = mM → St g (Arn a A :: Sh 121 2 (en2 l) u d :: L) w → Sp Tryz.prog 93 [.pointer (some ⟨a, 0, none⟩), .slice u (List.length (en2 l)) d, .int .u64 q] w (fun v w' => ∃ (A2 : AM) (i : Int) (t : Tr), v = .tuple #[.int .u32 i, .bool true] ∧ St g (Arn a A2 :: Sh 121 2 (en2 l) u d :: L) w' ∧ (TOp A A2 R i t l.length) ∧ (t.ok) ∧ (t.ls = l))) {g w : World} {L : List HP} (a : Nat) (A : AM) (R : List Int) (l : Kvs) (u : Option Addr) (d : Nat) (q : Int) (hA : ARf A R) (hf : (l.length : Int) ≤ A.s.free) (hl : l.length ≤ 100000) (hz : R.length + l.length ≤ 800000000) (hq : 0 ≤ q ∧ q < 18446744073709551616) (hM : l.length = nM) (hS : St g (Arn a A :: Sh 121 2 (en2 l) u d :: L) w) :
    Sp Tryz.prog 93 [.pointer (some ⟨a, 0, none⟩), .slice u (List.length (en2 l)) d, .int .u64 q] w (fun v w' => ∃ (A2 : AM) (i : Int) (t : Tr), v = .tuple #[.int .u32 i, .bool true] ∧ St g (Arn a A2 :: Sh 121 2 (en2 l) u d :: L) w' ∧ (TOp A A2 R i t l.length) ∧ (t.ok) ∧ (t.ls = l)) := by
  refine Sp.enter Tryz.func93 rfl (by kernel_rfl) (by kernel_rfl) ?_
  have _ := hz
  have _ := hl
  have _ := hf
  refine WC.seq <| WC.region <| WL.r 2 rfl <| WL.nil <| WC.seq <| WC.seq <| WC.region ?_
  have hll := en2_len l
  refine WL.r 3 rfl <| WL.nil <| WC.ifP rfl (fun he => ?_) (fun he => ?_)
  · refine WC.seq <| WC.region <| WL.r 2 rfl <| WL.nil <| WC.ret ?_
    refine ⟨[.int .u32 0, .bool true], ⟨rfl, rfl⟩, ?_⟩
    have hn : l = [] := List.length_eq_zero_iff.1 (by omega); subst hn; exact ⟨A, 0, .nil, rfl, hS, ARf.refl (hA.cons0 (by omega)) rfl, trivial, rfl⟩
  · refine WC.skip <| WC.seq <| WC.region <| WL.r 3 rfl <| WL.call rfl rfl (kt_pivot (n := List.length (en2 l)) (q := q) (hn := (by omega)) (hq := hq) (hS := hS)) rfl ?_
    clear hS; rintro _ w ⟨p1, rfl, hS, f1, f2⟩
    replace hS := hS.n2 L rfl
    refine WL.r 1 rfl <| WL.nil <| WC.seq <| WC.region ?_
    rw [hll] at f1 f2; obtain ⟨e, hee⟩ : ∃ e, l[p1]? = some e := ⟨_, List.getElem?_eq_getElem f1⟩; have hsp := split_at hee; have htl : (l.take p1).length = p1 := (by rw [List.length_take]; omega); have hdl : (l.drop (p1 + 1)).length = l.length - (p1 + 1) := List.length_drop
    refine WL.r 3 rfl <| WL.slHi rfl rfl (v := (p1 : Int)) 1 (p1) (en2 (l.take p1)) el_49 hS rfl rfl rfl (by omega) (by omega) (en2_take _ _) (fun a1 hS => ?_)
    replace hS := hS.n3 L (a0 := Sh 121 2 (en2 (l.take p1)) a1 d) rfl
    refine WL.r 2 rfl <| WL.reb 32 (.int .u64 (q / 5)) (congrArg (Value.int .u64) (quo_u64 (p := q) (q := 5) (by omega))) ?_
    refine WL.r 2 rfl <| WL.r 1 rfl <| WL.call rfl rfl (ih (List.length (l.take p1)) (by omega) _ _ _ a A R (l.take p1) a1 d (IntKind.u64.wrap ((q / 5) + (IntKind.u64.wrap (q * 3)))) (hA) ((by omega)) ((by omega)) ((by omega)) ((u64_rng _)) rfl (hS.sel 2 [1, 0] rfl)) rfl ?_
    clear hS; rintro _ w ⟨A1, i1, t1, rfl, hS, f3, f4, f5⟩
    replace hS := hS.n3 L (a0 := Arn a A1) rfl
    refine WL.r 5 rfl <| WL.nil ?_
    as_aux_lemma =>
    refine WC.seq <| WC.seq <| WC.region <| WL.r 2 rfl <| WL.nil <| WC.ifF rfl rfl <| WC.skip <| WC.seq <| WC.region ?_
    have hfr1 := f3.fr
    refine WL.r 4 rfl <| WL.reb 45 (.int .i64 ((p1 + 1 : Nat) : Int)) (congrArg (Value.int .i64) (by rw [w64 (by omega)]; omega)) ?_
    refine WL.slLo rfl rfl (v := ((p1 + 1 : Nat) : Int)) 2 (p1 + 1) (en2 (l.drop (p1 + 1))) el_49 hS rfl rfl rfl (by omega) (by omega) (en2_drop _ _) (fun a2 hS => ?_)
    replace hS := hS.n4 L (a0 := Sh 121 2 (en2 (l.drop (p1 + 1))) a2 (d - (p1 + 1))) rfl
    refine WL.r 2 rfl <| WL.reb 48 (.int .u64 (q / 7)) (congrArg (Value.int .u64) (quo_u64 (p := q) (q := 7) (by omega))) ?_
    refine WL.r 2 rfl <| WL.r 1 rfl <| WL.r 1 rfl <| WL.call rfl rfl (ih (List.length (l.drop (p1 + 1))) (by omega) _ _ _ a A1 (i1 :: R) (l.drop (p1 + 1)) a2 (d - (p1 + 1)) (IntKind.u64.wrap ((IntKind.u64.wrap ((q / 7) + (IntKind.u64.wrap (q * 5)))) + 1)) (f3.ref) ((by omega)) ((by omega)) ((by simp only [List.length_cons]; omega)) ((u64_rng _)) rfl (hS.sel 2 [1, 0] rfl)) rfl ?_
    clear hS; rintro _ w ⟨A2, i2, t2, rfl, hS, f6, f7, f8⟩
    replace hS := hS.n4 L (a0 := Arn a A2) rfl
    refine WL.r 5 rfl <| WL.nil <| WC.seq <| WC.seq <| WC.region <| WL.r 2 rfl <| WL.nil ?_
    as_aux_lemma =>
    refine WC.ifF rfl rfl <| WC.skip <| WC.seq <| WC.plan [([0, 1, 2, 6, 7, 11, 12, 3, 8, 4, 9, 5, 10], some (13, [])), ([14, 15, 16, 17, 18], none)] (by kernel_rfl) (by kernel_rfl) ?_
    have hfr2 := f6.fr; have hn1 := Tr.ls_len t1; have hn2 := Tr.ls_len t2; rw [f5] at hn1; rw [f8] at hn2; have hM := Mk.of (k := e.1) (v := e.2) f6.ref.sw (f6.kp i1 (by simp) t1 f3.is) f6.is (by omega) (by omega) (by omega); have hrl := f6.ref.rng (r := i1) (by simp); have hrr := f6.ref.rng (r := i2) (by simp); have hnx := hM.is.1
    refine WQ.r 7 rfl <| WQ.ix rfl rfl (i := (p1 : Int)) (p1) el_49 rfl rfl (by omega) (by omega) (hS.rdS 3 rfl (en2_at hee)).1 ?_
    refine WQ.ix rfl rfl (i := (p1 : Int)) (p1) el_49 rfl rfl (by omega) (by omega) (hS.rdS 3 rfl (en2_at hee)).1 ?_
    refine WQ.run 4 [.int .i64 e.1, .int .i64 e.2] rfl (by exact ⟨(hS.rdS 3 rfl (en2_at hee)).2 0 _ rfl, (hS.rdS 3 rfl (en2_at hee)).2 1 _ rfl⟩) ?_
    refine WQ.nil ?_
    intro m1
    replace hS := hS.drewN m1; generalize hwm1 : World.drewN _ _ = w at *; clear hwm1
    refine WL.call rfl rfl (ar_make (key := e.1) (val := e.2) (l := i1) (r := i2) (hA := f6.ref.toAWf) (hK := hM.kd) (hf := (by omega)) (hS := hS)) rfl ?_
    clear hS; rintro _ w ⟨rfl, hS⟩
    replace hS := hS.n4 L (a0 := Arn a (A2.make (A2.nodeOf e.1 e.2 i1 i2))) rfl
    refine WL.nil ?_
    refine ⟨by exact trivial, ?_⟩
    refine WQ.r 5 rfl <| WQ.nil ?_
    intro m2
    replace hS := hS.drewN m2; generalize hwm2 : World.drewN _ _ = w at *; clear hwm2
    refine WC.seq <| WC.region <| WL.r 2 rfl <| WL.call rfl rfl (tr_rel (A := A2.make (A2.nodeOf e.1 e.2 i1 i2)) (R := A2.s.next :: i2 :: R) (i := i1) (hA := hM.p1) (hR := (by simp only [List.length_cons]; omega)) (hS := hS)) rfl ?_
    clear hS; rintro _ w ⟨A3, f9, rfl, hS, f10, f11⟩
    replace hS := hS.n4 L (a0 := Arn a A3) rfl
    refine WL.r 5 rfl <| WL.nil ?_
    as_aux_lemma =>
    refine WC.seq <| WC.region <| WL.r 2 rfl <| WL.call rfl rfl (tr_rel (R := A2.s.next :: R) (i := i2) (hA := f10.p1) (hR := (by simp only [List.length_cons]; omega)) (hS := hS)) rfl ?_
    clear hS; rintro _ w ⟨A4, f12, rfl, hS, f13, f14⟩
    replace hS := hS.n4 L (a0 := Arn a A4) rfl
    refine WL.r 5 rfl <| WL.nil <| WC.seq <| WC.region <| WL.r 3 rfl <| WL.rG 14 rfl (fun j => ?_)
    refine WL.prop 101 rfl (band (band (band (dd _) (dd _)) (dd _)) (dd _)) <| WL.nil <| WC.ret ?_
    refine ⟨[.int .u32 A2.s.next, .bool (bif (bif (bif (decide (0 = 0)) then (decide (0 = 0)) else false) then (decide (0 = 0)) else false) then (decide (A2.s.next ≠ 0)) else false)], ⟨rfl, rfl⟩, ?_⟩
    replace hS := (hS.sel 3 [0] rfl)
    exact ⟨A4, A2.s.next, .node t1 e.1 e.2 t2, by rw [decide_eq_true (show A2.s.next ≠ 0 by omega)]; rfl, hS, (hM.op f10 f13).after (f3.ch.trans f6.ch sb0 sb1) sb0 (by omega), ⟨by unfold Bal at f2 ⊢; omega, f4, f7⟩, by rw [Tr.ls, f5, f8]; exact hsp⟩
theorem kt_plant_all (nM : Nat) : ∀ (g w : World) (L : List HP) (a : Nat) (A : AM) (R : List Int) (l : Kvs) (u : Option Addr) (d : Nat) (q : Int), (ARf A R) → ((l.length : Int) ≤ A.s.free) → (l.length ≤ 100000) → (R.length + l.length ≤ 800000000) → (0 ≤ q ∧ q < 18446744073709551616) → l.length = nM → St g (Arn a A :: Sh 121 2 (en2 l) u d :: L) w → Sp Tryz.prog 93 [.pointer (some ⟨a, 0, none⟩), .slice u (List.length (en2 l)) d, .int .u64 q] w (fun v w' => ∃ (A2 : AM) (i : Int) (t : Tr), v = .tuple #[.int .u32 i, .bool true] ∧ St g (Arn a A2 :: Sh 121 2 (en2 l) u d :: L) w' ∧ (TOp A A2 R i t l.length) ∧ (t.ok) ∧ (t.ls = l)) := by
  induction nM using Nat.strongRecOn with
  | _ nM ih => intro g w L a A R l u d q hA hf hl hz hq hM hS; exact kt_plant_step nM ih a A R l u d q hA hf hl hz hq hM hS
theorem kt_plant {g w : World} {L : List HP} (a : Nat) (A : AM) (R : List Int) (l : Kvs) (u : Option Addr) (d : Nat) (q : Int) (hA : ARf A R) (hf : (l.length : Int) ≤ A.s.free) (hl : l.length ≤ 100000) (hz : R.length + l.length ≤ 800000000) (hq : 0 ≤ q ∧ q < 18446744073709551616) (hS : St g (Arn a A :: Sh 121 2 (en2 l) u d :: L) w) :
    Sp Tryz.prog 93 [.pointer (some ⟨a, 0, none⟩), .slice u (List.length (en2 l)) d, .int .u64 q] w (fun v w' => ∃ (A2 : AM) (i : Int) (t : Tr), v = .tuple #[.int .u32 i, .bool true] ∧ St g (Arn a A2 :: Sh 121 2 (en2 l) u d :: L) w' ∧ (TOp A A2 R i t l.length) ∧ (t.ok) ∧ (t.ls = l)) := kt_plant_all _ g w L a A R l u d q hA hf hl hz hq rfl hS
end Go.Proofs.YtbeacjcmdijdmaaGreat
/-! ## Vra -/
namespace Go.V
open Go Go.RowKit
structure RN where
  n : Int
  root : Int
  born : Nat
def rK (x : RN) : Value × Value × Nat := (.int .i64 x.n, .int .u32 x.root, x.born)
structure VM where
  T : TM
  xs : List VN
  q : Nat
  last : Int
  rs : List RN
  q2 : Nat
  cap : Int
structure VsA where
  t : Nat
  p : Nat
  m : Nat
  m2 : Nat
def TM.vl (T : TM) (i : Int) : Int := (T.vals[i.toNat]?).getD 0
structure VI (V : VM) (A : AM) (R : List Int) : Prop where
  t : TOk V.T
  g : GI V.xs V.q V.cap V.last
  k : KOk rK RN.n V.rs V.q2
  pre : ∀ z, (∃ r ∈ V.rs, r.n = z) ↔ preG V.xs z = true
  lv : ∀ i : Int, 0 ≤ i → V.T.s.ok i = true → liveG V.xs (V.T.vl i) = true
  inj : ∀ i j : Int, 0 ≤ i → 0 ≤ j → V.T.s.ok i = true → V.T.s.ok j = true → V.T.vl i = V.T.vl j → i = j
  all : ∀ z, liveG V.xs z = true → ∃ i : Int, 0 ≤ i ∧ V.T.s.ok i = true ∧ V.T.vl i = z
  ref : ARf A (V.rs.map RN.root ++ R)
  cp : V.T.s.cap = V.cap
def VM.new (cap : Nat) : VM := ⟨TM.new cap, [], 0, 0, [], 0, cap⟩
theorem SM.new_live (cap : Nat) (i : Int) : (SM.new cap).ok i = false := by
  unfold SM.ok SM.new
  simp only
  cases hx : (List.replicate (cap + 1) false)[i.toNat]? with
  | none => rfl
  | some b => rw [List.eq_of_mem_replicate (List.mem_of_getElem? hx)]; rfl
theorem AM.new_rf {cap : Nat} (h : 1 ≤ cap ∧ cap ≤ 65536) : ARf (AM.new cap) [] := by
  have hno := SM.new_live cap
  refine ⟨AM.new_wf h, fun i hi => ?_, fun i hi => ?_, fun i hi => ?_, fun _ hr => (by cases hr), fun i hi => ?_, fun i _ _ => ?_, by simp⟩
  · have := hno i; rw [show (AM.new cap).s = SM.new cap from rfl, this] at hi; cases hi
  · have := hno i; rw [show (AM.new cap).s = SM.new cap from rfl, this] at hi; cases hi
  · have := hno i; rw [show (AM.new cap).s = SM.new cap from rfl, this] at hi; cases hi
  · have := hno i; rw [show (AM.new cap).s = SM.new cap from rfl, this] at hi; cases hi
  · unfold AM.nd AM.new
    simp only
    cases hx : (List.replicate (cap + 1) Nd.zero)[i.toNat]? with
    | none => rfl
    | some b => rw [List.eq_of_mem_replicate (List.mem_of_getElem? hx)]; rfl
theorem VI.new {slots cap : Nat} (h1 : 1 ≤ slots ∧ slots ≤ 65536) (h2 : 1 ≤ cap ∧ cap ≤ 4096) : VI (VM.new cap) (AM.new slots) [] := by
  have hno := SM.new_live cap
  refine ⟨TM.new_ok (by omega), ⟨GOk.nil, fun _ h => (by cases h), Int.le_refl _, by show 1 ≤ (cap : Int) ∧ (cap : Int) ≤ 4096; omega⟩, KOk.nil, fun z => ?_, fun i _ hi => ?_, fun i j _ _ hi => ?_, fun z hz => (by cases hz), AM.new_rf h1, ?_⟩
  · exact ⟨fun ⟨_, h, _⟩ => (by cases h), fun h => (by cases h)⟩
  · rw [show (VM.new cap).T.s = SM.new cap from rfl, hno i] at hi; cases hi
  · rw [show (VM.new cap).T.s = SM.new cap from rfl, hno i] at hi; cases hi
  · show (((List.replicate (cap + 1) false).length : Nat) : Int) - 1 = cap
    simp
def VM.rootOf (V : VM) (z : Int) : Int := ((V.rs.find? fun r => decide (r.n = z)).map RN.root).getD 0
theorem VM.rootOf_at {V : VM} (hu : V.rs.Pairwise fun x y => RN.n x ≠ RN.n y) {k : Nat} {r : RN} (hr : V.rs[k]? = some r) : V.rootOf r.n = r.root := by
  unfold VM.rootOf
  have : V.rs.find? (fun x => decide (x.n = r.n)) = some r := by
    cases hf : V.rs.find? (fun x => decide (x.n = r.n)) with
    | none => exact absurd (decide_eq_true rfl) (List.find?_eq_none.1 hf r (List.mem_of_getElem? hr))
    | some y =>
      have hn : y.n = r.n := of_decide_eq_true (List.find?_some (p := fun q : RN => decide (q.n = r.n)) hf)
      obtain ⟨j, hj⟩ := List.mem_iff_getElem?.1 (List.mem_of_find?_eq_some hf)
      have h1 := (List.getElem?_eq_some_iff.1 hj).1
      have h2 := (List.getElem?_eq_some_iff.1 hr).1
      have e1 : V.rs[j] = y := (List.getElem?_eq_some_iff.1 hj).2
      have e2 : V.rs[k] = r := (List.getElem?_eq_some_iff.1 hr).2
      rcases Nat.lt_trichotomy j k with hl | hl | hl
      · exact absurd (by rw [e1, e2]; exact hn) (List.pairwise_iff_getElem.1 hu j k h1 h2 hl)
      · subst hl; rw [hj] at hr; exact hr
      · exact absurd (by rw [e1, e2]; exact hn.symm) (List.pairwise_iff_getElem.1 hu k j h2 h1 hl)
  rw [this]; rfl
end Go.V
namespace Go.V
open Go Go.RowKit
theorem TM.open_vl {T : TM} (h : TOk T) (hf : 0 < T.s.free) (v : Int) {i : Int} (hi : 0 ≤ i) : (T.open v).vl i = if i = T.s.next then v else T.vl i := by
  have hn := SM.next_rng h.s hf
  unfold TM.vl TM.open
  simp only
  rw [List.getElem?_set]
  by_cases e : i = T.s.next
  · subst e; rw [if_pos rfl, if_pos (by rw [h.vl]; exact hn.2.2.1), if_pos rfl]; rfl
  · rw [if_neg (by omega), if_neg e]
theorem TM.open_ok {T : TM} (h : TOk T) (hf : 0 < T.s.free) (v : Int) {i : Int} (hi : 0 ≤ i) : (T.open v).s.ok i = if i = T.s.next then true else T.s.ok i := SM.alloc_ok' h.s hf hi
theorem rs_len {V : VM} {A : AM} {R : List Int} (h : VI V A R) : V.rs.length ≤ V.xs.length := by
  have h1 := nd_le (l := V.rs.map RN.n) (m := V.xs.map VN.n) (List.pairwise_map.2 h.k.uniq) (fun z hz => by
    obtain ⟨r, hr, e⟩ := List.mem_map.1 hz
    obtain ⟨x, hx, e2⟩ := pre_iff.1 ((h.pre z).1 ⟨r, hr, e⟩)
    exact List.mem_map.2 ⟨x, hx, e2⟩)
  simpa using h1
def VM.add (V : VM) (xs2 : List VN) (q : Nat) (root : Int) : VM := ⟨V.T.open (V.last + 1), xs2, q, V.last + 1, V.rs ++ [⟨V.last + 1, root, V.q2⟩], V.q2 + 1, V.cap⟩
theorem VI.add {V : VM} {A : AM} {R : List Int} (h : VI V A R) {root : Int} (hr : root = 0 ∨ (1 ≤ root ∧ A.s.ok root = true)) {ps : List Int} {xs2 : List VN} {q : Nat} (h0 : addE V.xs V.cap ps = 0) (hA : AddP V.xs V.cap V.last ps xs2 (V.last + 1))
    (hG : GI xs2 q V.cap (V.last + 1)) (hf : 0 < V.T.s.free) (hla : V.last < 1000000000) (hlen : R.length ≤ 900000000) : VI (V.add xs2 q root) (A.ret root) R := by
  have hla0 := h.g.la
  have hle := rs_len h
  have hnum := hG.ok.num
  obtain ⟨_, _, hn, hlv, hpr, hxl⟩ := (AddP.facts h.g.le hA).resolve_left fun e => e.1 h0
  have hlast : ∀ z, preG V.xs z = true → z ≤ V.last := fun z hz => by
    obtain ⟨x, hx, e⟩ := pre_iff.1 hz
    have := h.g.le x hx; omega
  have hnx := SM.next_rng h.t.s hf
  have hlvl : ∀ i : Int, 0 ≤ i → V.T.s.ok i = true → V.T.vl i ≤ V.last := fun i h0 hi => hlast _ (live_pre (h.lv i h0 hi))
  refine ⟨h.t.open hf (by omega), hG, h.k.snoc rfl (fun y hy e => ?_) rfl (by show _ ≤ V.last + 1 ∧ V.last + 1 ≤ _; omega) (by omega), fun z => ?_, fun i hi ho => ?_, fun i j hi hj ho ho2 e => ?_, fun z hz => ?_, ?_, ?_⟩
  · have := hlast _ ((h.pre y.n).1 ⟨y, hy, rfl⟩)
    have e2 : y.n = V.last + 1 := e
    omega
  · show (∃ r ∈ V.rs ++ [_], r.n = z) ↔ preG xs2 z = true
    rw [hpr z, Bool.or_eq_true, ← h.pre z]
    constructor
    · rintro ⟨r, hr2, e⟩
      rcases List.mem_append.1 hr2 with hr2 | hr2
      · exact .inl ⟨r, hr2, e⟩
      · rw [List.mem_singleton.1 hr2] at e
        exact .inr (decide_eq_true e.symm)
    · rintro (⟨r, hr2, e⟩ | e)
      · exact ⟨r, List.mem_append_left _ hr2, e⟩
      · exact ⟨_, List.mem_append_right _ (List.mem_singleton.2 rfl), (of_decide_eq_true e).symm⟩
  · show liveG xs2 ((V.T.open (V.last + 1)).vl i) = true
    rw [TM.open_vl h.t hf _ hi, hlv]
    rw [show (V.add xs2 q root).T.s.ok i = _ from TM.open_ok h.t hf _ hi] at ho
    by_cases e : i = V.T.s.next
    · rw [if_pos e]; simp
    · rw [if_neg e] at ho ⊢
      rw [h.lv i hi ho, Bool.true_or]
  · rw [show (V.add xs2 q root).T.s.ok i = _ from TM.open_ok h.t hf _ hi] at ho
    rw [show (V.add xs2 q root).T.s.ok j = _ from TM.open_ok h.t hf _ hj] at ho2
    rw [show (V.add xs2 q root).T.vl i = _ from TM.open_vl h.t hf _ hi, show (V.add xs2 q root).T.vl j = _ from TM.open_vl h.t hf _ hj] at e
    by_cases e1 : i = V.T.s.next
    · by_cases e2 : j = V.T.s.next
      · rw [e1, e2]
      · rw [if_neg e2] at ho2
        rw [if_pos e1, if_neg e2] at e
        have := hlvl j hj ho2; omega
    · rw [if_neg e1] at ho
      by_cases e2 : j = V.T.s.next
      · rw [if_neg e1, if_pos e2] at e
        have := hlvl i hi ho; omega
      · rw [if_neg e2] at ho2
        rw [if_neg e1, if_neg e2] at e
        exact h.inj i j hi hj ho ho2 e
  · have hz2 : (liveG V.xs z || decide (z = V.last + 1)) = true := by rw [← hlv z]; exact hz
    rcases Bool.or_eq_true_iff.1 hz2 with hz2 | hz2
    · obtain ⟨i, h1, h2, h3⟩ := h.all z hz2
      have hne : i ≠ V.T.s.next := fun e => by rw [e, hnx.2.2.2] at h2; cases h2
      exact ⟨i, h1, by rw [show (V.add xs2 q root).T.s.ok i = _ from TM.open_ok h.t hf _ h1, if_neg hne]; exact h2, by rw [show (V.add xs2 q root).T.vl i = _ from TM.open_vl h.t hf _ h1, if_neg hne]; exact h3⟩
    · have h1 : 0 ≤ V.T.s.next := by omega
      exact ⟨V.T.s.next, h1, by rw [show (V.add xs2 q root).T.s.ok _ = _ from TM.open_ok h.t hf _ h1, if_pos rfl], by rw [show (V.add xs2 q root).T.vl _ = _ from TM.open_vl h.t hf _ h1, if_pos rfl]; exact (of_decide_eq_true hz2).symm⟩
  · have h1 := (AM.ret_eq h.ref hr (by rw [List.length_append, List.length_map]; omega)).1
    refine h1.perm ?_
    show (root :: (V.rs.map RN.root ++ R)).Perm ((V.rs ++ [(⟨V.last + 1, root, V.q2⟩ : RN)]).map RN.root ++ R)
    rw [List.map_append]
    simpa using (List.perm_middle (a := root) (l₁ := V.rs.map RN.root) (l₂ := R)).symm
  · show (V.T.s.alloc).cap = V.cap
    rw [← h.cp]
    unfold SM.cap SM.alloc; simp
end Go.V
namespace Go.V
open Go Go.RowKit
theorem len_single {xs : List VN} {m : Int} (hu : VUq xs) (h : ∀ z, preG xs z = true ↔ z = m) : xs.length = 1 := by
  match xs, hu, h with
  | [], _, h => exact absurd ((h m).2 rfl) (by simp [preG, vfind])
  | [_], _, _ => rfl
  | x :: y :: t, hu, h =>
    have h1 := (h x.n).1 (pre_iff.2 ⟨x, by simp, rfl⟩)
    have h2 := (h y.n).1 (pre_iff.2 ⟨y, by simp, rfl⟩)
    have := (List.pairwise_cons.1 hu).1 y (by simp)
    rw [h1, h2] at this; exact absurd rfl this
structure FvS (V : VM) (A : AM) (hd root : Int) (t : Tr) : Prop where
  vi : VI V A []
  opn : V.T.s.opn hd = true
  rng : 0 ≤ hd ∧ hd ≤ 18446744073709551615
  val : V.T.val hd = V.last
  pre : ∀ z, preG V.xs z = true ↔ z = V.last
  free : V.T.s.free = 49
  cap : V.cap = 50
  rs : ∃ b, V.rs = [⟨V.last, root, b⟩]
  is : Is A t root
  ok : t.ok
  srt : Srt t.ls
  acap : A.s.used.length = 601
theorem FvS.len {V : VM} {A : AM} {hd root : Int} {t : Tr} (h : FvS V A hd root t) : V.xs.length = 1 := len_single h.vi.g.ok.uniq h.pre
theorem FvS.root {V : VM} {A : AM} {hd root : Int} {t : Tr} (h : FvS V A hd root t) : V.rootOf (V.T.val hd) = root := by
  obtain ⟨b, hb⟩ := h.rs
  rw [h.val]
  exact VM.rootOf_at (V := V) h.vi.k.uniq (k := 0) (r := ⟨V.last, root, b⟩) (by rw [hb]; rfl)
theorem FvS.ref {V : VM} {A : AM} {hd root : Int} {t : Tr} (h : FvS V A hd root t) : ARf A [root] := by
  obtain ⟨b, hb⟩ := h.rs
  have := h.vi.ref
  rw [hb] at this; exact this
theorem FvS.used {V : VM} {A : AM} {hd root : Int} {t : Tr} (h : FvS V A hd root t) : A.s.cap = 600 ∧ A.s.cap - A.s.free = t.n := by
  have h1 := one_tree h.ref h.is h.srt
  have h2 : A.s.cap = (A.s.used.length : Int) - 1 := rfl
  have h3 := h.acap
  omega
end Go.V
/-! ## K2 -/
namespace Go.Proofs.YtbeacjcmdijdmaaGreat
open Go Go.V
def mkL (raw : Kvs) (k : Nat) : Kvs := (raw.take k).foldl (fun l e => lins e.1 e.2 l) []
theorem mkL_succ {raw : Kvs} {k : Nat} {e : Int × Int} (h : raw[k]? = some e) : mkL raw (k + 1) = lins e.1 e.2 (mkL raw k) := by
  unfold mkL
  rw [List.take_add_one, h, List.foldl_append]; rfl
theorem mkL_srt (raw : Kvs) : ∀ k, Srt (mkL raw k) ∧ (mkL raw k).length ≤ k
  | 0 => ⟨List.Pairwise.nil, Nat.le_refl _⟩
  | k + 1 => by
    obtain ⟨h1, h2⟩ := mkL_srt raw k
    cases h : raw[k]? with
    | none =>
      have : mkL raw (k + 1) = mkL raw k := by unfold mkL; rw [List.take_add_one, h]; simp
      rw [this]; exact ⟨h1, by omega⟩
    | some e =>
      rw [mkL_succ h, lins_len h1]
      exact ⟨lins_srt h1, by split <;> omega⟩
theorem mkL_end {raw : Kvs} {k m : Nat} (h : ¬ (k < raw.length ∧ k < m)) (hk : k ≤ raw.length ∧ k ≤ m) : mkL raw k = mkL raw m := by
  unfold mkL
  by_cases h1 : k = m
  · rw [h1]
  · rw [List.take_of_length_le (show raw.length ≤ k by omega), List.take_of_length_le (show raw.length ≤ m by omega)]
set_option maxRecDepth 8192 in
theorem kt_list {g w : World} {L : List HP} (raw : Kvs) (u : Option Addr) (d : Nat) (most : Int) (hm : 0 ≤ most ∧ most ≤ 1000) (hS : St g (Sh 121 2 (en2 raw) u d :: L) w) :
    Sp Tryz.prog 26 [.slice u (List.length (en2 raw)) d, .int .i64 most] w (fun v w' => ∃ (a2 : Option Addr) (c2 : Nat), v = .slice a2 (List.length (en2 (mkL raw most.toNat))) c2 ∧ St g (Own 121 2 (en2 (mkL raw most.toNat)) a2 c2 :: Sh 121 2 (en2 raw) u d :: L) w') := by
  refine Sp.enter Tryz.func26 rfl (by kernel_rfl) (by kernel_rfl) ?_
  refine WC.seq <| WC.region <| WL.r 1 rfl <| WL.nil <| WC.seq <| WC.region ?_
  have hll := en2_len raw
  refine WL.r 1 rfl <| WL.nil <| WC.seq <| WC.seq <| WC.region <| WL.r 1 rfl <| WL.nil <| WC.block ?_
  replace hS := hS.nil_ 121 2
  refine WC.loop [0, 1, 4, 5, 6] (fun kM vs w => ∃ (k : Nat) (m : Kvs) (ua : Option Addr) (uc : Nat), vs = [.slice u (List.length (en2 raw)) d, .int .i64 most, .slice none 0 0, .slice ua (List.length (en2 m)) uc, .int .i64 (k : Int)] ∧ St g (Own 121 2 (en2 m) ua uc :: Sh 121 2 (en2 raw) u d :: L) w ∧ (k ≤ raw.length ∧ k ≤ most) ∧ (m = mkL raw k) ∧ (raw.length - k) = kM) ((List.length raw) - 0) ⟨0, [], none, 0, rfl, hS, (by omega), (rfl), rfl⟩ ?_
  clear hS; rintro _ _ w j ⟨k, m, ua, uc, rfl, hS, hk, hm, rfl⟩
  refine WC.seq <| WC.seq <| WC.region <| WL.r 4 rfl <| WL.rG 5 rfl (fun j => ?_)
  refine WL.prop 15 rfl (band (dd _) (dd _)) <| WL.nil ?_
  as_aux_lemma =>
  refine WC.ifP rfl (fun cd1 => ?_) (fun cd1 => ?_)
  · refine WC.skip <| WC.seq <| WC.block <| WC.region <| WL.r 3 rfl ?_
    obtain ⟨e, he⟩ : ∃ e, raw[k]? = some e := ⟨_, List.getElem?_eq_getElem (by omega)⟩; have hms := mkL_srt raw k; rw [← hm] at hms
    refine WL.ix rfl rfl (i := (k : Int)) (k) el_49 rfl rfl (by omega) (by omega) (hS.rdS 1 rfl (en2_at he)).1 ?_
    refine WL.ldC rfl rfl [.int .i64 e.1, .int .i64 e.2] ag_121 rfl (hS.rdS 1 rfl (en2_at he)).2 ?_
    replace hS := (hS.at_ 0 rfl).share
    replace hS := hS.n2 L (a0 := Sh 121 2 (en2 m) ua uc) rfl
    refine WL.call rfl rfl (ref_ins (k := e.1) (z := e.2) (hs := hms.1) (hl := (by omega)) (hS := hS)) rfl ?_
    clear hS; rintro _ w ⟨a1, c1, rfl, hS⟩
    replace hS := hS.n3 L (a0 := Own 121 2 (en2 (lins e.1 e.2 m)) a1 c1) rfl
    refine WL.r 1 rfl <| WL.nil <| WC.region <| WL.r 2 rfl <| WL.nw 17 rfl (w64 (by omega)) ?_
    refine WL.r 1 rfl <| WL.nil ?_
    exact ⟨_, by omega, k + 1, lins e.1 e.2 m, a1, c1, rfl, (hS.sel 2 [0] rfl), (by omega), (by rw [hm, mkL_succ he]), rfl⟩
  · refine WC.exit <| WC.seq <| WC.region <| WL.r 2 rfl <| WL.nil <| WC.ret ?_
    refine ⟨[.slice ua (List.length (en2 m)) uc], rfl, ?_⟩
    have e9 := mkL_end (raw := raw) (k := k) (m := most.toNat) (by omega) ⟨hk.1, by omega⟩; rw [← hm] at e9; rw [e9] at hS ⊢; exact ⟨_, _, rfl, hS⟩
set_option maxRecDepth 8192 in
theorem kt_grow {g w : World} {L : List HP} (l : Kvs) (u : Option Addr) (d : Nat) (q sp : Int) (hl : l.length ≤ 1000) (hs : 0 ≤ sp ∧ 1 ≤ l.length + sp ∧ sp ≤ 60000) (hq : 0 ≤ q ∧ q < 18446744073709551616) (hS : St g (Sh 121 2 (en2 l) u d :: L) w) :
    Sp Tryz.prog 27 [.slice u (List.length (en2 l)) d, .int .u64 q, .int .i64 sp] w (fun v w' => ∃ (a : Nat) (A : AM) (i : Int) (t : Tr), v = .tuple #[.pointer (some ⟨a, 0, none⟩), .int .u32 i, .bool true] ∧ St g (Arn a A :: Sh 121 2 (en2 l) u d :: L) w' ∧ (ARf A [i]) ∧ (Is A t i) ∧ (t.ok) ∧ (t.ls = l) ∧ (sp ≤ A.s.free)) := by
  refine Sp.enter Tryz.func27 rfl (by kernel_rfl) (by kernel_rfl) ?_
  have _ := hs
  have _ := hl
  refine WC.seq <| WC.region <| WL.r 3 rfl <| WL.nil <| WC.seq <| WC.region ?_
  have hll := en2_len l; have hcp : 1 ≤ ((l.length : Int) + sp).toNat ∧ ((l.length : Int) + sp).toNat ≤ 65536 := (by omega); have hrf := AM.new_rf hcp; have hfr : (AM.new ((l.length : Int) + sp).toNat).s.free = (((l.length : Int) + sp).toNat : Int) := SM.new_free ((l.length : Int) + sp).toNat
  refine WL.r 4 rfl <| WL.reb 17 (.int .i64 ((List.length l : Int) + sp)) (congrArg (Value.int .i64) (by rw [hll, w64 (by omega)])) ?_
  refine WL.call rfl rfl (ar_new_ok (cap := (List.length l : Int) + sp) (hc := (by omega)) (hS := hS)) rfl ?_
  clear hS; rintro _ w ⟨a1, rfl, hS⟩
  replace hS := hS.n2 L (a0 := Arn a1 (AM.new ((List.length l : Int) + sp).toNat)) rfl
  refine WL.r 5 rfl <| WL.nil <| WC.seq <| WC.seq <| WC.region <| WL.r 2 rfl <| WL.rG 4 rfl (fun j => ?_)
  refine WL.nil <| WC.ifF rfl (by simp) ?_
  refine WC.skip <| WC.seq <| WC.region <| WL.r 3 rfl <| WL.call rfl rfl (kt_plant (A := AM.new ((List.length l : Int) + sp).toNat) (R := []) (q := q) (hA := hrf) (hf := (by omega)) (hl := (by omega)) (hz := (by simp; omega)) (hq := hq) (hS := hS)) rfl ?_
  clear hS; rintro _ w ⟨A1, i1, t1, rfl, hS, f1, f2, f3⟩
  replace hS := hS.n2 L (a0 := Arn a1 A1) rfl
  refine WL.r 5 rfl <| WL.nil ?_
  as_aux_lemma =>
  refine WC.seq <| WC.region <| WL.r 6 rfl <| WL.nil <| WC.ret ?_
  refine ⟨[.pointer (some ⟨a1, 0, none⟩), .int .u32 i1, .bool true], ⟨rfl, rfl, rfl⟩, ?_⟩
  exact ⟨_, _, _, _, rfl, hS, f1.ref, f1.is, f2, f3, by have h := f1.fr; omega⟩
end Go.Proofs.YtbeacjcmdijdmaaGreat
/-! ## Tx6 -/
namespace Go.Proofs.YtbeacjcmdijdmaaGreat
open Go Go.V Go.RowKit Go.Maps
theorem work_one (t : Tr) (x : Int × Bool × Int) : wWork t [x] = if wNeed t x then [x] else [] := by
  unfold wWork; rw [List.filter_cons]; rfl
theorem put_cost {A : AM} {R : List Int} {t : Tr} {k v : Int} (hok : t.ok) (hn : t.n ≤ 60000) (hf : (t.n : Int) + 1 + 4 * ((Tr.mxH (t.n + 1) : Int) + 2) ≤ A.s.free) (j : Nat) (e : Int × Bool × Int) (B : AM) (o : Int) (he : (wWork t [(k, true, v)])[j]? = some e) (hT : TOp A B R o (wAll ((wWork t [(k, true, v)]).take j) t) (wSum ((wWork t [(k, true, v)]).take j) t)) : (wCost (wAll ((wWork t [(k, true, v)]).take j) t) e : Int) ≤ B.s.free := by
  rw [work_one] at he hT ⊢
  split at he
  · rename_i hnd
    rw [if_pos hnd] at hT ⊢
    cases j with
    | zero =>
      obtain rfl := Option.some.inj he
      have h1 : wCost t (k, true, v) = Tr.ic k v t := rfl
      have h2 : TOp A B R o t 0 := hT
      have h3 := Tr.ic_res k v t hok (by omega)
      have h4 := h2.fr
      show (wCost t (k, true, v) : Int) ≤ _
      rw [h1]; omega
    | succ j => cases he
  · cases he
theorem put_all {t : Tr} {k v : Int} (hok : t.ok) : wAll (wWork t [(k, true, v)]) t = Tr.ins k v t := by
  rw [work_one]
  split
  · rfl
  · rename_i h
    show t = _
    have h1 : (Tr.get k t).isSome = true ∧ (Tr.get k t).getD 0 = v := by
      unfold wNeed at h
      cases hg : Tr.get k t with
      | none => rw [hg] at h; exact absurd rfl h
      | some y => rw [hg] at h; simpa using h
    exact (Tr.ins_same k v t hok (get_of h1.1 h1.2)).symm
theorem wput_nil {k v : Int} {p : Bool} : wNew k (p, v) [] = [(k, p, v)] := by
  rw [wNew_f (fun h => by have := h.2; simp at this)]; rfl
theorem gSp_nil (k : Int) : gSp k [] [] = [(k, k)] := rfl
theorem vGet_nil (k : Int) (t : Tr) : vGet k [] t = ((Tr.get k t).getD 0, (Tr.get k t).isSome) := rfl
set_option maxRecDepth 8192 in
theorem awake26_spec {g w : World} {L : List HP} (hS : St g (L) w) :
    Sp Tryz.prog 28 [] w (fun v w' => v = .bool true ∧ St g (L) w') := by
  refine Sp.enter Tryz.func28 rfl (by kernel_rfl) (by kernel_rfl) ?_
  refine WC.seq <| WC.region <| WL.r 1 rfl <| WL.nil <| WC.seq <| WC.region <| WL.build rfl rfl (cs := [.int .i64 1, .int .i64 10]) zv_121 rfl rfl <| WL.lit rfl rfl (en2 [(1, 10)]) el_49 hS (by exact ⟨rfl, rfl⟩) (en2_ok _) rfl (Nat.le_of_ble_eq_true rfl) (fun b1 w hS => ?_)
  replace hS := (hS.at_ 0 rfl).share
  replace hS : St g (Sh 121 2 (en2 [(1, 10)]) (some ⟨b1, 0, none⟩) (List.length (en2 [(1, 10)])) :: L) w := hS
  refine WL.call rfl rfl (kt_grow (l := [(1, 10)]) (u := some ⟨b1, 0, none⟩) (d := List.length (en2 [(1, 10)])) (q := 0) (sp := 200) (hl := (by simp)) (hs := (by simp)) (hq := (by omega)) (hS := hS)) rfl ?_
  clear hS; rintro _ w ⟨a1, A1, i1, t1, rfl, hS, f1, f2, f3, f4, f5⟩
  replace hS := hS.n2 L (a0 := Arn a1 A1) rfl
  refine WL.r 7 rfl <| WL.nil <| WC.seq <| WC.seq <| WC.region <| WL.r 2 rfl <| WL.nil <| WC.ifF rfl rfl <| WC.skip <| WC.seq <| WC.region <| WL.r 2 rfl ?_
  refine WL.call rfl rfl (tx_begin (R := [i1]) (i := i1) (hA := f1) (hi := f2.ref) (hz := (by simp)) (hS := hS)) rfl ?_
  clear hS; rintro _ w ⟨x1, rfl, hS, f6⟩
  replace hS := hS.n3 L (a0 := Tx x1 a1 i1 [] 0 []) (a1 := Arn a1 (A1.ret i1)) rfl
  refine WL.r 5 rfl <| WL.nil ?_
  as_aux_lemma =>
  refine WC.seq <| WC.region <| WL.r 2 rfl <| WL.call rfl rfl (tx_begin (A := A1.ret i1) (R := [i1, i1]) (i := i1) (hA := f6) (hi := (f2.ret i1).ref) (hz := (by simp)) (hS := (hS.sel 2 [1, 0] rfl))) rfl ?_
  clear hS; rintro _ w ⟨x2, rfl, hS, f7⟩
  replace hS := hS.n4 L (a0 := Tx x2 a1 i1 [] 0 []) (a1 := Arn a1 ((A1.ret i1).ret i1)) rfl
  refine WL.r 5 rfl <| WL.nil <| WC.seq <| WC.seq <| WC.region <| WL.r 2 rfl <| WL.rG 12 rfl (fun j => ?_)
  refine WL.nil <| WC.ifF rfl (by rfl) ?_
  refine WC.skip <| WC.seq <| WC.region ?_
  have hn1 : t1.n = 1 := (by rw [← Tr.ls_len, f4]; rfl); have hs1 : Srt t1.ls := (by rw [f4]; exact List.pairwise_singleton _ _); have hg1 : Tr.get 1 t1 = some 10 := (by rw [Tr.get_ls 1 t1 hs1, f4]; rfl); have h2 := (f2.ret i1).ret i1; have hfr : ((A1.ret i1).ret i1).s.free = A1.s.free := (by rw [(AM.ret_same _ _).1, (AM.ret_same _ _).1]); have hm2 : Tr.mxH (1 + 1) ≤ 10 := (by decide); have hv : vGet 1 [] t1 = (10, true) := (by rw [vGet_nil, hg1]; rfl)
  refine WL.r 1 rfl <| WL.call rfl rfl (tx_get (xs := []) (S := []) (M := []) (A := (A1.ret i1).ret i1) (R := [i1, i1, i1]) (k := 1) (t := t1) (hW := WOk.nil) (hA := f7) (hi := h2) (hk := (by unfold i64R; omega)) (hR := (fun _ h => by cases h)) (hSl := (by simp)) (hS := (hS.sel 3 [2, 1, 0] rfl))) rfl ?_
  clear hS; rintro _ w ⟨rfl, hS⟩
  replace hS := hS.n4 L (a0 := Tx x1 a1 i1 [] 0 (gSp 1 [] [])) rfl
  refine WL.r 7 rfl <| WL.nil ?_
  as_aux_lemma =>
  refine WC.seq <| WC.region <| WL.reb 8 (.int .i64 10) (congrArg (fun z : Int × Bool => Value.int .i64 z.1) hv) <| WL.reb 9 (.bool true) (congrArg (fun z : Int × Bool => Value.bool z.2) hv) <| WL.r 1 rfl <| WL.call rfl rfl (tx_get (xs := []) (S := []) (M := []) (A := (A1.ret i1).ret i1) (R := [i1, i1, i1]) (k := 1) (t := t1) (hW := WOk.nil) (hA := f7) (hi := h2) (hk := (by unfold i64R; omega)) (hR := (fun _ h => by cases h)) (hSl := (by simp)) (hS := (hS.sel 3 [2, 1, 0] rfl))) rfl ?_
  clear hS; rintro _ w ⟨rfl, hS⟩
  replace hS := hS.n4 L (a0 := Tx x2 a1 i1 [] 0 (gSp 1 [] [])) rfl
  refine WL.nil <| WC.seq <| WC.region <| WL.r 3 rfl <| WL.reb 62 (.int .i64 11) (congrArg (Value.int .i64) (by decide)) ?_
  refine WL.call rfl rfl (tx_put (xs := []) (S := gSp 1 [] []) (M := []) (k := 1) (z := 11) (hW := WOk.nil) (hr := (by unfold i64R; omega)) (hS := (hS.sel 3 [2, 0, 0] rfl))) rfl ?_
  clear hS; rintro _ w ⟨xs1, q1, rfl, hS, f8⟩
  replace hS := hS.n4 L (a0 := Tx x1 a1 i1 xs1 q1 (gSp 1 [] [])) rfl
  refine WL.nil <| WC.seq <| WC.region <| WL.r 3 rfl <| WL.reb 66 (.int .i64 12) (congrArg (Value.int .i64) (by decide)) ?_
  refine WL.call rfl rfl (tx_put (xs := []) (S := gSp 1 [] []) (M := []) (k := 1) (z := 12) (hW := WOk.nil) (hr := (by unfold i64R; omega)) (hS := (hS.sel 2 [1, 0] rfl))) rfl ?_
  clear hS; rintro _ w ⟨xs2, q2, rfl, hS, f9⟩
  replace hS := hS.n4 L (a0 := Tx x2 a1 i1 xs2 q2 (gSp 1 [] [])) rfl
  refine WL.nil ?_
  as_aux_lemma =>
  refine WC.seq <| WC.region ?_
  rw [wput_nil] at f8 f9
  refine WL.r 2 rfl <| WL.call rfl rfl (tx_commit (S := gSp 1 [] []) (M := [(1, true, 11)]) (A := (A1.ret i1).ret i1) (R := [i1, i1]) (hd := i1) (ts := t1) (th := t1) (hW := f8) (hA := f7) (hts := h2) (hth := h2) (hss := hs1) (hsh := hs1) (hn := (by omega)) (hSl := (by rw [gSp_nil]; simp)) (hR := (by simp)) (hno := (fun s _ => by rw [dif_self]; rfl)) (hrm := (.inr (by rw [hfr, hn1]; simp only [List.length_singleton]; omega))) (hcs := (put_cost f3 (by omega) (by rw [hfr, hn1]; omega))) (hS := (hS.sel 3 [1, 1, 0] rfl))) rfl ?_
  clear hS; rintro _ w ⟨A2, i2, xm1, xu1, xc1, rfl, hS, f10⟩
  replace hS := hS.n4 L (a0 := cel x1 #[.pointer (some ⟨a1, 0, none⟩), .int .u32 i1, .bool true, .map (some xm1), .slice xu1 (List.length (en2 (gSp 1 [] []))) xc1] 188) (a1 := Arn a1 A2) rfl
  refine WL.r 5 rfl <| WL.nil <| WC.seq <| WC.region ?_
  rw [put_all f3] at f10; have hls : (Tr.ins 1 11 t1).ls = [(1, 11)] := (by rw [Tr.ins_ls _ _ _ hs1, f4]; rfl); have hs2 : Srt (Tr.ins 1 11 t1).ls := (by rw [hls]; exact List.pairwise_singleton _ _); have hg2 : Tr.get 1 (Tr.ins 1 11 t1) = some 11 := (by rw [Tr.get_ls 1 _ hs2, hls]; rfl); have hn2 : (Tr.ins 1 11 t1).n = 1 := (by rw [← Tr.ls_len, hls]; rfl)
  refine WL.r 2 rfl <| WL.call rfl rfl (tx_conflict (S := gSp 1 [] []) (R := [i2, i1, i1]) (hd := i2) (ts := t1) (th := Tr.ins 1 11 t1) (hA := f10.ref) (hts := (f10.kp i1 (by simp) t1 h2)) (hth := f10.is) (hss := hs1) (hsh := hs2) (hn := (by omega)) (hSl := (by rw [gSp_nil]; simp)) (hcf := (fun h => by have h9 := h (1, 1) (by rw [gSp_nil]; simp); rw [f4, hls] at h9; simp [dif, inR] at h9)) (hS := (hS.sel 3 [2, 1, 0] rfl))) rfl ?_
  clear hS; rintro _ w ⟨rfl, hS⟩
  replace hS := hS.n4 L rfl
  refine WL.r 5 rfl <| WL.nil <| WC.seq <| WC.region <| WL.r 2 rfl <| WL.call rfl rfl (lk_get (R := [i2, i1, i1]) (i := i2) (k := 1) (t := Tr.ins 1 11 t1) (hA := f10.ref) (hi := f10.is) (hS := (hS.sel 2 [1, 0] rfl))) rfl ?_
  clear hS; rintro _ w ⟨rfl, hS⟩
  replace hS := hS.n4 L rfl
  refine WL.r 5 rfl <| WL.nil ?_
  as_aux_lemma =>
  refine WC.seq <| WC.region <| WL.r 2 rfl <| WL.ung rfl rfl rfl <| WL.r 1 rfl <| WL.ung rfl rfl rfl <| WL.r 2 rfl <| WL.rG 13 rfl (fun j => ?_)
  refine WL.prop 102 rfl (band (band (band (dd _) (dd _)) (dd _)) (dd _)) <| WL.nil <| WC.ret ?_
  refine ⟨[.bool (bif (bif (bif (decide (10 = 10)) then (decide (0 = 0)) else false) then (decide (((Tr.get 1 (Tr.ins 1 11 t1)).getD 0) = 11)) else false) then (decide (10 = 10)) else false)], rfl, ?_⟩
  replace hS := (hS.sel 4 [] rfl)
  exact ⟨by rw [hg2]; rfl, hS⟩
end Go.Proofs.YtbeacjcmdijdmaaGreat
/-! ## Y4 -/
namespace Go.Proofs.YtbeacjcmdijdmaaGreat
open Go Go.V Go.RowKit Go.Maps
set_option maxRecDepth 8192 in
theorem r26_begin {g w : World} {L : List HP} (l : Kvs) (sa : Option Addr) (sc : Nat) (hS : St g (L) w) :
    Sp Tryz.prog 35 [.slice sa (List.length (en2 l)) sc] w (fun v w' => v = .agg #[.slice sa (List.length (en2 l)) sc, .slice none 0 0, .slice none 0 0, .bool false] ∧ St g (L) w') := by
  refine Sp.enter Tryz.func35 rfl (by kernel_rfl) (by kernel_rfl) ?_
  refine WC.seq <| WC.region <| WL.new rfl rfl zv_100 hS (fun b1 w hS => ?_)
  refine WL.nil <| WC.seq <| WC.region <| WL.r 1 rfl <| WL.build rfl rfl (cs := [.slice sa (List.length (en2 l)) sc, .slice none 0 0, .slice none 0 0, .bool false]) zv_100 rfl rfl <| WL.stF rfl rfl rfl 0 hS rfl rfl rfl rfl rfl ag_100 (fun w hS => ?_)
  replace hS : St g (cel b1 #[.slice sa (List.length (en2 l)) sc, .slice none 0 0, .slice none 0 0, .bool false] 100 :: L) w := hS
  refine WL.nil <| WC.ret ?_
  refine ⟨[.agg #[.slice sa (List.length (en2 l)) sc, .slice none 0 0, .slice none 0 0, .bool false]], ⟨⟨_, rfl, hS.lvF 0 rfl ag_100⟩, trivial⟩, ?_⟩
  replace hS := (hS.sel 1 [] rfl)
  exact ⟨rfl, hS⟩
set_option maxRecDepth 8192 in
theorem kt_sound2 {g w : World} {L : List HP} (a : Nat) (A : AM) (R : List Int) (ra : Option Addr) (rc : Nat) (hA : ARf A R) (hRl : R.length ≤ 1000000) (hS : St g (Arn a A :: Sh 64 1 (u32s R) ra rc :: L) w) :
    Sp Tryz.prog 43 [.pointer (some ⟨a, 0, none⟩), .slice ra (List.length (u32s R)) rc] w (fun v w' => v = .bool true ∧ St g (Arn a A :: Sh 64 1 (u32s R) ra rc :: L) w') := by
  refine Sp.enter Tryz.func43 rfl (by kernel_rfl) (by kernel_rfl) ?_
  refine WC.seq <| WC.region <| WL.r 1 rfl <| WL.nil <| WC.seq <| WC.region <| WL.r 1 rfl <| WL.call rfl rfl (ar_dump  (hA := hA.toAWf) (hS := hS)) rfl ?_
  clear hS; rintro _ w ⟨a1, c1, a2, c2, rfl, hS⟩
  replace hS := hS.n4 L (a0 := Own 174 11 (sls (AM.dmp A)) a1 c1) (a1 := Own 64 1 (u32s (SM.order A.s)) a2 c2) rfl
  refine WL.r 1 rfl ?_
  replace hS := (hS.at_ 0 rfl).share
  replace hS := hS.n4 L (a0 := Sh 174 11 (sls (AM.dmp A)) a1 c1) rfl
  replace hS := (hS.at_ 1 rfl).share
  replace hS := hS.n4 L (a0 := Sh 64 1 (u32s (SM.order A.s)) a2 c2) rfl
  refine WL.call rfl rfl (c6_clean (A := A) (hA := hA) (hRl := hRl) (hS := (hS.sel 4 [1, 0, 1, 0] rfl))) rfl ?_
  clear hS; rintro _ w ⟨rfl, hS⟩
  replace hS := hS.n4 L rfl
  refine WL.r 1 rfl <| WL.nil <| WC.ret ?_
  refine ⟨[.bool true], rfl, ?_⟩
  replace hS := (hS.sel 4 [3, 2] rfl)
  exact ⟨rfl, hS⟩
end Go.Proofs.YtbeacjcmdijdmaaGreat
/-! ## Ldg -/
namespace Go.V
open Go Go.RowKit
theorem ARf.tree0 {A : AM} {R : List Int} (h : ARf A R) {r : Int} (hr : r ∈ R) : ∃ t, Is A t r :=
  h.tree (A.sz r).toNat r (h.ref r hr) (by omega)
theorem ledger {A B : AM} {R : List Int} {i : Int} {t : Tr} (hA : ARf A R) (hB : ARf B (i :: R)) (kp : Kp A B R) (hi : Is B t i) (hc : B.s.used.length = A.s.used.length) : A.s.free ≤ B.s.free + t.n := by
  have e1 := AM.cnt_live hA.s
  have e2 := AM.cnt_live hB.s
  have c1 : A.s.cap = (A.s.used.length : Int) - 1 := rfl
  have c2 : B.s.cap = (B.s.used.length : Int) - 1 := rfl
  have hsub : ∀ j ∈ B.live, j ∈ A.live ++ ixs B t i := fun j hj => by
    obtain ⟨h0, h2⟩ := (B.mem_live j).1 hj
    have h3 := (SM.ok_rng hB.s h0 h2).1
    have hS : (∃ r ∈ R, ∃ u, Is A u r ∧ j ∈ ixs A u r) ∨ j ∈ ixs B t i := by
      refine reach hB (fun j => (∃ r ∈ R, ∃ u, Is A u r ∧ j ∈ ixs A u r) ∨ j ∈ ixs B t i) (fun x hx hne => ?_) (fun j _ _ hj c hc hne => ?_) j h3 h2
      · rcases List.mem_cons.1 hx with rfl | hx
        · exact .inr (ixs_root hi hne)
        · obtain ⟨u, hu⟩ := hA.tree0 hx
          exact .inl ⟨x, hx, u, hu, ixs_root hu hne⟩
      · rcases hj with ⟨r, hr, u, hu, hj⟩ | hj
        · refine .inl ⟨r, hr, u, hu, ?_⟩
          rw [← kp.ix r hr u hu] at hj ⊢
          exact ixs_kid u r (kp.is r hr u hu) j hj c hc hne
        · exact .inr (ixs_kid t i hi j hj c hc hne)
    rcases hS with ⟨r, hr, u, hu, hj⟩ | hj
    · have := ixs_ok A u r hu j hj
      exact List.mem_append_left _ ((A.mem_live j).2 ⟨by omega, this.2⟩)
    · exact List.mem_append_right _ hj
  have h4 := nd_le B.live_nodup hsub
  rw [List.length_append, ixs_len B hi] at h4
  omega
end Go.V
/-! ## Tyb -/
namespace Go.Proofs.YtbeacjcmdijdmaaGreat
open Go Go.V Go.RowKit Go.Maps
theorem wOne_ok {u : Tr} (h : u.ok) (e : Int × Bool × Int) : (wOne u e).ok := by
  unfold wOne; split
  · exact Tr.ins_ok _ _ _ h
  · exact Tr.del_ok _ _ h
theorem wAll_ok : ∀ (W : Wrs) {t : Tr}, t.ok → (wAll W t).ok
  | [], _, h => h
  | e :: W, _, h => wAll_ok W (wOne_ok h e)
theorem wOne_ls {u : Tr} (h : Srt u.ls) (e : Int × Bool × Int) : (wOne u e).ls = lw1 u.ls e := by
  unfold wOne lw1; split
  · exact Tr.ins_ls _ _ _ h
  · exact Tr.del_ls _ _ h
theorem wAll_ls : ∀ (W : Wrs) {t : Tr}, Srt t.ls → (wAll W t).ls = lwA W t.ls
  | [], _, _ => rfl
  | e :: W, t, h => by
    show (wAll W (wOne t e)).ls = lwA W (lw1 t.ls e)
    rw [← wOne_ls h]
    exact wAll_ls W (by rw [wOne_ls h]; exact lw1_srt h)
theorem need_f {t : Tr} {e : Int × Bool × Int} : wNeed t e = false ↔ Tr.get e.1 t = if e.2.1 then some e.2.2 else none := by
  unfold wNeed
  cases e.2.1 with
  | false => cases Tr.get e.1 t <;> simp
  | true => cases Tr.get e.1 t <;> simp
theorem work_srt {t : Tr} {M : Wrs} (h : wSrt M) : wSrt (wWork t M) := h.sublist List.filter_sublist
theorem kv_ext {a b : Kvs} (ha : Srt a) (hb : Srt b) (h : ∀ z, lget z a = lget z b) : a = b :=
  srt_ext ha hb fun e => by rw [← lget_some ha, ← lget_some hb, h]
theorem work_view {t : Tr} {M : Wrs} (hs : Srt t.ls) (hM : wSrt M) : lwA (wWork t M) t.ls = lwA M t.ls := by
  refine kv_ext (lwA_srt _ hs) (lwA_srt _ hs) fun z => ?_
  rw [lwA_get _ hs (work_srt hM) z, lwA_get _ hs hM z]
  cases hg : wget z M with
  | none =>
    have h1 : wget z (wWork t M) = none := wget_none fun x hx e => by
      have h2 := (List.mem_filter.1 hx).1
      have h3 := (wget_some hM (k := z) (y := x.2)).2 (by rw [← e]; exact h2)
      rw [hg] at h3; cases h3
    unfold wvw; rw [hg, h1]
  | some y =>
    have hy := (wget_some hM).1 hg
    cases hn : wNeed t (z, y) with
    | true =>
      have h1 : wget z (wWork t M) = some y := (wget_some (work_srt hM)).2 (List.mem_filter.2 ⟨hy, hn⟩)
      unfold wvw; rw [hg, h1]
    | false =>
      have h1 : wget z (wWork t M) = none := wget_none fun x hx e => by
        obtain ⟨h2, h3⟩ := List.mem_filter.1 hx
        have h4 := (wget_some hM (k := z) (y := x.2)).2 (by rw [← e]; exact h2)
        rw [hg] at h4
        have h5 : x = (z, y) := Prod.ext e (Option.some.inj h4).symm
        rw [h5, hn] at h3; cases h3
      have h2 := need_f.1 hn
      have h3 : lget z t.ls = if y.1 then some y.2 else none := by rw [← Tr.get_ls z t hs]; exact h2
      unfold wvw; rw [hg, h1]; exact h3
theorem work_nil {t : Tr} {M : Wrs} (hs : Srt t.ls) (hM : wSrt M) : lwA M t.ls = t.ls ↔ wWork t M = [] := by
  constructor
  · intro h
    refine List.filter_eq_nil_iff.2 fun e he hn => ?_
    have h1 : wNeed t e = false := need_f.2 (by
      rw [Tr.get_ls e.1 t hs, ← h, lwA_get _ hs hM]; unfold wvw; rw [(wget_some hM (k := e.1) (y := e.2)).2 he])
    rw [h1] at hn; cases hn
  · intro h
    rw [← work_view hs hM, h]; rfl
theorem com_cost {A : AM} {R : List Int} {t : Tr} {M : Wrs} (hA : ARf A R) (hok : t.ok) (hn : t.n + M.length ≤ 60000) (hf : wWork t M = [] ∨ ((t.n : Int) + M.length + 4 * ((Tr.mxH (t.n + M.length) : Int) + 2)) ≤ A.s.free) (k : Nat) (e : Int × Bool × Int) (B : AM) (o : Int) (he : (wWork t M)[k]? = some e) (hT : TOp A B R o (wAll ((wWork t M).take k) t) (wSum ((wWork t M).take k) t)) : (wCost (wAll ((wWork t M).take k) t) e : Int) ≤ B.s.free := by
  rcases hf with hf | hf
  · rw [hf] at he; cases he
  · have hk := (List.getElem?_eq_some_iff.1 he).1
    have hwl := wWork_len t M
    have h1 := ledger hA hT.ref hT.kp hT.is hT.cap
    have h2 := wAll_n ((wWork t M).take k) t
    have h3 := List.length_take_le k (wWork t M)
    have h4 := wAll_ok ((wWork t M).take k) hok
    have h5 := Tr.mxH_mono (a := (wAll ((wWork t M).take k) t).n + 1) (b := t.n + M.length) (by omega)
    have h6 := Tr.mxH_mono (a := (wAll ((wWork t M).take k) t).n) (b := t.n + M.length) (by omega)
    have h7 := Tr.ic_res e.1 e.2.2 _ h4 (by omega)
    have h8 := Tr.dc_res e.1 _ h4 (by omega)
    unfold wCost
    split <;> omega
set_option maxRecDepth 8192 in
theorem tz_commit {g w : World} {L : List HP} (x a : Nat) (rt hd : Int) (S : Kvs) (hS : St g (Tz x a rt S true :: L) w) :
    Sp Tryz.prog 31 [.pointer (some ⟨x, 0, none⟩), .int .u32 hd] w (fun v w' => v = .tuple #[.int .u32 0, .int .i64 5] ∧ St g (Tz x a rt S true :: L) w') := by
  refine Sp.enter Tryz.func31 rfl (by kernel_rfl) (by kernel_rfl) ?_
  refine WC.seq <| WC.region <| WL.r 2 rfl <| WL.nil <| WC.seq <| WC.seq <| WC.region ?_
  obtain ⟨⟨ym, yu, yc⟩, hS⟩ := St.exOpen (f := tzF x a rt S true) hS
  replace hS : St g (cel x #[.pointer (some ⟨a, 0, none⟩), .int .u32 rt, .bool true, .map (some ym), .slice yu (List.length (en2 S)) yc] 188 :: L) w := hS
  refine WL.run 4 [.bool true] rfl (by exact hS.ld 0 rfl rfl) ?_
  refine WL.nil <| WC.ifT rfl rfl <| WC.seq <| WC.region <| WL.r 2 rfl <| WL.nil <| WC.ret ?_
  replace hS := St.exClose (f := tzF x a rt S true) (L := L) ⟨ym, yu, yc⟩ (hS)
  replace hS : St g (Tz x a rt S true :: L) w := hS
  refine ⟨[.int .u32 0, .int .i64 5], ⟨rfl, rfl⟩, ?_⟩
  exact ⟨rfl, hS⟩
set_option maxRecDepth 8192 in
theorem tz_spans {g w : World} {L : List HP} (x a : Nat) (rt : Int) (S : Kvs) (hS : St g (Tz x a rt S true :: L) w) :
    Sp Tryz.prog 38 [.pointer (some ⟨x, 0, none⟩)] w (fun v w' => v = .slice none 0 0 ∧ St g (Tz x a rt S true :: L) w') := by
  refine Sp.enter Tryz.func38 rfl (by kernel_rfl) (by kernel_rfl) ?_
  refine WC.seq <| WC.region <| WL.r 1 rfl <| WL.nil <| WC.seq <| WC.seq <| WC.region ?_
  obtain ⟨⟨ym, yu, yc⟩, hS⟩ := St.exOpen (f := tzF x a rt S true) hS
  replace hS : St g (cel x #[.pointer (some ⟨a, 0, none⟩), .int .u32 rt, .bool true, .map (some ym), .slice yu (List.length (en2 S)) yc] 188 :: L) w := hS
  refine WL.run 4 [.bool true] rfl (by exact hS.ld 0 rfl rfl) ?_
  refine WL.nil <| WC.ifT rfl rfl <| WC.seq <| WC.region <| WL.r 1 rfl <| WL.nil <| WC.ret ?_
  replace hS := St.exClose (f := tzF x a rt S true) (L := L) ⟨ym, yu, yc⟩ (hS)
  replace hS : St g (Tz x a rt S true :: L) w := hS
  refine ⟨[.slice none 0 0], rfl, ?_⟩
  exact ⟨rfl, hS⟩
set_option maxRecDepth 8192 in
theorem tz_writes {g w : World} {L : List HP} (x a : Nat) (rt : Int) (S : Kvs) (hS : St g (Tz x a rt S true :: L) w) :
    Sp Tryz.prog 41 [.pointer (some ⟨x, 0, none⟩)] w (fun v w' => v = .slice none 0 0 ∧ St g (Tz x a rt S true :: L) w') := by
  refine Sp.enter Tryz.func41 rfl (by kernel_rfl) (by kernel_rfl) ?_
  refine WC.seq <| WC.region <| WL.r 1 rfl <| WL.nil <| WC.seq <| WC.seq <| WC.region ?_
  obtain ⟨⟨ym, yu, yc⟩, hS⟩ := St.exOpen (f := tzF x a rt S true) hS
  replace hS : St g (cel x #[.pointer (some ⟨a, 0, none⟩), .int .u32 rt, .bool true, .map (some ym), .slice yu (List.length (en2 S)) yc] 188 :: L) w := hS
  refine WL.run 4 [.bool true] rfl (by exact hS.ld 0 rfl rfl) ?_
  refine WL.nil <| WC.ifT rfl rfl <| WC.seq <| WC.region <| WL.r 1 rfl <| WL.nil <| WC.ret ?_
  replace hS := St.exClose (f := tzF x a rt S true) (L := L) ⟨ym, yu, yc⟩ (hS)
  replace hS : St g (Tz x a rt S true :: L) w := hS
  refine ⟨[.slice none 0 0], rfl, ?_⟩
  exact ⟨rfl, hS⟩
set_option maxRecDepth 8192 in
theorem tz_abort {g w : World} {L : List HP} (x a : Nat) (rt : Int) (S : Kvs) (hS : St g (Tz x a rt S true :: L) w) :
    Sp Tryz.prog 51 [.pointer (some ⟨x, 0, none⟩)] w (fun v w' => v = .int .i64 5 ∧ St g (Tz x a rt S true :: L) w') := by
  refine Sp.enter Tryz.func51 rfl (by kernel_rfl) (by kernel_rfl) ?_
  refine WC.seq <| WC.region <| WL.r 1 rfl <| WL.nil <| WC.seq <| WC.seq <| WC.region ?_
  obtain ⟨⟨ym, yu, yc⟩, hS⟩ := St.exOpen (f := tzF x a rt S true) hS
  replace hS : St g (cel x #[.pointer (some ⟨a, 0, none⟩), .int .u32 rt, .bool true, .map (some ym), .slice yu (List.length (en2 S)) yc] 188 :: L) w := hS
  refine WL.run 4 [.bool true] rfl (by exact hS.ld 0 rfl rfl) ?_
  refine WL.nil <| WC.ifT rfl rfl <| WC.seq <| WC.region <| WL.r 1 rfl <| WL.nil <| WC.ret ?_
  replace hS := St.exClose (f := tzF x a rt S true) (L := L) ⟨ym, yu, yc⟩ (hS)
  replace hS : St g (Tz x a rt S true :: L) w := hS
  refine ⟨[.int .i64 5], rfl, ?_⟩
  exact ⟨rfl, hS⟩
set_option maxRecDepth 8192 in
theorem tz_end {g w : World} {L : List HP} (x a : Nat) (rt : Int) (S : Kvs) (A : AM) (R : List Int) (hA : ARf A (rt :: R)) (hR : R.length ≤ 900000000) (hS : St g (Tz x a rt S false :: Arn a A :: L) w) :
    Sp Tryz.prog 107 [.pointer (some ⟨x, 0, none⟩)] w (fun v w' => ∃ (A2 : AM), v = .tuple #[] ∧ St g (Tz x a rt S true :: Arn a A2 :: L) w' ∧ (Rl A A2 R)) := by
  refine Sp.enter Tryz.func107 rfl (by kernel_rfl) (by kernel_rfl) ?_
  refine WC.seq <| WC.region ?_
  obtain ⟨⟨ym, yu, yc⟩, hS⟩ := St.exOpen (f := tzF x a rt S false) hS
  replace hS := hS.n2 L (a0 := cel x #[.pointer (some ⟨a, 0, none⟩), .int .u32 rt, .bool false, .map (some ym), .slice yu (List.length (en2 S)) yc] 188) rfl
  have hrr := hA.rng (r := rt) (by simp)
  refine WL.r 3 rfl <| WL.st rfl rfl rfl 0 hS rfl rfl rfl rfl rfl rfl (fun w hS => ?_)
  replace hS := hS.n2 L (a0 := cel x #[.pointer (some ⟨a, 0, none⟩), .int .u32 rt, .bool true, .map (some ym), .slice yu (List.length (en2 S)) yc] 188) rfl
  refine WL.nil <| WC.plan [([0, 4, 1, 5, 2, 6, 3, 7], some (8, []))] (by kernel_rfl) (by kernel_rfl) ?_
  refine WQ.run 8 [.pointer (some ⟨a, 0, none⟩), .int .u32 rt] rfl (by exact ⟨hS.ld 0 rfl rfl, hS.ld 0 rfl rfl⟩) ?_
  refine WQ.nil ?_
  intro m1
  replace hS := hS.drewN m1; generalize hwm1 : World.drewN _ _ = w at *; clear hwm1
  refine WL.call rfl rfl (tr_rel (R := R) (i := rt) (hA := hA) (hR := hR) (hS := (hS.sel 2 [1, 0] rfl))) rfl ?_
  clear hS; rintro _ w ⟨A1, f1, rfl, hS, f2, f3⟩
  replace hS := hS.n2 L (a0 := Arn a A1) rfl
  refine WL.nil ?_
  refine ⟨by exact trivial, ?_⟩
  intro m2
  replace hS := hS.drewN m2; generalize hwm2 : World.drewN _ _ = w at *; clear hwm2
  replace hS := St.exClose (f := tzF x a rt S true) (L := Arn a A1 :: L) ⟨ym, yu, yc⟩ ((hS.sel 2 [1, 0] rfl))
  replace hS := hS.n2 L (a0 := Tz x a rt S true) rfl
  refine ⟨[], trivial, ?_⟩
  exact ⟨_, rfl, hS, f2⟩
set_option maxRecDepth 8192 in
theorem tz_abort1 {g w : World} {L : List HP} (x a : Nat) (rt : Int) (S : Kvs) (A : AM) (R : List Int) (hA : ARf A (rt :: R)) (hR : R.length ≤ 900000000) (hS : St g (Tz x a rt S false :: Arn a A :: L) w) :
    Sp Tryz.prog 51 [.pointer (some ⟨x, 0, none⟩)] w (fun v w' => ∃ (A2 : AM), v = .int .i64 0 ∧ St g (Tz x a rt S true :: Arn a A2 :: L) w' ∧ (Rl A A2 R)) := by
  refine Sp.enter Tryz.func51 rfl (by kernel_rfl) (by kernel_rfl) ?_
  refine WC.seq <| WC.region <| WL.r 1 rfl <| WL.nil <| WC.seq <| WC.seq <| WC.region ?_
  obtain ⟨⟨ym, yu, yc⟩, hS⟩ := St.exOpen (f := tzF x a rt S false) hS
  replace hS := hS.n2 L (a0 := cel x #[.pointer (some ⟨a, 0, none⟩), .int .u32 rt, .bool false, .map (some ym), .slice yu (List.length (en2 S)) yc] 188) rfl
  refine WL.run 4 [.bool false] rfl (by exact hS.ld 0 rfl rfl) ?_
  refine WL.nil <| WC.ifF rfl rfl <| WC.skip <| WC.seq <| WC.region ?_
  replace hS := St.exClose (f := tzF x a rt S false) (L := Arn a A :: L) ⟨ym, yu, yc⟩ (hS)
  replace hS := hS.n2 L (a0 := Tz x a rt S false) rfl
  refine WL.r 1 rfl <| WL.call rfl rfl (tz_end (R := R) (hA := hA) (hR := hR) (hS := hS)) rfl ?_
  clear hS; rintro _ w ⟨A1, rfl, hS, f1⟩
  replace hS : St g (Tz x a rt S true :: Arn a A1 :: L) w := hS
  refine WL.nil <| WC.seq <| WC.region <| WL.r 1 rfl <| WL.nil ?_
  as_aux_lemma =>
  refine WC.ret ?_
  refine ⟨[.int .i64 0], rfl, ?_⟩
  exact ⟨_, rfl, hS, f1⟩
def Conf (S : Kvs) (ts th : Tr) : Prop := ¬ ∀ s ∈ S, inR s.1 s.2 (dif ts.ls th.ls) = []
def ComA (A : AM) (R : List Int) (ts th : Tr) (M : Wrs) (S : Kvs) (hd : Int) (A2 : AM) (i e : Int) (en : Bool) : Prop := (Conf S ts th ∧ e = 10 ∧ i = 0 ∧ en = false ∧ A2 = A) ∨ (¬ Conf S ts th ∧ ComT A R th M hd A2 i e en)
set_option maxRecDepth 8192 in
theorem tx_any {g w : World} {L : List HP} (x a : Nat) (rt : Int) (xs : List WE) (q : Nat) (S : Kvs) (M : Wrs) (A : AM) (R : List Int) (hd : Int) (ts th : Tr) (hW : WOk xs q M) (hA : ARf A (rt :: R)) (hts : Is A ts rt) (hth : Is A th hd) (hss : Srt ts.ls) (hsh : Srt th.ls) (hok : th.ok) (hn : ts.n + th.n ≤ 60000) (hm : th.n + M.length ≤ 60000) (hSl : S.length ≤ 100000) (hR : R.length ≤ 500000000) (hS : St g (Tx x a rt xs q S :: Arn a A :: L) w) :
    Sp Tryz.prog 31 [.pointer (some ⟨x, 0, none⟩), .int .u32 hd] w (fun v w' => ∃ (A2 : AM) (i e : Int) (en : Bool), v = .tuple #[.int .u32 i, .int .i64 e] ∧ St g (Tz x a rt S en :: Arn a A2 :: L) w' ∧ (ComA A R ts th M S hd A2 i e en)) := by
  by_cases h : ∀ s ∈ S, inR s.1 s.2 (dif ts.ls th.ls) = []
  · exact (tx_com2 x a rt xs q S M A R hd ts th hW hA hts hth hss hsh hn hSl hR h (fun hr => com_cost hA hok hm hr) hS).mono fun v w' ⟨A2, i, e, en, hv, hS', k⟩ => ⟨A2, i, e, en, hv, hS', .inr ⟨fun k => k h, k⟩⟩
  · refine (tx_conflict x a rt xs q S A (rt :: R) hd ts th hA hts hth hss hsh hn hSl h hS).mono fun v w' ⟨hv, hS'⟩ => ?_
    obtain ⟨⟨xm, xu, xc⟩, hS'⟩ := St.exOpen (f := txF x a rt xs q S) hS'
    exact ⟨A, 0, 10, false, hv, St.exClose (f := tzF x a rt S false) (L := Arn a A :: L) ⟨xm, xu, xc⟩ (hS'.sel 4 [0, 2] rfl), .inl ⟨h, rfl, rfl, rfl, rfl⟩⟩
end Go.Proofs.YtbeacjcmdijdmaaGreat
/-! ## H1 -/
namespace Go.Proofs.YtbeacjcmdijdmaaGreat
open Go Go.V Go.RowKit
theorem ap_324 : ArP Tryz.prog 324 81 3 := ⟨by kernel_rfl, by kernel_rfl⟩
theorem wt_step2 {h : Nat} (hh : h < 81) : IntKind.i64.wrap ((Tr.wt h : Int) + ((Tr.wt h : Int) + 2) / 3) = (Tr.wt (h + 1) : Int) := by
  have := wt_big h (by omega)
  rw [w64 (by omega), show Tr.wt (h + 1) = Tr.wt h + (Tr.wt h + 2) / 3 from rfl]; omega
set_option maxRecDepth 8192 in
theorem r7_weights {g w : World} {L : List HP} (hS : St g (L) w) :
    Sp Tryz.prog 218 [] w (fun v w' => v = .agg (wtA 81) ∧ St g (L) w') := by
  refine Sp.enter Tryz.func218 rfl (by kernel_rfl) (by kernel_rfl) ?_
  refine WC.seq <| WC.region <| WL.new rfl rfl zv_324 hS (fun b1 w hS => ?_)
  refine WL.nil <| WC.seq <| WC.region ?_
  replace hS : St g (cel b1 (wtA 0) 324 :: L) w := hS
  refine WL.new rfl rfl zv_324 hS (fun b2 w hS => ?_)
  refine WL.nil <| WC.seq <| WC.region ?_
  replace hS := hS.n2 L (a0 := cel b2 (wtA 0) 324) rfl
  refine WL.ixP rfl rfl (0) ap_324 rfl rfl (by omega) (by omega) ?_
  refine WL.st rfl rfl rfl 0 hS rfl rfl rfl rfl (by rw [wtA_size]; rfl) rfl (fun w hS => ?_)
  replace hS := hS.n2 L (a0 := cel b2 (Array.setIfInBounds (wtA 0) 0 (.int .i64 1)) 324) rfl
  rw [(show Array.setIfInBounds (wtA 0) 0 (.int .i64 1) = wtA 1 from wtA_set (by omega))] at hS
  refine WL.nil <| WC.seq <| WC.seq <| WC.region <| WL.r 1 rfl <| WL.nil <| WC.block <| WC.loop [0, 1, 2] (fun kM vs w => ∃ (h : Nat), vs = [.pointer (some ⟨b1, 0, none⟩), .pointer (some ⟨b2, 0, none⟩), .int .i64 ((h : Int) + 1)] ∧ St g (cel b2 (wtA (h + 1)) 324 :: cel b1 (wtA 0) 324 :: L) w ∧ (h ≤ 80) ∧ (80 - h) = kM) (80 - 0) ⟨0, rfl, hS, (by omega), rfl⟩ ?_
  clear hS; rintro _ _ w j ⟨h, rfl, hS, hh, rfl⟩
  refine WC.seq <| WC.seq <| WC.region <| WL.r 2 rfl <| WL.nil ?_
  as_aux_lemma =>
  refine WC.ifP rfl (fun cd1 => ?_) (fun cd1 => ?_)
  · refine WC.skip <| WC.seq <| WC.block <| WC.plan [([0, 1, 5, 2, 6, 3, 7, 4, 8, 9, 10, 11, 12], some (13, []))] (by kernel_rfl) (by kernel_rfl) ?_
    have hbg := wt_big h (by omega)
    refine WQ.r 4 rfl <| WQ.nw 10 rfl (w64 (by omega)) ?_
    refine WQ.r 1 rfl <| WQ.nw 14 rfl (w64 (by omega)) ?_
    refine WQ.ixP rfl rfl (h) ap_324 rfl rfl (by omega) (by omega) ?_
    refine WQ.ixP rfl rfl (h) ap_324 rfl rfl (by omega) (by omega) ?_
    refine WQ.run 3 [.int .i64 (Tr.wt h : Int), .int .i64 (Tr.wt h : Int)] rfl (by exact ⟨hS.ld 0 rfl (wtA_at (by omega) (by omega)), hS.ld 0 rfl (wtA_at (by omega) (by omega))⟩) ?_
    refine WQ.nw 17 rfl (w64 (by omega)) ?_
    refine WQ.r 1 rfl <| WQ.reb 18 (.int .i64 (((Tr.wt h : Int) + 2) / 3)) (congrArg (Value.int .i64) (quo_i64 (p := (Tr.wt h : Int) + 2) (q := 3) (by omega))) ?_
    refine WQ.r 1 rfl <| WQ.reb 19 (.int .i64 (Tr.wt (h + 1) : Int)) (congrArg (Value.int .i64) (by exact wt_step2 (by omega))) ?_
    refine WQ.ixP rfl rfl (h + 1) ap_324 rfl rfl (by omega) (by omega) ?_
    refine WQ.nil ?_
    intro m1
    replace hS := hS.drewN m1; generalize hwm1 : World.drewN _ _ = w at *; clear hwm1
    refine WL.st rfl rfl rfl 0 hS rfl rfl rfl rfl (by rw [wtA_size]; exact blt_iff.2 (by omega)) rfl (fun w hS => ?_)
    replace hS := hS.n2 L (a0 := cel b2 (Array.setIfInBounds (wtA (h + 1)) (h + 1) (.int .i64 (Tr.wt (h + 1) : Int))) 324) rfl
    rw [(show Array.setIfInBounds (wtA (h + 1)) (h + 1) (.int .i64 (Tr.wt (h + 1) : Int)) = wtA (h + 1 + 1) from wtA_set (by omega))] at hS
    refine WL.nil ?_
    refine ⟨by exact trivial, ?_⟩
    intro m2
    replace hS := hS.drewN m2; generalize hwm2 : World.drewN _ _ = w at *; clear hwm2
    as_aux_lemma =>
    refine WC.region <| WL.r 2 rfl <| WL.nw 7 rfl (w64 (by omega)) ?_
    refine WL.r 1 rfl <| WL.nil ?_
    exact ⟨_, by omega, h + 1, rfl, hS, (by omega), rfl⟩
  · refine WC.exit <| WC.seq <| WC.region <| WL.ldF rfl rfl 0 hS rfl rfl ag_324 <| WL.stF rfl rfl rfl 1 hS rfl rfl rfl rfl rfl ag_324 (fun w hS => ?_)
    replace hS := hS.n2 L (a1 := cel b1 (wtA (h + 1)) 324) rfl
    refine WL.nil <| WC.ret ?_
    refine ⟨[.agg (wtA (h + 1))], ⟨⟨_, rfl, hS.lvF 1 rfl ag_324⟩, trivial⟩, ?_⟩
    replace hS := (hS.sel 2 [] rfl)
    have hh9 : h = 80 := (by omega); subst hh9; exact ⟨rfl, hS⟩
set_option maxRecDepth 8192 in
theorem r7_height {g w : World} {L : List HP} (keys : Nat) (hk : keys ≤ 2147483647) (hS : St g (L) w) :
    Sp Tryz.prog 185 [.int .i64 (keys : Int)] w (fun v w' => v = .int .i64 (Tr.mxH keys : Int) ∧ St g (L) w') := by
  refine Sp.enter Tryz.func185 rfl (by kernel_rfl) (by kernel_rfl) ?_
  have _ := hk
  refine WC.seq <| WC.region <| WL.r 1 rfl <| WL.nil <| WC.seq <| WC.seq <| WC.region <| WL.r 2 rfl <| WL.rG 4 rfl (fun j => ?_)
  refine WL.prop 10 rfl (bor (dd _) (dd _)) <| WL.nil <| WC.ifF rfl (decide_eq_false ((by omega))) ?_
  refine WC.skip <| WC.seq <| WC.region <| WL.call rfl rfl (r7_weights   (hS := hS)) rfl ?_
  clear hS; rintro _ w ⟨rfl, hS⟩
  replace hS : St g (L) w := hS
  refine WL.new rfl rfl zv_324 hS (fun b1 w hS => ?_)
  refine WL.stF rfl rfl rfl 0 hS rfl rfl rfl rfl rfl ag_324 (fun w hS => ?_)
  replace hS : St g (cel b1 (wtA 81) 324 :: L) w := hS
  refine WL.nil <| WC.seq <| WC.region <| WL.r 1 rfl <| WL.nil ?_
  as_aux_lemma =>
  refine WC.seq <| WC.block <| WC.loop [0, 2, 3, 4] (fun kM vs w => ∃ (h : Nat), vs = [.int .i64 (keys : Int), .int .i64 0, .pointer (some ⟨b1, 0, none⟩), .int .i64 (h : Int)] ∧ St g (cel b1 (wtA 81) 324 :: L) w ∧ (h ≤ 80) ∧ (Tr.mxA keys (80 - h) h = Tr.mxH keys) ∧ (80 - h) = kM) (80 - 0) ⟨0, rfl, hS, (by omega), (rfl), rfl⟩ ?_
  clear hS; rintro _ _ w j ⟨h, rfl, hS, hh, hm, rfl⟩
  refine WC.seq <| WC.seq <| WC.region <| WL.r 3 rfl ?_
  by_cases cg1 : (h : Int) < 80
  · refine WL.reb 14 (.bool true) (congrArg Value.bool (decide_eq_true cg1)) <| WL.ung rfl rfl rfl <| WL.r 1 rfl <| WL.ung rfl rfl rfl <| WL.r 1 rfl <| WL.nw 16 rfl (w64 (by omega)) ?_
    refine WL.ung rfl rfl rfl <| WL.ixP rfl rfl (h + 1) ap_324 rfl rfl (by omega) (by omega) ?_
    refine WL.ung rfl rfl rfl <| WL.run 1 [.int .i64 (Tr.wt (h + 1) : Int)] rfl (by exact hS.ld 0 rfl (wtA_at (by omega) (by omega))) ?_
    refine WL.ung rfl rfl rfl <| WL.r 1 rfl <| WL.nw 19 rfl (w64 (by have hbg := wt_big (h + 1) (by omega); omega)) ?_
    refine WL.ung rfl rfl rfl <| WL.r 1 rfl <| WL.ung rfl rfl rfl <| WL.r 2 rfl <| WL.nil ?_
    as_aux_lemma =>
    refine WC.ifP rfl (fun cd1 => ?_) (fun cd1 => ?_)
    · refine WC.skip <| WC.block <| WC.region <| WL.r 2 rfl <| WL.nw 24 rfl (w64 (by omega)) ?_
      refine WL.r 1 rfl <| WL.nil ?_
      exact ⟨_, by omega, h + 1, rfl, hS, (by omega), (by rw [mxA_go (by omega) (by omega)]; exact hm), rfl⟩
    · refine WC.exit <| WC.seq <| WC.region <| WL.r 2 rfl <| WL.nil <| WC.ret ?_
      refine ⟨[.int .i64 (h : Int)], rfl, ?_⟩
      replace hS := (hS.sel 1 [] rfl)
      exact ⟨congrArg (fun n : Nat => Value.int .i64 n) ((mxA_stop (keys := keys) (by omega) (by omega)).symm.trans hm), hS⟩
  · refine WL.reb 14 (.bool false) (congrArg Value.bool (decide_eq_false cg1)) <| WL.skp rfl rfl rfl rfl <| WL.skp rfl rfl rfl rfl <| WL.skp rfl rfl rfl rfl <| WL.skp rfl rfl rfl rfl <| WL.skp rfl rfl rfl rfl <| WL.skp rfl rfl rfl rfl <| WL.skp rfl rfl rfl rfl <| WL.r 1 rfl <| WL.nil <| WC.ifF rfl rfl <| WC.exit ?_
    refine WC.seq <| WC.region <| WL.r 2 rfl <| WL.nil ?_
    as_aux_lemma =>
    refine WC.ret ?_
    refine ⟨[.int .i64 (h : Int)], rfl, ?_⟩
    replace hS := (hS.sel 1 [] rfl)
    exact ⟨congrArg (fun n : Nat => Value.int .i64 n) (by rw [← hm, show 80 - h = 0 by omega]; rfl), hS⟩
set_option maxRecDepth 8192 in
theorem r8_need {g w : World} {L : List HP} (n : Nat) (hn : n ≤ 65536) (hS : St g (L) w) :
    Sp Tryz.prog 123 [.int .i64 (n : Int), .int .i64 0, .int .i64 0, .int .i64 1, .int .i64 0, .int .i64 4] w (fun v w' => v = .int .i64 (4 * ((Tr.mxH (n + 1) : Int) + 2)) ∧ St g (L) w') := by
  refine Sp.enter Tryz.func123 rfl (by kernel_rfl) (by kernel_rfl) ?_
  have _ := hn
  refine WC.seq <| WC.region <| WL.r 1 rfl <| WL.nil <| WC.seq <| WC.seq <| WC.region <| WL.r 2 rfl <| WL.rG 20 rfl (fun j => ?_)
  refine WL.prop 34 rfl (bor (bor (bor (bor (bor (dd _) (dd _)) (dd _)) (dd _)) (dd _)) (dd _)) <| WL.nil <| WC.ifF rfl (decide_eq_false ((by omega))) ?_
  refine WC.skip <| WC.seq <| WC.region ?_
  have hmx := Tr.mxH_le (n + 1)
  refine WL.r 5 rfl <| WL.nw 39 rfl (w64 (by omega)) ?_
  refine WL.r 2 rfl <| WL.nw 41 rfl (w64 (by omega)) ?_
  refine WL.r 2 rfl <| WL.reb 43 (.int .i64 ((n + 1 : Nat) : Int)) (congrArg (Value.int .i64) (by rw [w64 (by omega)]; omega)) ?_
  refine WL.call rfl rfl (r7_height (keys := (n + 1 : Nat)) (hk := (by omega)) (hS := hS)) rfl ?_
  clear hS; rintro _ w ⟨rfl, hS⟩
  replace hS : St g (L) w := hS
  refine WL.r 1 rfl <| WL.nw 45 rfl (w64 (by omega)) ?_
  refine WL.r 1 rfl <| WL.nw 46 rfl (w64 (by omega)) ?_
  refine WL.r 1 rfl <| WL.nw 47 rfl (w64 (by omega)) ?_
  refine WL.r 1 rfl <| WL.nil ?_
  as_aux_lemma =>
  refine WC.ret ?_
  refine ⟨[.int .i64 (0 + (4 * ((Tr.mxH (n + 1 : Nat) : Int) + 2)))], rfl, ?_⟩
  exact ⟨congrArg (Value.int .i64) (by omega), hS⟩
set_option maxRecDepth 8192 in
theorem r8_ins {g w : World} {L : List HP} (n : Nat) (hn : n ≤ 65536) (hS : St g (L) w) :
    Sp Tryz.prog 46 [.int .i64 (n : Int)] w (fun v w' => v = .int .i64 (4 * ((Tr.mxH (n + 1) : Int) + 2)) ∧ St g (L) w') := by
  refine Sp.enter Tryz.func46 rfl (by kernel_rfl) (by kernel_rfl) ?_
  refine WC.seq <| WC.region <| WL.r 1 rfl <| WL.nil <| WC.seq <| WC.region <| WL.r 1 rfl <| WL.call rfl rfl (r8_need (n := n) (hn := hn) (hS := hS)) rfl ?_
  clear hS; rintro _ w ⟨rfl, hS⟩
  replace hS : St g (L) w := hS
  refine WL.r 1 rfl <| WL.nil <| WC.ret ?_
  refine ⟨[.int .i64 (4 * ((Tr.mxH (n + 1) : Int) + 2))], rfl, ?_⟩
  exact ⟨rfl, hS⟩
end Go.Proofs.YtbeacjcmdijdmaaGreat
/-! ## Y5 -/
namespace Go.Proofs.YtbeacjcmdijdmaaGreat
open Go Go.V Go.RowKit Go.Maps
set_option maxRecDepth 8192 in
theorem r8_need0 {g w : World} {L : List HP} (n m : Int) (hn : 0 ≤ n ∧ n ≤ 65536) (hm : 0 ≤ m ∧ m ≤ 65536) (hS : St g (L) w) :
    Sp Tryz.prog 123 [.int .i64 n, .int .i64 m, .int .i64 0, .int .i64 0, .int .i64 0, .int .i64 0] w (fun v w' => v = .int .i64 0 ∧ St g (L) w') := by
  refine Sp.enter Tryz.func123 rfl (by kernel_rfl) (by kernel_rfl) ?_
  have _ := hm
  have _ := hn
  refine WC.seq <| WC.region <| WL.r 1 rfl <| WL.nil <| WC.seq <| WC.seq <| WC.region <| WL.r 2 rfl <| WL.rG 20 rfl (fun j => ?_)
  refine WL.prop 34 rfl (bor (bor (bor (bor (bor (dd _) (dd _)) (dd _)) (dd _)) (dd _)) (dd _)) <| WL.nil <| WC.ifF rfl (decide_eq_false ((by omega))) ?_
  refine WC.skip <| WC.seq <| WC.region ?_
  have hmx := Tr.mxH_le ((n + m).toNat)
  refine WL.r 5 rfl <| WL.nw 39 rfl (w64 (by omega)) ?_
  refine WL.r 2 rfl <| WL.nw 41 rfl (w64 (by omega)) ?_
  refine WL.r 2 rfl <| WL.reb 43 (.int .i64 (((n + m).toNat : Nat) : Int)) (congrArg (Value.int .i64) (by rw [w64 (by omega)]; omega)) ?_
  refine WL.call rfl rfl (r7_height (keys := ((n + m).toNat : Nat)) (hk := (by omega)) (hS := hS)) rfl ?_
  clear hS; rintro _ w ⟨rfl, hS⟩
  replace hS : St g (L) w := hS
  refine WL.r 1 rfl <| WL.nw 45 rfl (w64 (by omega)) ?_
  refine WL.r 1 rfl <| WL.nw 46 rfl (w64 (by omega)) ?_
  refine WL.r 1 rfl <| WL.nw 47 rfl (w64 (by omega)) ?_
  refine WL.r 1 rfl <| WL.nil ?_
  as_aux_lemma =>
  refine WC.ret ?_
  refine ⟨[.int .i64 (0 + (0 * ((Tr.mxH ((n + m).toNat : Nat) : Int) + 2)))], rfl, ?_⟩
  exact ⟨congrArg (Value.int .i64) (by omega), hS⟩
set_option maxRecDepth 8192 in
theorem r8_needA {g w : World} {L : List HP} (n m x : Int) (hn : 0 ≤ n ∧ n ≤ 65536) (hm : 0 ≤ m ∧ m ≤ 65536) (hx : x = n + m) (hS : St g (L) w) :
    Sp Tryz.prog 123 [.int .i64 n, .int .i64 m, .int .i64 0, .int .i64 0, .int .i64 x, .int .i64 4] w (fun v w' => v = .int .i64 (x + 4 * ((Tr.mxH (n + m).toNat : Int) + 2)) ∧ St g (L) w') := by
  refine Sp.enter Tryz.func123 rfl (by kernel_rfl) (by kernel_rfl) ?_
  have _ := hx
  have _ := hm
  have _ := hn
  refine WC.seq <| WC.region <| WL.r 1 rfl <| WL.nil <| WC.seq <| WC.seq <| WC.region <| WL.r 2 rfl <| WL.rG 20 rfl (fun j => ?_)
  refine WL.prop 34 rfl (bor (bor (bor (bor (bor (dd _) (dd _)) (dd _)) (dd _)) (dd _)) (dd _)) <| WL.nil <| WC.ifF rfl (decide_eq_false ((by omega))) ?_
  refine WC.skip <| WC.seq <| WC.region ?_
  have hmx := Tr.mxH_le ((n + m).toNat)
  refine WL.r 5 rfl <| WL.nw 39 rfl (w64 (by omega)) ?_
  refine WL.r 2 rfl <| WL.nw 41 rfl (w64 (by omega)) ?_
  refine WL.r 2 rfl <| WL.reb 43 (.int .i64 (((n + m).toNat : Nat) : Int)) (congrArg (Value.int .i64) (by rw [w64 (by omega)]; omega)) ?_
  refine WL.call rfl rfl (r7_height (keys := ((n + m).toNat : Nat)) (hk := (by omega)) (hS := hS)) rfl ?_
  clear hS; rintro _ w ⟨rfl, hS⟩
  replace hS : St g (L) w := hS
  refine WL.r 1 rfl <| WL.nw 45 rfl (w64 (by omega)) ?_
  refine WL.r 1 rfl <| WL.nw 46 rfl (w64 (by omega)) ?_
  refine WL.r 1 rfl <| WL.nw 47 rfl (w64 (by omega)) ?_
  refine WL.r 1 rfl <| WL.nil ?_
  as_aux_lemma =>
  refine WC.ret ?_
  refine ⟨[.int .i64 (x + (4 * ((Tr.mxH ((n + m).toNat : Nat) : Int) + 2)))], rfl, ?_⟩
  exact ⟨congrArg (Value.int .i64) (by omega), hS⟩
set_option maxRecDepth 8192 in
theorem r8_apply {g w : World} {L : List HP} (n m : Int) (hn : 0 ≤ n ∧ n ≤ 65536) (hm : 0 ≤ m ∧ m ≤ 65536) (hS : St g (L) w) :
    Sp Tryz.prog 44 [.int .i64 n, .int .i64 m] w (fun v w' => v = .int .i64 (n + m + 4 * ((Tr.mxH (n + m).toNat : Int) + 2)) ∧ St g (L) w') := by
  refine Sp.enter Tryz.func44 rfl (by kernel_rfl) (by kernel_rfl) ?_
  refine WC.seq <| WC.region <| WL.r 1 rfl <| WL.nil <| WC.seq <| WC.seq <| WC.region <| WL.r 2 rfl <| WL.call rfl rfl (r8_need0 (n := n) (m := m) (hn := hn) (hm := hm) (hS := hS)) rfl ?_
  clear hS; rintro _ w ⟨rfl, hS⟩
  replace hS : St g (L) w := hS
  refine WL.r 1 rfl <| WL.nil <| WC.ifF rfl (decide_eq_false ((by decide))) ?_
  refine WC.skip <| WC.seq <| WC.region <| WL.r 5 rfl <| WL.nw 13 rfl (w64 (by omega)) ?_
  refine WL.call rfl rfl (r8_needA (n := n) (m := m) (x := n + m) (hn := hn) (hm := hm) (hx := rfl) (hS := hS)) rfl ?_
  clear hS; rintro _ w ⟨rfl, hS⟩
  replace hS : St g (L) w := hS
  refine WL.r 1 rfl <| WL.nil ?_
  as_aux_lemma =>
  refine WC.ret ?_
  refine ⟨[.int .i64 ((n + m) + 4 * ((Tr.mxH (n + m).toNat : Int) + 2))], rfl, ?_⟩
  exact ⟨rfl, hS⟩
theorem opt_ne {o p : Option Int} : o ≠ p ↔ (o.isSome ≠ p.isSome ∨ o.getD 0 ≠ p.getD 0) := by
  cases o <;> cases p <;> simp
def ConfK (R l h : Kvs) : Prop := ∃ k, inS k R ∧ lget k l ≠ lget k h
theorem conf_iff {R l h : Kvs} (hl : Srt l) (hh : Srt h) : (¬ ∀ s ∈ rdL R, inR s.1 s.2 (dif l h) = []) ↔ ConfK R l h := by
  constructor
  · intro hn
    refine Classical.byContradiction fun hc => hn fun s hs => (inR_all hl hh s.1 s.2).2 fun k h1 h2 => Classical.byContradiction fun hne => hc ⟨k, ((rdL_is R).2 k).1 ⟨s, hs, h1, h2⟩, hne⟩
  · rintro ⟨k, hk, hne⟩ ha
    obtain ⟨s, hs, h1, h2⟩ := ((rdL_is R).2 k).2 hk
    exact hne ((inR_all hl hh s.1 s.2).1 (ha s hs) k h1 h2)
theorem conf_no {R l h : Kvs} (hl : Srt l) (hh : Srt h) (hk : ∀ k ∈ keys3 l h [], ¬ (inS k R ∧ lget k l ≠ lget k h)) : ¬ ConfK R l h := fun ⟨k, h1, h2⟩ => by
  refine hk k (keys3_mem.2 ?_) ⟨h1, h2⟩
  cases e1 : lget k l with
  | some v => exact .inl ⟨(k, v), (lget_some hl).1 e1, rfl⟩
  | none =>
    cases e2 : lget k h with
    | some v => exact .inr (.inl ⟨(k, v), (lget_some hh).1 e2, rfl⟩)
    | none => rw [e1, e2] at h2; exact absurd rfl h2
theorem conf_step {ks : List Int} {i : Nat} {k : Int} {p : Int → Prop} (hk : ks[i]? = some k) (h : ∀ x ∈ ks.take i, p x) (hp : p k) : ∀ x ∈ ks.take (i + 1), p x := fun x hx => by
  rw [List.take_add_one, hk] at hx
  rcases List.mem_append.1 hx with hx | hx
  · exact h x hx
  · have hx2 : x ∈ [k] := hx
    rw [List.mem_singleton.1 hx2]; exact hp
def FltP (l h R : Kvs) (M : Wrs) (fr e : Int) : Prop := (ConfK R l h ∧ e = 10) ∨ (¬ ConfK R l h ∧ ((lwA M h ≠ h ∧ fr < (h.length : Int) + M.length + 4 * ((Tr.mxH (h.length + M.length) : Int) + 2) ∧ e = 2) ∨ (¬ (lwA M h ≠ h ∧ fr < (h.length : Int) + M.length + 4 * ((Tr.mxH (h.length + M.length) : Int) + 2)) ∧ e = 0)))
set_option maxHeartbeats 1000000 in
set_option maxRecDepth 8192 in
theorem r26_fault {g w : World} {L : List HP} (l R : Kvs) (M : Wrs) (sa wa ra : Option Addr) (sc wc rc : Nat) (h : Kvs) (ha : Option Addr) (hc : Nat) (fr : Int) (hl : Srt l) (hh : Srt h) (hs : wSrt M) (hll : l.length ≤ 900) (hhl : h.length ≤ 900) (hm : M.length ≤ 900) (hr : R.length ≤ 100000) (hfr : 0 ≤ fr ∧ fr ≤ 65536) (hS : St g (Sh 121 2 (en2 l) sa sc :: Sh 219 3 (w3s (M.map wr3)) wa wc :: Sh 106 2 (en2 R) ra rc :: Sh 121 2 (en2 h) ha hc :: L) w) :
    Sp Tryz.prog 49 [.agg #[.slice sa (List.length (en2 l)) sc, .slice wa (List.length (w3s (M.map wr3))) wc, .slice ra (List.length (en2 R)) rc, .bool false], .slice ha (List.length (en2 h)) hc, .int .i64 fr] w (fun v w' => ∃ (e : Int), v = .int .i64 e ∧ St g (Sh 121 2 (en2 l) sa sc :: Sh 219 3 (w3s (M.map wr3)) wa wc :: Sh 106 2 (en2 R) ra rc :: Sh 121 2 (en2 h) ha hc :: L) w' ∧ (FltP l h R M fr e)) := by
  refine Sp.enter Tryz.func49 rfl (by kernel_rfl) (by kernel_rfl) ?_
  have _ := hfr
  have _ := hr
  have _ := hm
  have _ := hhl
  have _ := hll
  have _ := hs
  refine WC.seq <| WC.region <| WL.box rfl rfl #[.slice sa (List.length (en2 l)) sc, .slice wa (List.length (w3s (M.map wr3))) wc, .slice ra (List.length (en2 R)) rc, .bool false] hS rfl rfl (fun b1 w hS => ?_)
  refine WL.r 1 rfl <| WL.nil <| WC.seq <| WC.seq <| WC.region <| WL.run 2 [.bool false] rfl (by exact hS.ld 0 rfl rfl) ?_
  refine WL.nil <| WC.ifF rfl rfl <| WC.skip <| WC.seq <| WC.region ?_
  have hkl := keys3_len l h []; simp only [List.length_nil] at hkl; have hil := i64s_len (keys3 l h []); have hwl := w3s_len (M.map wr3); have hml : (M.map wr3).length = M.length := List.length_map ..; have hhe := en2_len h; have hlw := lwA_len M h; have hmx := Tr.mxH_le (h.length + M.length)
  replace hS : St g (Sh 121 2 (en2 []) none 0 :: cel b1 #[.slice sa (List.length (en2 l)) sc, .slice wa (List.length (w3s (M.map wr3))) wc, .slice ra (List.length (en2 R)) rc, .bool false] 100 :: Sh 121 2 (en2 l) sa sc :: Sh 219 3 (w3s (M.map wr3)) wa wc :: Sh 106 2 (en2 R) ra rc :: Sh 121 2 (en2 h) ha hc :: L) w := hS.nilS 121 2
  refine WL.run 3 [.slice sa (List.length (en2 l)) sc] rfl (by exact hS.ld 1 rfl rfl) ?_
  refine WL.call rfl rfl (ref_keys (n := []) (hl := (by omega)) (hm := (by omega)) (hn := (by decide)) (hS := (hS.sel 6 [2, 4, 0, 0, 0, 0] rfl))) rfl ?_
  clear hS; rintro _ w ⟨a1, c1, rfl, hS⟩
  replace hS := hS.n7 L (a0 := Own 2 1 (i64s (keys3 l h [])) a1 c1) (a3 := Sh 121 2 (en2 []) none 0) (a4 := cel b1 #[.slice sa (List.length (en2 l)) sc, .slice wa (List.length (w3s (M.map wr3))) wc, .slice ra (List.length (en2 R)) rc, .bool false] 100) rfl
  refine WL.r 1 rfl <| WL.nil <| WC.seq <| WC.seq <| WC.region <| WL.r 1 rfl <| WL.nil ?_
  as_aux_lemma =>
  refine WC.block <| WC.loop [1, 2, 3, 7, 8] (fun kM vs w => ∃ (i : Nat), vs = [.slice ha (List.length (en2 h)) hc, .int .i64 fr, .pointer (some ⟨b1, 0, none⟩), .slice a1 (List.length (i64s (keys3 l h []))) c1, .int .i64 (i : Int)] ∧ St g (Own 2 1 (i64s (keys3 l h [])) a1 c1 :: Sh 121 2 (en2 l) sa sc :: Sh 121 2 (en2 h) ha hc :: Sh 121 2 (en2 []) none 0 :: cel b1 #[.slice sa (List.length (en2 l)) sc, .slice wa (List.length (w3s (M.map wr3))) wc, .slice ra (List.length (en2 R)) rc, .bool false] 100 :: Sh 219 3 (w3s (M.map wr3)) wa wc :: Sh 106 2 (en2 R) ra rc :: L) w ∧ (i ≤ (keys3 l h []).length) ∧ (∀ k ∈ (keys3 l h []).take i, ¬ (inS k R ∧ lget k l ≠ lget k h)) ∧ ((keys3 l h []).length - i) = kM) ((List.length (keys3 l h [])) - 0) ⟨0, rfl, hS, (Nat.zero_le _), (fun k hk => by simp at hk), rfl⟩ ?_
  clear hS; rintro _ _ w j ⟨i, rfl, hS, hi9, hno, rfl⟩
  refine WC.seq <| WC.seq <| WC.region <| WL.r 4 rfl <| WL.nil <| WC.ifP rfl (fun cd1 => ?_) (fun cd1 => ?_)
  · refine WC.skip <| WC.seq <| WC.block <| WC.seq <| WC.plan [([0, 2, 3, 1], some (4, [0, 1])), ([5], some (6, [])), ([7, 8, 9, 10, 11], none)] (by kernel_rfl) (by kernel_rfl) ?_
    refine WQ.run 4 [.slice sa (List.length (en2 l)) sc] rfl (by exact hS.ld 4 rfl rfl) ?_
    refine WQ.nil ?_
    intro m1
    replace hS := hS.drewN m1; generalize hwm1 : World.drewN _ _ = w at *; clear hwm1
    obtain ⟨k, hk⟩ : ∃ x, (keys3 l h [])[i]? = some x := ⟨_, List.getElem?_eq_getElem (by omega)⟩
    refine WL.ix rfl rfl (i := (i : Int)) (i) el_208 rfl rfl (by omega) (by omega) (hS.rdO 0 rfl (i64s_at hk)).1 ?_
    refine WL.nil ?_
    refine ⟨by exact ⟨RQ.pure rfl rfl rfl rfl, RQ.load rfl rfl rfl rfl (hS.ld 4 rfl rfl)⟩, ?_⟩
    refine WQ.run 1 [.int .i64 k] rfl (by exact (hS.rdO 0 rfl (i64s_at hk)).2 0 _ rfl) ?_
    refine WQ.nil ?_
    intro m2
    replace hS := hS.drewN m2; generalize hwm2 : World.drewN _ _ = w at *; clear hwm2
    refine WL.call rfl rfl (ref_get (k := k) (hl := (by omega)) (hS := (hS.sel 2 [1, 0] rfl))) rfl ?_
    clear hS; rintro _ w ⟨rfl, hS⟩
    replace hS := hS.n7 L rfl
    refine WL.nil ?_
    refine ⟨by exact trivial, ?_⟩
    refine WQ.r 5 rfl <| WQ.nil ?_
    intro m3
    replace hS := hS.drewN m3; generalize hwm3 : World.drewN _ _ = w at *; clear hwm3
    as_aux_lemma =>
    refine WC.seq <| WC.region <| WL.r 3 rfl <| WL.ix rfl rfl (i := (i : Int)) (i) el_208 rfl rfl (by omega) (by omega) (hS.rdO 1 rfl (i64s_at hk)).1 ?_
    refine WL.run 1 [.int .i64 k] rfl (by exact (hS.rdO 1 rfl (i64s_at hk)).2 0 _ rfl) ?_
    refine WL.call rfl rfl (ref_get (k := k) (hl := (by omega)) (hS := (hS.sel 3 [2, 0, 0] rfl))) rfl ?_
    clear hS; rintro _ w ⟨rfl, hS⟩
    replace hS := hS.n7 L rfl
    refine WL.r 5 rfl <| WL.nil <| WC.seq <| WC.plan [([0, 1, 2, 3, 4], some (5, [])), ([6, 7, 8, 9, 10, 11, 12, 13, 14, 15], none)] (by kernel_rfl) (by kernel_rfl) ?_
    refine WQ.ldF rfl rfl 4 hS rfl rfl ag_100 <| WQ.r 2 rfl <| WQ.ix rfl rfl (i := (i : Int)) (i) el_208 rfl rfl (by omega) (by omega) (hS.rdO 2 rfl (i64s_at hk)).1 ?_
    refine WQ.run 1 [.int .i64 k] rfl (by exact (hS.rdO 2 rfl (i64s_at hk)).2 0 _ rfl) ?_
    refine WQ.nil ?_
    intro m4
    replace hS := hS.drewN m4; generalize hwm4 : World.drewN _ _ = w at *; clear hwm4
    refine WL.call rfl rfl (r26_cov (l := l) (W := M.map wr3) (sa := sa) (wa := wa) (sc := sc) (wc := wc) (k := k) (hr := (by omega)) (hS := (hS.sel 7 [6, 0, 0, 0, 0, 0, 0] rfl))) rfl ?_
    clear hS; rintro _ w ⟨b2, rfl, hS, f1⟩
    replace hS := hS.n7 L rfl
    refine WL.nil ?_
    refine ⟨by exact trivial, ?_⟩
    refine WQ.rG 10 rfl (fun j => ?_)
    refine WQ.prop 59 rfl (band (dv _) (bor (bnot (dv _)) (dd _))) <| WQ.nil ?_
    intro m5
    replace hS := hS.drewN m5; generalize hwm5 : World.drewN _ _ = w at *; clear hwm5
    as_aux_lemma =>
    refine WC.ifP rfl (fun hcf => ?_) (fun hcf => ?_)
    · refine WC.seq <| WC.region <| WL.r 1 rfl <| WL.nil <| WC.ret ?_
      refine ⟨[.int .i64 10], rfl, ?_⟩
      replace hS := (hS.sel 7 [2, 5, 0, 0] rfl)
      exact ⟨10, rfl, hS, .inl ⟨⟨k, f1.1 hcf.1, opt_ne.2 (hcf.2.imp (fun h1 h2 => h1 (by rw [h2]; simp)) id)⟩, rfl⟩⟩
    · refine WC.skip <| WC.region <| WL.r 2 rfl <| WL.nw 24 rfl (w64 (by omega)) ?_
      refine WL.r 1 rfl <| WL.nil ?_
      exact ⟨_, by omega, i + 1, rfl, (hS.sel 7 [3, 2, 1, 1, 1, 1, 0] rfl), (by omega), (conf_step hk hno (fun h9 => hcf ⟨f1.2 h9.1, (opt_ne.1 h9.2).imp (fun h1 h2 => h1 (by simpa using h2)) id⟩)), rfl⟩
  · refine WC.exit <| WC.seq <| WC.seq <| WC.region ?_
    have hnc := conf_no (R := R) hl hh (by have e9 : i = (keys3 l h []).length := (by omega); subst e9; rw [List.take_length] at hno; exact hno)
    have hap : (((((en2 h).length : Nat) : Int) + (((w3s (M.map wr3)).length : Nat) : Int)).toNat) = h.length + M.length := (by omega)
    refine WL.ldF rfl rfl 4 hS rfl rfl ag_100 <| WL.r 1 rfl <| WL.call rfl rfl (r26_over (l := l) (R := R) (M := M) (sa := sa) (ra := ra) (sc := sc) (rc := rc) (hs := hh) (hm := (by omega)) (hl := (by omega)) (hS := (hS.sel 6 [5, 2, 0, 0, 0, 0] rfl))) rfl ?_
    clear hS; rintro _ w ⟨a2, c2, rfl, hS⟩
    replace hS := hS.n8 L (a2 := Sh 121 2 (en2 (lwA M h)) a2 c2) rfl
    refine WL.r 1 rfl <| WL.call rfl rfl (same9 (xs := lwA M h) (hl := (by omega)) (hS := (hS.sel 3 [2, 1, 0] rfl))) rfl ?_
    clear hS; rintro _ w ⟨rfl, hS⟩
    replace hS := hS.n8 L rfl
    refine WL.r 1 rfl <| WL.prop 65 rfl (bnot (dd _)) <| WL.r 1 rfl ?_
    by_cases cg1 : ¬ ((lwA M h) = h)
    · refine WL.reb 66 (.bool true) (congrArg Value.bool (decide_eq_true cg1)) <| WL.ung rfl rfl rfl <| WL.r 1 rfl <| WL.ung rfl rfl rfl <| WL.r 1 rfl <| WL.ung rfl rfl rfl <| WL.r 1 rfl <| WL.ung rfl rfl rfl <| WL.r 1 rfl <| WL.ung rfl rfl rfl <| WL.run 1 [.slice wa (List.length (w3s (M.map wr3))) wc] rfl (by exact hS.ld 6 rfl rfl) ?_
      refine WL.ung rfl rfl rfl <| WL.r 1 rfl <| WL.ung rfl rfl rfl <| WL.call rfl rfl (r8_apply (n := (List.length (en2 h) : Int)) (m := (List.length (w3s (M.map wr3)) : Int)) (hn := (by omega)) (hm := (by omega)) (hS := hS)) rfl ?_
      clear hS; rintro _ w ⟨rfl, hS⟩
      replace hS := hS.n8 L rfl
      refine WL.ung rfl rfl rfl <| WL.r 2 rfl <| WL.nil ?_
      as_aux_lemma =>
      refine WC.ifP rfl (fun hfu => ?_) (fun hfu => ?_)
      · refine WC.seq <| WC.region <| WL.r 1 rfl <| WL.nil <| WC.ret ?_
        refine ⟨[.int .i64 2], rfl, ?_⟩
        replace hS := (hS.sel 8 [4, 2, 5, 1] rfl)
        exact ⟨2, rfl, hS, .inr ⟨hnc, .inl ⟨by assumption, by rw [hap] at hfu; omega, rfl⟩⟩⟩
      · refine WC.skip <| WC.seq <| WC.region <| WL.r 1 rfl <| WL.nil <| WC.ret ?_
        refine ⟨[.int .i64 0], rfl, ?_⟩
        replace hS := (hS.sel 8 [4, 2, 5, 1] rfl)
        exact ⟨0, rfl, hS, .inr ⟨hnc, .inr ⟨fun h9 => (by first | exact absurd h9.1 (by assumption) | (have h8 := h9.2; rw [hap] at hfu; omega)), rfl⟩⟩⟩
    · refine WL.reb 66 (.bool false) (congrArg Value.bool (decide_eq_false cg1)) <| WL.skp rfl rfl rfl rfl <| WL.skp rfl rfl rfl rfl <| WL.skp rfl rfl rfl rfl <| WL.skp rfl rfl rfl rfl <| WL.skp rfl rfl rfl rfl <| WL.skp rfl rfl rfl rfl <| WL.skp rfl rfl rfl rfl <| WL.skp rfl rfl rfl rfl <| WL.r 1 rfl <| WL.nil ?_
      as_aux_lemma =>
      refine WC.ifF rfl rfl <| WC.skip <| WC.seq <| WC.region <| WL.r 1 rfl <| WL.nil <| WC.ret ?_
      refine ⟨[.int .i64 0], rfl, ?_⟩
      replace hS := (hS.sel 8 [4, 2, 5, 1] rfl)
      exact ⟨0, rfl, hS, .inr ⟨hnc, .inr ⟨fun h9 => (by first | exact absurd h9.1 (by assumption) | (have h8 := h9.2; rw [hap] at hfu; omega)), rfl⟩⟩⟩
end Go.Proofs.YtbeacjcmdijdmaaGreat
/-! ## C6 -/
namespace Go.Proofs.YtbeacjcmdijdmaaGreat
open Go Go.V Go.RowKit
def ndD (A : AM) (i : Int) : Nd := if A.s.ok i = true then A.nd i else Nd.zero
theorem ndD_ok {A : AM} {i : Int} (h : A.s.ok i = true) : ndD A i = A.nd i := if_pos h
theorem ndD_sz {A : AM} (i : Int) : (ndD A i).size = A.sz i := by
  unfold ndD AM.sz
  split <;> rfl
theorem is_rng {A : AM} {R : List Int} (h : ARf A R) {t : Tr} {i : Int} (hi : Is A t i) : 0 ≤ i ∧ i ≤ 65536 := by
  have := h.okrng hi.ref; omega
theorem tn_cap {A : AM} {R : List Int} (h : ARf A R) {t : Tr} {i : Int} (hi : Is A t i) (hs : Srt t.ls) : (t.n : Int) ≤ A.s.cap := by
  have h1 := nodup_bnd A.s.cap.toNat (ixs A t i) (ixs_nodup hi hs) fun j hj => by
    have h2 := ixs_ok A t i hi j hj
    have h3 := SM.ok_rng h.s (i := j) (by omega) h2.2
    have := cap_rng h; omega
  rw [ixs_len A hi] at h1
  have := cap_rng h; omega
theorem is_n {A : AM} {R : List Int} (h : ARf A R) {t : Tr} {i : Int} (hi : Is A t i) : (t.n : Int) ≤ 2147483647 := by
  rw [← Is.sz h t i hi]
  rcases hi.ref with e | ⟨e1, e2⟩
  · subst e; rw [sz_0 h.s]; decide
  · rw [sz_ok e2]; exact (h.sz i e2 (by omega)).2
theorem srt_node {l r : Tr} {k v : Int} (h : Srt (Tr.node l k v r).ls) : Srt l.ls ∧ Srt r.ls ∧ (∀ x ∈ l.ls, x.1 < k) ∧ ∀ x ∈ r.ls, k < x.1 := by
  have h1 := Srt.app (a := l.ls) (b := (k, v) :: r.ls) h
  have h2 := List.pairwise_cons.1 h1.2.1
  exact ⟨h1.1, h2.2, fun x hx => h1.2.2 x hx (k, v) (by simp), fun x hx => h2.1 x hx⟩
set_option maxRecDepth 8192 in
theorem t7_node {g w : World} {L : List HP} (A : AM) (R : List Int) (da fa : Option Addr) (dc fc : Nat) (i : Int) (hA : ARf A R) (hi : 0 ≤ i ∧ i ≤ 4294967295) (hS : St g (Sh 174 11 (sls (AM.dmp A)) da dc :: L) w) :
    Sp Tryz.prog 86 [.agg #[.slice da (List.length (sls (AM.dmp A))) dc, .slice fa (List.length (u32s (SM.order A.s))) fc], .int .u32 i] w (fun v w' => v = .agg #[.int .i64 (ndD A i).key, .int .i64 (ndD A i).val, .int .u32 (ndD A i).lf, .int .u32 (ndD A i).rg, .int .i64 (ndD A i).size, .int .i64 (ndD A i).sum, .int .i64 (ndD A i).mn, .int .i64 (ndD A i).mx] ∧ St g (Sh 174 11 (sls (AM.dmp A)) da dc :: L) w') := by
  refine Sp.enter Tryz.func86 rfl (by kernel_rfl) (by kernel_rfl) ?_
  refine WC.seq <| WC.region <| WL.box rfl rfl #[.slice da (List.length (sls (AM.dmp A))) dc, .slice fa (List.length (u32s (SM.order A.s))) fc] hS rfl rfl (fun b1 w hS => ?_)
  refine WL.new rfl rfl zv_172 hS (fun b2 w hS => ?_)
  refine WL.nil <| WC.seq <| WC.seq <| WC.region ?_
  have hn := dmp_n A; have hcr := cap_rng hA
  refine WL.ldF rfl rfl 1 hS rfl rfl ag_62 <| WL.r 1 rfl <| WL.call rfl rfl (c6_alloc (A := A) (fa := fa) (fc := fc) (i := i) (hA := hA) (hi := hi) (hS := (hS.sel 3 [2, 0, 0] rfl))) rfl ?_
  clear hS; rintro _ w ⟨b3, rfl, hS, f1⟩
  replace hS := hS.n3 L (a1 := cel b2 #[.int .i64 0, .int .i64 0, .int .u32 0, .int .u32 0, .int .i64 0, .int .i64 0, .int .i64 0, .int .i64 0] 172) (a2 := cel b1 #[.slice da (List.length (sls (AM.dmp A))) dc, .slice fa (List.length (u32s (SM.order A.s))) fc] 62) rfl
  refine WL.r 1 rfl <| WL.nil <| WC.if_ rfl (fun cd1 => ?_) (fun cd1 => ?_)
  · refine WC.seq <| WC.region <| WL.build rfl rfl (cs := [.int .i64 0, .int .i64 0, .int .u32 0, .int .u32 0, .int .i64 0, .int .i64 0, .int .i64 0, .int .i64 0]) zv_172 rfl rfl <| WL.stF rfl rfl rfl 1 hS rfl rfl rfl rfl rfl ag_172 (fun w hS => ?_)
    replace hS := hS.n3 L rfl
    refine WL.nil <| WC.ret ?_
    refine ⟨[.agg #[.int .i64 0, .int .i64 0, .int .u32 0, .int .u32 0, .int .i64 0, .int .i64 0, .int .i64 0, .int .i64 0]], ⟨⟨_, rfl, hS.lvF 1 rfl ag_172⟩, trivial⟩, ?_⟩
    replace hS := (hS.sel 3 [0] rfl)
    exact ⟨by have h9 : ¬ A.s.ok i = true := (by rw [← f1]; simpa using cd1); unfold ndD; rw [if_neg h9]; rfl, hS⟩
  · refine WC.skip <| WC.seq <| WC.region ?_
    have hok : A.s.ok i = true := (by rw [← f1]; simpa using cd1); have hor := SM.ok_rng hA.s (i := i) hi.1 hok; have hfr := hA.s.fr
    refine WL.run 4 [.slice da (List.length (sls (AM.dmp A))) dc] rfl (by exact hS.ld 2 rfl rfl) ?_
    refine WL.nw 13 rfl (wu32 (by omega)) ?_
    refine WL.ix rfl rfl (i := i - 1) (i.toNat - 1) el_60 rfl rfl (by omega) (by omega) (hS.rdS 0 rfl (sls_at (AM.dmp_at (A := A) (k := i.toNat - 1) (by omega)))).1 ?_
    refine WL.r 1 rfl <| WL.ldC rfl rfl [.int .i64 (A.dmpAt (((i.toNat - 1 : Nat) : Int) + 1)).nd.key, .int .i64 (A.dmpAt (((i.toNat - 1 : Nat) : Int) + 1)).nd.val, .int .u32 (A.dmpAt (((i.toNat - 1 : Nat) : Int) + 1)).nd.lf, .int .u32 (A.dmpAt (((i.toNat - 1 : Nat) : Int) + 1)).nd.rg, .int .i64 (A.dmpAt (((i.toNat - 1 : Nat) : Int) + 1)).nd.size, .int .i64 (A.dmpAt (((i.toNat - 1 : Nat) : Int) + 1)).nd.sum, .int .i64 (A.dmpAt (((i.toNat - 1 : Nat) : Int) + 1)).nd.mn, .int .i64 (A.dmpAt (((i.toNat - 1 : Nat) : Int) + 1)).nd.mx] ag_172 rfl (RdE.sub (hS.rdS 0 rfl (sls_at (AM.dmp_at (A := A) (k := i.toNat - 1) (by omega)))).2 3 [.int .i64 (A.dmpAt (((i.toNat - 1 : Nat) : Int) + 1)).nd.key, .int .i64 (A.dmpAt (((i.toNat - 1 : Nat) : Int) + 1)).nd.val, .int .u32 (A.dmpAt (((i.toNat - 1 : Nat) : Int) + 1)).nd.lf, .int .u32 (A.dmpAt (((i.toNat - 1 : Nat) : Int) + 1)).nd.rg, .int .i64 (A.dmpAt (((i.toNat - 1 : Nat) : Int) + 1)).nd.size, .int .i64 (A.dmpAt (((i.toNat - 1 : Nat) : Int) + 1)).nd.sum, .int .i64 (A.dmpAt (((i.toNat - 1 : Nat) : Int) + 1)).nd.mn, .int .i64 (A.dmpAt (((i.toNat - 1 : Nat) : Int) + 1)).nd.mx] rfl) ?_
    refine WL.stF rfl rfl rfl 1 hS rfl rfl rfl rfl rfl ag_172 (fun w hS => ?_)
    replace hS := hS.n3 L (a1 := cel b2 #[.int .i64 (A.dmpAt (((i.toNat - 1 : Nat) : Int) + 1)).nd.key, .int .i64 (A.dmpAt (((i.toNat - 1 : Nat) : Int) + 1)).nd.val, .int .u32 (A.dmpAt (((i.toNat - 1 : Nat) : Int) + 1)).nd.lf, .int .u32 (A.dmpAt (((i.toNat - 1 : Nat) : Int) + 1)).nd.rg, .int .i64 (A.dmpAt (((i.toNat - 1 : Nat) : Int) + 1)).nd.size, .int .i64 (A.dmpAt (((i.toNat - 1 : Nat) : Int) + 1)).nd.sum, .int .i64 (A.dmpAt (((i.toNat - 1 : Nat) : Int) + 1)).nd.mn, .int .i64 (A.dmpAt (((i.toNat - 1 : Nat) : Int) + 1)).nd.mx] 172) rfl
    refine WL.nil ?_
    as_aux_lemma =>
    refine WC.ret ?_
    refine ⟨[.agg #[.int .i64 (A.dmpAt (((i.toNat - 1 : Nat) : Int) + 1)).nd.key, .int .i64 (A.dmpAt (((i.toNat - 1 : Nat) : Int) + 1)).nd.val, .int .u32 (A.dmpAt (((i.toNat - 1 : Nat) : Int) + 1)).nd.lf, .int .u32 (A.dmpAt (((i.toNat - 1 : Nat) : Int) + 1)).nd.rg, .int .i64 (A.dmpAt (((i.toNat - 1 : Nat) : Int) + 1)).nd.size, .int .i64 (A.dmpAt (((i.toNat - 1 : Nat) : Int) + 1)).nd.sum, .int .i64 (A.dmpAt (((i.toNat - 1 : Nat) : Int) + 1)).nd.mn, .int .i64 (A.dmpAt (((i.toNat - 1 : Nat) : Int) + 1)).nd.mx]], ⟨⟨_, rfl, hS.lvF 1 rfl ag_172⟩, trivial⟩, ?_⟩
    replace hS := (hS.sel 3 [0] rfl)
    exact ⟨by have h8 : ((i.toNat - 1 : Nat) : Int) + 1 = i := (by omega); rw [h8]; unfold ndD; rw [if_pos hok]; rfl, hS⟩
set_option maxHeartbeats 1000000 in
set_option maxRecDepth 8192 in
theorem t7_ord_step (nM : Nat) (ih : ∀ mM : Nat, mM < nM → ∀ (g w : World) (L : List HP) (A : AM) (R : List Int) (da fa : Option Addr) (dc fc : Nat) (p : Nat) (i last most : Int) (any : Bool) (t : Tr), (ARf A R) → (Is A t i) → (Srt t.ls) → (any = true → ∀ x ∈ t.ls, last < x.1) → ((t.n : Int) ≤ most ∧ most ≤ 1000000) → t.n = mM → St g (cel p #[.slice da (List.length (sls (AM.dmp A))) dc, .slice fa (List.length (u32s (SM.order A.s))) fc, .int .i64 last, .bool any, .int .i64 most] 257 :: Sh 174 11 (sls (AM.dmp A)) da dc :: L) w → Sp Tryz.prog 152 [.pointer (some ⟨p, 0, none⟩), .int .u32 i] w (fun v w' => ∃ (last2 : Int) (any2 : Bool), v = .bool true ∧ St g (cel p #[.slice da (List.length (sls (AM.dmp A))) dc, .slice fa (List.length (u32s (SM.order A.s))) fc, .int .i64 last2, .bool any2, .int .i64 (most - (t.n : Int))] 257 :: Sh 174 11 (sls (AM.dmp A)) da dc :: L) w' ∧ (any2 = true → (any = true ∧ last2 = last) ∨ ∃ x ∈ t.ls, x.1 = last2))) {g w : World} {L : List HP} (A : AM) (R : List Int) (da fa : Option Addr) (dc fc : Nat) (p : Nat) (i last most : Int) (any : Bool) (t : Tr) (hA : ARf A R) (hi : Is A t i) (hs : Srt t.ls) (hl : any = true → ∀ x ∈ t.ls, last < x.1) (hm : (t.n : Int) ≤ most ∧ most ≤ 1000000) (hM : t.n = nM) (hS : St g (cel p #[.slice da (List.length (sls (AM.dmp A))) dc, .slice fa (List.length (u32s (SM.order A.s))) fc, .int .i64 last, .bool any, .int .i64 most] 257 :: Sh 174 11 (sls (AM.dmp A)) da dc :: L) w) :
    Sp Tryz.prog 152 [.pointer (some ⟨p, 0, none⟩), .int .u32 i] w (fun v w' => ∃ (last2 : Int) (any2 : Bool), v = .bool true ∧ St g (cel p #[.slice da (List.length (sls (AM.dmp A))) dc, .slice fa (List.length (u32s (SM.order A.s))) fc, .int .i64 last2, .bool any2, .int .i64 (most - (t.n : Int))] 257 :: Sh 174 11 (sls (AM.dmp A)) da dc :: L) w' ∧ (any2 = true → (any = true ∧ last2 = last) ∨ ∃ x ∈ t.ls, x.1 = last2)) := by
  refine Sp.enter Tryz.func152 rfl (by kernel_rfl) (by kernel_rfl) ?_
  have _ := hm
  refine WC.seq <| WC.region <| WL.r 1 rfl <| WL.nil <| WC.seq <| WC.seq <| WC.region ?_
  have hx0 := Is.nil_iff hi; have hir := is_rng hA hi
  refine WL.r 2 rfl <| WL.nil <| WC.ifP rfl (fun hx => ?_) (fun hx => ?_)
  · refine WC.seq <| WC.region <| WL.r 1 rfl <| WL.nil <| WC.ret ?_
    refine ⟨[.bool true], rfl, ?_⟩
    have h9 := hx0.1 hx; subst h9; rw [show most = most - ((Tr.n .nil : Nat) : Int) from (Int.sub_zero _).symm] at hS; exact ⟨last, any, rfl, hS, fun h => .inl ⟨h, rfl⟩⟩
  · refine WC.skip <| WC.seq <| WC.seq <| WC.region ?_
    obtain ⟨tl, k, z, tr, ht⟩ := nil_or (t := t) (fun e => hx (hx0.2 e)); have htn : t.n = tl.n + tr.n + 1 := (by rw [ht]; rfl); have hi2 : Is A (.node tl k z tr) i := ht ▸ hi; have e7 : ndD A i = A.nd i := ndD_ok hi2.2.1; have hk7 : (ndD A i).key = k := (by rw [e7]; exact hi2.2.2.1); have hs7 := srt_node (ht ▸ hs); have hls : t.ls = tl.ls ++ (k, z) :: tr.ls := (by rw [ht]; rfl); have hl7 : Is A tl (ndD A i).lf := (by rw [e7]; exact hi2.2.2.2.2.1); have hr7 : Is A tr (ndD A i).rg := (by rw [e7]; exact hi2.2.2.2.2.2); have hlr := is_rng hA hl7; have hrr := is_rng hA hr7
    refine WL.run 5 [.int .i64 most] rfl (by exact hS.ld 0 rfl rfl) ?_
    refine WL.nil <| WC.ifF rfl (decide_eq_false ((by omega))) ?_
    refine WC.skip <| WC.seq <| WC.region <| WL.run 5 [.int .i64 most] rfl (by exact hS.ld 0 rfl rfl) ?_
    refine WL.nw 17 rfl (w64 (by omega)) ?_
    refine WL.r 2 rfl <| WL.st rfl rfl rfl 0 hS rfl rfl rfl rfl rfl rfl (fun w hS => ?_)
    replace hS := hS.n2 L (a0 := cel p #[.slice da (List.length (sls (AM.dmp A))) dc, .slice fa (List.length (u32s (SM.order A.s))) fc, .int .i64 last, .bool any, .int .i64 (most - 1)] 257) rfl
    refine WL.nil ?_
    as_aux_lemma =>
    refine WC.seq <| WC.region <| WL.r 3 rfl <| WL.ldC rfl rfl [.slice da (List.length (sls (AM.dmp A))) dc, .slice fa (List.length (u32s (SM.order A.s))) fc] ag_62 rfl (hS.part 0 rfl rfl) <| WL.r 1 rfl <| WL.call rfl rfl (t7_node (A := A) (fa := fa) (fc := fc) (i := i) (hA := hA) (hi := (by omega)) (hS := (hS.sel 2 [1, 0] rfl))) rfl ?_
    clear hS; rintro _ w ⟨rfl, hS⟩
    replace hS := hS.n2 L rfl
    refine WL.new rfl rfl zv_172 hS (fun b1 w hS => ?_)
    refine WL.stF rfl rfl rfl 0 hS rfl rfl rfl rfl rfl ag_172 (fun w hS => ?_)
    replace hS := hS.n3 L (a0 := cel b1 #[.int .i64 (ndD A i).key, .int .i64 (ndD A i).val, .int .u32 (ndD A i).lf, .int .u32 (ndD A i).rg, .int .i64 (ndD A i).size, .int .i64 (ndD A i).sum, .int .i64 (ndD A i).mn, .int .i64 (ndD A i).mx] 172) rfl
    refine WL.nil <| WC.seq <| WC.seq <| WC.region <| WL.run 3 [.int .u32 (ndD A i).lf] rfl (by exact hS.ld 0 rfl rfl) ?_
    refine WL.call rfl rfl (ih (tl.n) (by omega) _ _ _ A R da fa dc fc p (ndD A i).lf last (most - 1) any tl (hA) (hl7) (hs7.1) ((fun h x hx => hl h x (by rw [hls]; exact List.mem_append_left _ hx))) ((by omega)) rfl (hS.sel 3 [2, 1, 0] rfl)) rfl ?_
    clear hS; rintro _ w ⟨last1, any1, rfl, hS, f1⟩
    replace hS := hS.n3 L (a0 := cel p #[.slice da (List.length (sls (AM.dmp A))) dc, .slice fa (List.length (u32s (SM.order A.s))) fc, .int .i64 last1, .bool any1, .int .i64 ((most - 1) - (tl.n : Int))] 257) rfl
    refine WL.r 1 rfl <| WL.nil <| WC.ifF rfl rfl <| WC.skip <| WC.seq <| WC.seq <| WC.plan [([0, 1, 2, 3, 4, 5, 7, 6, 8, 9, 10, 11, 12], none)] (by kernel_rfl) (by kernel_rfl) ?_
    refine WQ.run 4 [.bool any1] rfl (by exact hS.ld 0 rfl rfl) ?_
    refine WQ.runG 9 [.int .i64 (ndD A i).key, .int .i64 last1] rfl (by exact ⟨fun _ => hS.ld 2 rfl rfl, fun _ => hS.ld 0 rfl rfl⟩) (fun j => ?_)
    refine WQ.prop 43 rfl (band (dv _) (dd _)) <| WQ.nil ?_
    intro m1
    replace hS := hS.drewN m1; generalize hwm1 : World.drewN _ _ = w at *; clear hwm1
    as_aux_lemma =>
    refine WC.ifF rfl (decide_eq_false ((fun h9 => by rw [hk7] at h9; exact (f1 h9.1).elim (fun ⟨h1, h2⟩ => by have h3 : last < k := hl h1 (k, z) (by rw [hls]; simp); omega) (fun ⟨x, hx, h2⟩ => by have := hs7.2.2.1 x hx; omega)))) ?_
    refine WC.skip <| WC.seq <| WC.region <| WL.run 6 [.int .i64 (ndD A i).key] rfl (by exact hS.ld 2 rfl rfl) ?_
    refine WL.st rfl rfl rfl 0 hS rfl rfl rfl rfl rfl rfl (fun w hS => ?_)
    replace hS := hS.n3 L (a0 := cel p #[.slice da (List.length (sls (AM.dmp A))) dc, .slice fa (List.length (u32s (SM.order A.s))) fc, .int .i64 (ndD A i).key, .bool any1, .int .i64 ((most - 1) - (tl.n : Int))] 257) rfl
    refine WL.r 2 rfl <| WL.st rfl rfl rfl 0 hS rfl rfl rfl rfl rfl rfl (fun w hS => ?_)
    replace hS := hS.n3 L (a0 := cel p #[.slice da (List.length (sls (AM.dmp A))) dc, .slice fa (List.length (u32s (SM.order A.s))) fc, .int .i64 (ndD A i).key, .bool true, .int .i64 ((most - 1) - (tl.n : Int))] 257) rfl
    refine WL.nil <| WC.seq <| WC.region <| WL.run 3 [.int .u32 (ndD A i).rg] rfl (by exact hS.ld 2 rfl rfl) ?_
    refine WL.call rfl rfl (ih (tr.n) (by omega) _ _ _ A R da fa dc fc p (ndD A i).rg (ndD A i).key ((most - 1) - (tl.n : Int)) true tr (hA) (hr7) (hs7.2.1) ((fun _ x hx => by rw [hk7]; exact hs7.2.2.2 x hx)) ((by omega)) rfl hS) rfl ?_
    clear hS; rintro _ w ⟨last2, any2, rfl, hS, f2⟩
    replace hS := hS.n3 L (a0 := cel p #[.slice da (List.length (sls (AM.dmp A))) dc, .slice fa (List.length (u32s (SM.order A.s))) fc, .int .i64 last2, .bool any2, .int .i64 (((most - 1) - (tl.n : Int)) - (tr.n : Int))] 257) rfl
    refine WL.r 1 rfl <| WL.nil <| WC.ret ?_
    refine ⟨[.bool true], rfl, ?_⟩
    replace hS := (hS.sel 3 [0, 0] rfl)
    rw [show most - 1 - (tl.n : Int) - (tr.n : Int) = most - (t.n : Int) by omega] at hS; exact ⟨_, _, rfl, hS, fun h => .inr ((f2 h).elim (fun ⟨_, h2⟩ => ⟨(k, z), by rw [hls]; simp, by rw [h2, hk7]⟩) (fun ⟨x, hx, h2⟩ => ⟨x, by rw [hls]; exact List.mem_append_right _ (List.mem_cons_of_mem _ hx), h2⟩))⟩
theorem t7_ord_all (nM : Nat) : ∀ (g w : World) (L : List HP) (A : AM) (R : List Int) (da fa : Option Addr) (dc fc : Nat) (p : Nat) (i last most : Int) (any : Bool) (t : Tr), (ARf A R) → (Is A t i) → (Srt t.ls) → (any = true → ∀ x ∈ t.ls, last < x.1) → ((t.n : Int) ≤ most ∧ most ≤ 1000000) → t.n = nM → St g (cel p #[.slice da (List.length (sls (AM.dmp A))) dc, .slice fa (List.length (u32s (SM.order A.s))) fc, .int .i64 last, .bool any, .int .i64 most] 257 :: Sh 174 11 (sls (AM.dmp A)) da dc :: L) w → Sp Tryz.prog 152 [.pointer (some ⟨p, 0, none⟩), .int .u32 i] w (fun v w' => ∃ (last2 : Int) (any2 : Bool), v = .bool true ∧ St g (cel p #[.slice da (List.length (sls (AM.dmp A))) dc, .slice fa (List.length (u32s (SM.order A.s))) fc, .int .i64 last2, .bool any2, .int .i64 (most - (t.n : Int))] 257 :: Sh 174 11 (sls (AM.dmp A)) da dc :: L) w' ∧ (any2 = true → (any = true ∧ last2 = last) ∨ ∃ x ∈ t.ls, x.1 = last2)) := by
  induction nM using Nat.strongRecOn with
  | _ nM ih => intro g w L A R da fa dc fc p i last most any t hA hi hs hl hm hM hS; exact t7_ord_step nM ih A R da fa dc fc p i last most any t hA hi hs hl hm hM hS
theorem t7_ord {g w : World} {L : List HP} (A : AM) (R : List Int) (da fa : Option Addr) (dc fc : Nat) (p : Nat) (i last most : Int) (any : Bool) (t : Tr) (hA : ARf A R) (hi : Is A t i) (hs : Srt t.ls) (hl : any = true → ∀ x ∈ t.ls, last < x.1) (hm : (t.n : Int) ≤ most ∧ most ≤ 1000000) (hS : St g (cel p #[.slice da (List.length (sls (AM.dmp A))) dc, .slice fa (List.length (u32s (SM.order A.s))) fc, .int .i64 last, .bool any, .int .i64 most] 257 :: Sh 174 11 (sls (AM.dmp A)) da dc :: L) w) :
    Sp Tryz.prog 152 [.pointer (some ⟨p, 0, none⟩), .int .u32 i] w (fun v w' => ∃ (last2 : Int) (any2 : Bool), v = .bool true ∧ St g (cel p #[.slice da (List.length (sls (AM.dmp A))) dc, .slice fa (List.length (u32s (SM.order A.s))) fc, .int .i64 last2, .bool any2, .int .i64 (most - (t.n : Int))] 257 :: Sh 174 11 (sls (AM.dmp A)) da dc :: L) w' ∧ (any2 = true → (any = true ∧ last2 = last) ∨ ∃ x ∈ t.ls, x.1 = last2)) := t7_ord_all _ g w L A R da fa dc fc p i last most any t hA hi hs hl hm rfl hS
set_option maxHeartbeats 1000000 in
set_option maxRecDepth 8192 in
theorem t7_bal_step (nM : Nat) (ih : ∀ mM : Nat, mM < nM → ∀ (g w : World) (L : List HP) (A : AM) (R : List Int) (da fa : Option Addr) (dc fc : Nat) (i : Int) (t : Tr), (ARf A R) → (Is A t i) → (t.ok) → t.n = mM → St g (Sh 174 11 (sls (AM.dmp A)) da dc :: L) w → Sp Tryz.prog 153 [.agg #[.slice da (List.length (sls (AM.dmp A))) dc, .slice fa (List.length (u32s (SM.order A.s))) fc], .int .u32 i] w (fun v w' => v = .bool true ∧ St g (Sh 174 11 (sls (AM.dmp A)) da dc :: L) w')) {g w : World} {L : List HP} (A : AM) (R : List Int) (da fa : Option Addr) (dc fc : Nat) (i : Int) (t : Tr) (hA : ARf A R) (hi : Is A t i) (hb : t.ok) (hM : t.n = nM) (hS : St g (Sh 174 11 (sls (AM.dmp A)) da dc :: L) w) :
    Sp Tryz.prog 153 [.agg #[.slice da (List.length (sls (AM.dmp A))) dc, .slice fa (List.length (u32s (SM.order A.s))) fc], .int .u32 i] w (fun v w' => v = .bool true ∧ St g (Sh 174 11 (sls (AM.dmp A)) da dc :: L) w') := by
  refine Sp.enter Tryz.func153 rfl (by kernel_rfl) (by kernel_rfl) ?_
  refine WC.seq <| WC.region <| WL.box rfl rfl #[.slice da (List.length (sls (AM.dmp A))) dc, .slice fa (List.length (u32s (SM.order A.s))) fc] hS rfl rfl (fun b1 w hS => ?_)
  refine WL.r 1 rfl <| WL.nil <| WC.seq <| WC.seq <| WC.region ?_
  have hx0 := Is.nil_iff hi; have hir := is_rng hA hi
  refine WL.r 2 rfl <| WL.nil <| WC.ifP rfl (fun hx => ?_) (fun hx => ?_)
  · refine WC.seq <| WC.region <| WL.r 1 rfl <| WL.nil <| WC.ret ?_
    refine ⟨[.bool true], rfl, ?_⟩
    replace hS := (hS.sel 1 [] rfl)
    exact ⟨rfl, hS⟩
  · refine WC.skip <| WC.seq <| WC.region ?_
    obtain ⟨tl, k, z, tr, ht⟩ := nil_or (t := t) (fun e => hx (hx0.2 e)); have htn : t.n = tl.n + tr.n + 1 := (by rw [ht]; rfl); have hi2 : Is A (.node tl k z tr) i := ht ▸ hi; have e7 : ndD A i = A.nd i := ndD_ok hi2.2.1; have hl7 : Is A tl (ndD A i).lf := (by rw [e7]; exact hi2.2.2.2.2.1); have hr7 : Is A tr (ndD A i).rg := (by rw [e7]; exact hi2.2.2.2.2.2); have hlr := is_rng hA hl7; have hrr := is_rng hA hr7; have hb7 : Bal tl.n tr.n ∧ tl.ok ∧ tr.ok := (by rw [ht] at hb; exact hb); have hlz : (ndD A (ndD A i).lf).size = (tl.n : Int) := (by rw [ndD_sz, Is.sz hA tl _ hl7]); have hrz : (ndD A (ndD A i).rg).size = (tr.n : Int) := (by rw [ndD_sz, Is.sz hA tr _ hr7]); have hnn := is_n hA hi
    refine WL.ldF rfl rfl 0 hS rfl rfl ag_62 <| WL.r 1 rfl <| WL.call rfl rfl (t7_node (A := A) (fa := fa) (fc := fc) (i := i) (hA := hA) (hi := (by omega)) (hS := (hS.sel 2 [1, 0] rfl))) rfl ?_
    clear hS; rintro _ w ⟨rfl, hS⟩
    replace hS := hS.n2 L (a1 := cel b1 #[.slice da (List.length (sls (AM.dmp A))) dc, .slice fa (List.length (u32s (SM.order A.s))) fc] 62) rfl
    refine WL.new rfl rfl zv_172 hS (fun b2 w hS => ?_)
    refine WL.stF rfl rfl rfl 0 hS rfl rfl rfl rfl rfl ag_172 (fun w hS => ?_)
    replace hS := hS.n3 L (a0 := cel b2 #[.int .i64 (ndD A i).key, .int .i64 (ndD A i).val, .int .u32 (ndD A i).lf, .int .u32 (ndD A i).rg, .int .i64 (ndD A i).size, .int .i64 (ndD A i).sum, .int .i64 (ndD A i).mn, .int .i64 (ndD A i).mx] 172) rfl
    refine WL.nil ?_
    as_aux_lemma =>
    refine WC.seq <| WC.plan [([0, 1, 5, 6, 2, 7], some (3, [5, 6, 7])), ([4], some (8, [4])), ([9], some (10, [])), ([11, 12, 13, 14], some (15, [])), ([16, 17, 18, 19, 20], some (21, [])), ([22, 23], none)] (by kernel_rfl) (by kernel_rfl) ?_
    refine WQ.ldF rfl rfl 2 hS rfl rfl ag_62 <| WQ.r 1 rfl <| WQ.ldF rfl rfl 2 hS rfl rfl ag_62 <| WQ.run 3 [.int .u32 (ndD A i).lf, .int .u32 (ndD A i).rg] rfl (by exact ⟨hS.ld 0 rfl rfl, hS.ld 0 rfl rfl⟩) ?_
    refine WQ.nil ?_
    intro m1
    replace hS := hS.drewN m1; generalize hwm1 : World.drewN _ _ = w at *; clear hwm1
    refine WL.call rfl rfl (t7_node (A := A) (R := R) (fa := fa) (fc := fc) (i := (ndD A i).lf) (hA := hA) (hi := (by omega)) (hS := (hS.sel 2 [1, 0] rfl))) rfl ?_
    clear hS; rintro _ w ⟨rfl, hS⟩
    replace hS := hS.n3 L rfl
    refine WL.nil ?_
    refine ⟨by exact ⟨RQ.ldF rfl rfl 2 hS rfl rfl ag_62 rfl rfl, RQ.pure rfl rfl rfl rfl, RQ.load rfl rfl rfl rfl (hS.ld 1 rfl rfl)⟩, ?_⟩
    refine WQ.r 1 rfl <| WQ.nil ?_
    intro m2
    replace hS := hS.drewN m2; generalize hwm2 : World.drewN _ _ = w at *; clear hwm2
    refine WL.call rfl rfl (t7_node (A := A) (R := R) (fa := fa) (fc := fc) (i := (ndD A i).rg) (hA := hA) (hi := (by omega)) (hS := hS)) rfl ?_
    clear hS; rintro _ w ⟨rfl, hS⟩
    replace hS := hS.n3 L rfl
    refine WL.nil ?_
    refine ⟨by exact RQ.pure rfl rfl rfl rfl, ?_⟩
    refine WQ.r 1 rfl <| WQ.nil ?_
    intro m3
    replace hS := hS.drewN m3; generalize hwm3 : World.drewN _ _ = w at *; clear hwm3
    refine WL.call rfl rfl (kb_bal (x := (ndD A (ndD A i).lf).size) (y := (ndD A (ndD A i).rg).size) (hx := (by omega)) (hy := (by omega)) (hS := hS)) rfl ?_
    clear hS; rintro _ w ⟨rfl, hS⟩
    replace hS := hS.n3 L rfl
    refine WL.nil ?_
    refine ⟨by exact trivial, ?_⟩
    refine WQ.r 1 rfl <| WQ.reb 22 (.bool true) (congrArg Value.bool (decide_eq_true ((by rw [hlz, hrz]; have h8 := hb7.1; unfold Bal at h8; omega)))) ?_
    refine WQ.ung rfl rfl rfl <| WQ.ldF rfl rfl 2 hS rfl rfl ag_62 <| WQ.ung rfl rfl rfl <| WQ.r 1 rfl <| WQ.ung rfl rfl rfl <| WQ.run 1 [.int .u32 (ndD A i).lf] rfl (by exact hS.ld 1 rfl rfl) ?_
    refine WQ.nil ?_
    intro m4
    replace hS := hS.drewN m4; generalize hwm4 : World.drewN _ _ = w at *; clear hwm4
    refine WL.ung rfl rfl rfl <| WL.call rfl rfl (ih (tl.n) (by omega) _ _ _ A R da fa dc fc (ndD A i).lf tl (hA) (hl7) (hb7.2.1) rfl hS) rfl ?_
    clear hS; rintro _ w ⟨rfl, hS⟩
    replace hS := hS.n3 L rfl
    refine WL.nil ?_
    refine ⟨by exact trivial, ?_⟩
    refine WQ.r 2 rfl <| WQ.ung rfl rfl rfl <| WQ.ldF rfl rfl 2 hS rfl rfl ag_62 <| WQ.ung rfl rfl rfl <| WQ.r 1 rfl <| WQ.ung rfl rfl rfl <| WQ.run 1 [.int .u32 (ndD A i).rg] rfl (by exact hS.ld 1 rfl rfl) ?_
    refine WQ.nil ?_
    intro m5
    replace hS := hS.drewN m5; generalize hwm5 : World.drewN _ _ = w at *; clear hwm5
    refine WL.ung rfl rfl rfl <| WL.call rfl rfl (ih (tr.n) (by omega) _ _ _ A R da fa dc fc (ndD A i).rg tr (hA) (hr7) (hb7.2.2) rfl hS) rfl ?_
    clear hS; rintro _ w ⟨rfl, hS⟩
    replace hS := hS.n3 L rfl
    refine WL.nil ?_
    refine ⟨by exact trivial, ?_⟩
    refine WQ.r 2 rfl <| WQ.nil ?_
    intro m6
    replace hS := hS.drewN m6; generalize hwm6 : World.drewN _ _ = w at *; clear hwm6
    as_aux_lemma =>
    refine WC.ret ?_
    refine ⟨[.bool true], rfl, ?_⟩
    replace hS := (hS.sel 3 [0] rfl)
    exact ⟨rfl, hS⟩
theorem t7_bal_all (nM : Nat) : ∀ (g w : World) (L : List HP) (A : AM) (R : List Int) (da fa : Option Addr) (dc fc : Nat) (i : Int) (t : Tr), (ARf A R) → (Is A t i) → (t.ok) → t.n = nM → St g (Sh 174 11 (sls (AM.dmp A)) da dc :: L) w → Sp Tryz.prog 153 [.agg #[.slice da (List.length (sls (AM.dmp A))) dc, .slice fa (List.length (u32s (SM.order A.s))) fc], .int .u32 i] w (fun v w' => v = .bool true ∧ St g (Sh 174 11 (sls (AM.dmp A)) da dc :: L) w') := by
  induction nM using Nat.strongRecOn with
  | _ nM ih => intro g w L A R da fa dc fc i t hA hi hb hM hS; exact t7_bal_step nM ih A R da fa dc fc i t hA hi hb hM hS
theorem t7_bal {g w : World} {L : List HP} (A : AM) (R : List Int) (da fa : Option Addr) (dc fc : Nat) (i : Int) (t : Tr) (hA : ARf A R) (hi : Is A t i) (hb : t.ok) (hS : St g (Sh 174 11 (sls (AM.dmp A)) da dc :: L) w) :
    Sp Tryz.prog 153 [.agg #[.slice da (List.length (sls (AM.dmp A))) dc, .slice fa (List.length (u32s (SM.order A.s))) fc], .int .u32 i] w (fun v w' => v = .bool true ∧ St g (Sh 174 11 (sls (AM.dmp A)) da dc :: L) w') := t7_bal_all _ g w L A R da fa dc fc i t hA hi hb rfl hS
set_option maxRecDepth 8192 in
theorem t7_check {g w : World} {L : List HP} (A : AM) (R : List Int) (da fa : Option Addr) (dc fc : Nat) (i : Int) (t : Tr) (hA : ARf A R) (hi : Is A t i) (hs : Srt t.ls) (hb : t.ok) (hS : St g (Sh 174 11 (sls (AM.dmp A)) da dc :: L) w) :
    Sp Tryz.prog 85 [.agg #[.slice da (List.length (sls (AM.dmp A))) dc, .slice fa (List.length (u32s (SM.order A.s))) fc], .int .u32 i] w (fun v w' => v = .int .i64 0 ∧ St g (Sh 174 11 (sls (AM.dmp A)) da dc :: L) w') := by
  refine Sp.enter Tryz.func85 rfl (by kernel_rfl) (by kernel_rfl) ?_
  refine WC.seq <| WC.region <| WL.box rfl rfl #[.slice da (List.length (sls (AM.dmp A))) dc, .slice fa (List.length (u32s (SM.order A.s))) fc] hS rfl rfl (fun b1 w hS => ?_)
  refine WL.r 1 rfl <| WL.nil <| WC.seq <| WC.seq <| WC.region ?_
  have hir := is_rng hA hi; have hn := dmp_n A; have hcr := cap_rng hA; have htc := tn_cap hA hi hs; have hrf := hi.ref
  refine WL.r 3 rfl ?_
  by_cases cg1 : i ≠ 0
  · refine WL.reb 8 (.bool true) (congrArg Value.bool (decide_eq_true cg1)) <| WL.ung rfl rfl rfl <| WL.ldF rfl rfl 0 hS rfl rfl ag_62 <| WL.ung rfl rfl rfl <| WL.r 1 rfl <| WL.ung rfl rfl rfl <| WL.call rfl rfl (c6_alloc (A := A) (fa := fa) (fc := fc) (i := i) (hA := hA) (hi := (by omega)) (hS := (hS.sel 2 [1, 0] rfl))) rfl ?_
    clear hS; rintro _ w ⟨b2, rfl, hS, f1⟩
    replace hS := hS.n2 L (a1 := cel b1 #[.slice da (List.length (sls (AM.dmp A))) dc, .slice fa (List.length (u32s (SM.order A.s))) fc] 62) rfl
    refine WL.ung rfl rfl rfl <| WL.r 1 rfl <| WL.r 1 rfl <| WL.nil ?_
    as_aux_lemma =>
    refine WC.ifF rfl (by have h9 := (hrf.resolve_left cg1).2; rw [← f1] at h9; rw [h9]; rfl) ?_
    refine WC.skip <| WC.seq <| WC.region <| WL.ldF rfl rfl 1 hS rfl rfl ag_62 <| WL.run 4 [.slice da (List.length (sls (AM.dmp A))) dc] rfl (by exact hS.ld 1 rfl rfl) ?_
    refine WL.nw 18 rfl (w64 (by omega)) ?_
    refine WL.r 1 rfl <| WL.nw 19 rfl (w64 (by omega)) ?_
    refine WL.build rfl rfl (cs := [.slice da (List.length (sls (AM.dmp A))) dc, .slice fa (List.length (u32s (SM.order A.s))) fc, .int .i64 0, .bool false, .int .i64 ((2 * (List.length (sls (AM.dmp A)) : Int)) + 2)]) zv_257 rfl rfl <| WL.box rfl rfl #[.slice da (List.length (sls (AM.dmp A))) dc, .slice fa (List.length (u32s (SM.order A.s))) fc, .int .i64 0, .bool false, .int .i64 ((2 * (List.length (sls (AM.dmp A)) : Int)) + 2)] hS rfl rfl (fun b3 w hS => ?_)
    refine WL.r 1 rfl <| WL.nil <| WC.seq <| WC.seq <| WC.region <| WL.r 2 rfl <| WL.call rfl rfl (t7_ord (A := A) (R := R) (fa := fa) (fc := fc) (i := i) (last := 0) (most := (2 * (List.length (sls (AM.dmp A)) : Int)) + 2) (any := false) (t := t) (hA := hA) (hi := hi) (hs := hs) (hl := (fun h => by cases h)) (hm := (by omega)) (hS := hS)) rfl ?_
    clear hS; rintro _ w ⟨last1, any1, rfl, hS, f2⟩
    replace hS := hS.n3 L (a0 := cel b3 #[.slice da (List.length (sls (AM.dmp A))) dc, .slice fa (List.length (u32s (SM.order A.s))) fc, .int .i64 last1, .bool any1, .int .i64 (((2 * (List.length (sls (AM.dmp A)) : Int)) + 2) - (t.n : Int))] 257) rfl
    refine WL.r 1 rfl <| WL.nil <| WC.ifF rfl rfl <| WC.skip <| WC.seq <| WC.seq <| WC.region <| WL.ldF rfl rfl 2 hS rfl rfl ag_62 <| WL.r 1 rfl <| WL.call rfl rfl (t7_bal (A := A) (fa := fa) (fc := fc) (i := i) (t := t) (hA := hA) (hi := hi) (hb := hb) (hS := (hS.sel 2 [1, 0] rfl))) rfl ?_
    clear hS; rintro _ w ⟨rfl, hS⟩
    replace hS := hS.n3 L rfl
    refine WL.r 1 rfl <| WL.nil ?_
    as_aux_lemma =>
    refine WC.ifF rfl rfl <| WC.skip <| WC.seq <| WC.region <| WL.r 1 rfl <| WL.nil <| WC.ret ?_
    refine ⟨[.int .i64 0], rfl, ?_⟩
    replace hS := (hS.sel 3 [0] rfl)
    exact ⟨rfl, hS⟩
  · refine WL.reb 8 (.bool false) (congrArg Value.bool (decide_eq_false cg1)) <| WL.skp rfl rfl rfl rfl <| WL.skp rfl rfl rfl rfl <| WL.skp rfl rfl rfl rfl <| WL.skp rfl rfl rfl rfl <| WL.r 1 rfl <| WL.nil <| WC.ifF rfl rfl <| WC.skip <| WC.seq <| WC.region <| WL.ldF rfl rfl 0 hS rfl rfl ag_62 ?_
    refine WL.run 4 [.slice da (List.length (sls (AM.dmp A))) dc] rfl (by exact hS.ld 0 rfl rfl) ?_
    refine WL.nw 18 rfl (w64 (by omega)) ?_
    refine WL.r 1 rfl <| WL.nw 19 rfl (w64 (by omega)) ?_
    refine WL.build rfl rfl (cs := [.slice da (List.length (sls (AM.dmp A))) dc, .slice fa (List.length (u32s (SM.order A.s))) fc, .int .i64 0, .bool false, .int .i64 ((2 * (List.length (sls (AM.dmp A)) : Int)) + 2)]) zv_257 rfl rfl <| WL.box rfl rfl #[.slice da (List.length (sls (AM.dmp A))) dc, .slice fa (List.length (u32s (SM.order A.s))) fc, .int .i64 0, .bool false, .int .i64 ((2 * (List.length (sls (AM.dmp A)) : Int)) + 2)] hS rfl rfl (fun b2 w hS => ?_)
    refine WL.r 1 rfl <| WL.nil ?_
    as_aux_lemma =>
    refine WC.seq <| WC.seq <| WC.region <| WL.r 2 rfl <| WL.call rfl rfl (t7_ord (A := A) (R := R) (fa := fa) (fc := fc) (i := i) (last := 0) (most := (2 * (List.length (sls (AM.dmp A)) : Int)) + 2) (any := false) (t := t) (hA := hA) (hi := hi) (hs := hs) (hl := (fun h => by cases h)) (hm := (by omega)) (hS := (hS.sel 3 [0, 1, 0] rfl))) rfl ?_
    clear hS; rintro _ w ⟨last1, any1, rfl, hS, f1⟩
    replace hS := hS.n3 L (a0 := cel b2 #[.slice da (List.length (sls (AM.dmp A))) dc, .slice fa (List.length (u32s (SM.order A.s))) fc, .int .i64 last1, .bool any1, .int .i64 (((2 * (List.length (sls (AM.dmp A)) : Int)) + 2) - (t.n : Int))] 257) (a2 := cel b1 #[.slice da (List.length (sls (AM.dmp A))) dc, .slice fa (List.length (u32s (SM.order A.s))) fc] 62) rfl
    refine WL.r 1 rfl <| WL.nil <| WC.ifF rfl rfl <| WC.skip <| WC.seq <| WC.seq <| WC.region <| WL.ldF rfl rfl 2 hS rfl rfl ag_62 <| WL.r 1 rfl <| WL.call rfl rfl (t7_bal (A := A) (fa := fa) (fc := fc) (i := i) (t := t) (hA := hA) (hi := hi) (hb := hb) (hS := (hS.sel 2 [1, 0] rfl))) rfl ?_
    clear hS; rintro _ w ⟨rfl, hS⟩
    replace hS := hS.n3 L rfl
    refine WL.r 1 rfl <| WL.nil <| WC.ifF rfl rfl <| WC.skip <| WC.seq <| WC.region <| WL.r 1 rfl <| WL.nil ?_
    as_aux_lemma =>
    refine WC.ret ?_
    refine ⟨[.int .i64 0], rfl, ?_⟩
    replace hS := (hS.sel 3 [0] rfl)
    exact ⟨rfl, hS⟩
set_option maxHeartbeats 1000000 in
set_option maxRecDepth 8192 in
theorem t7_list_step (nM : Nat) (ih : ∀ mM : Nat, mM < nM → ∀ (g w : World) (L : List HP) (A : AM) (R : List Int) (da fa : Option Addr) (dc fc : Nat) (i : Int) (t : Tr), (ARf A R) → (Is A t i) → (t.n ≤ 1000000) → t.n = mM → St g (Sh 174 11 (sls (AM.dmp A)) da dc :: L) w → Sp Tryz.prog 87 [.agg #[.slice da (List.length (sls (AM.dmp A))) dc, .slice fa (List.length (u32s (SM.order A.s))) fc], .int .u32 i] w (fun v w' => ∃ (u : Option Addr) (d : Nat), v = .slice u (List.length (en2 t.ls)) d ∧ St g (Own 121 2 (en2 t.ls) u d :: Sh 174 11 (sls (AM.dmp A)) da dc :: L) w')) {g w : World} {L : List HP} (A : AM) (R : List Int) (da fa : Option Addr) (dc fc : Nat) (i : Int) (t : Tr) (hA : ARf A R) (hi : Is A t i) (hn : t.n ≤ 1000000) (hM : t.n = nM) (hS : St g (Sh 174 11 (sls (AM.dmp A)) da dc :: L) w) :
    Sp Tryz.prog 87 [.agg #[.slice da (List.length (sls (AM.dmp A))) dc, .slice fa (List.length (u32s (SM.order A.s))) fc], .int .u32 i] w (fun v w' => ∃ (u : Option Addr) (d : Nat), v = .slice u (List.length (en2 t.ls)) d ∧ St g (Own 121 2 (en2 t.ls) u d :: Sh 174 11 (sls (AM.dmp A)) da dc :: L) w') := by
  refine Sp.enter Tryz.func87 rfl (by kernel_rfl) (by kernel_rfl) ?_
  have _ := hn
  refine WC.seq <| WC.region <| WL.box rfl rfl #[.slice da (List.length (sls (AM.dmp A))) dc, .slice fa (List.length (u32s (SM.order A.s))) fc] hS rfl rfl (fun b1 w hS => ?_)
  refine WL.r 1 rfl <| WL.nil <| WC.seq <| WC.seq <| WC.region ?_
  have hx0 := Is.nil_iff hi; have hir := is_rng hA hi
  refine WL.r 2 rfl <| WL.nil <| WC.ifP rfl (fun hx => ?_) (fun hx => ?_)
  · refine WC.seq <| WC.region ?_
    replace hS : St g (Own 121 2 (en2 []) none 0 :: cel b1 #[.slice da (List.length (sls (AM.dmp A))) dc, .slice fa (List.length (u32s (SM.order A.s))) fc] 62 :: Sh 174 11 (sls (AM.dmp A)) da dc :: L) w := hS.nil_ 121 2
    refine WL.r 1 rfl <| WL.nil <| WC.ret ?_
    refine ⟨[.slice none 0 0], rfl, ?_⟩
    replace hS := (hS.sel 2 [0] rfl)
    have h9 := hx0.1 hx; subst h9; exact ⟨none, 0, rfl, hS⟩
  · refine WC.skip <| WC.seq <| WC.region ?_
    obtain ⟨tl, k, z, tr, ht⟩ := nil_or (t := t) (fun e => hx (hx0.2 e)); have htn : t.n = tl.n + tr.n + 1 := (by rw [ht]; rfl); have hi2 : Is A (.node tl k z tr) i := ht ▸ hi; have e7 : ndD A i = A.nd i := ndD_ok hi2.2.1; have hl7 : Is A tl (ndD A i).lf := (by rw [e7]; exact hi2.2.2.2.2.1); have hr7 : Is A tr (ndD A i).rg := (by rw [e7]; exact hi2.2.2.2.2.2); have hlr := is_rng hA hl7; have hrr := is_rng hA hr7; have hle := en2_len tl.ls; have hll := Tr.ls_len tl; have hre := en2_len tr.ls; have hrl := Tr.ls_len tr
    refine WL.ldF rfl rfl 0 hS rfl rfl ag_62 <| WL.r 1 rfl <| WL.call rfl rfl (t7_node (A := A) (fa := fa) (fc := fc) (i := i) (hA := hA) (hi := (by omega)) (hS := (hS.sel 2 [1, 0] rfl))) rfl ?_
    clear hS; rintro _ w ⟨rfl, hS⟩
    replace hS := hS.n2 L (a1 := cel b1 #[.slice da (List.length (sls (AM.dmp A))) dc, .slice fa (List.length (u32s (SM.order A.s))) fc] 62) rfl
    refine WL.new rfl rfl zv_172 hS (fun b2 w hS => ?_)
    refine WL.stF rfl rfl rfl 0 hS rfl rfl rfl rfl rfl ag_172 (fun w hS => ?_)
    replace hS := hS.n3 L (a0 := cel b2 #[.int .i64 (ndD A i).key, .int .i64 (ndD A i).val, .int .u32 (ndD A i).lf, .int .u32 (ndD A i).rg, .int .i64 (ndD A i).size, .int .i64 (ndD A i).sum, .int .i64 (ndD A i).mn, .int .i64 (ndD A i).mx] 172) rfl
    refine WL.nil ?_
    as_aux_lemma =>
    refine WC.seq <| WC.tree (.two [0, 1, 4, 6, 2, 5, 7, 8] 3 [4, 5, 6, 7, 8] (.one [] 9 [0, 1, 2] (.one [] 10 [] (.seg [11] .nil))) 9 [0, 1, 2] (.one [] 3 [4, 5, 6, 7, 8] (.one [] 10 [] (.seg [11] .nil)))) (by kernel_rfl) (by kernel_rfl) ?_
    refine WQ.ldF rfl rfl 2 hS rfl rfl ag_62 <| WQ.run 6 [.int .u32 (ndD A i).lf, .int .i64 (ndD A i).key, .int .i64 (ndD A i).val] rfl (by exact ⟨hS.ld 0 rfl rfl, hS.ld 0 rfl rfl, hS.ld 0 rfl rfl⟩) ?_
    refine WQ.build rfl rfl (cs := [.int .i64 (ndD A i).key, .int .i64 (ndD A i).val]) zv_121 rfl rfl <| WQ.nil ?_
    intro m1
    replace hS := hS.drewN m1; generalize hwm1 : World.drewN _ _ = w at *; clear hwm1
    refine ⟨?_, ?_⟩
    · refine WL.call rfl rfl (ih (tl.n) (by omega) _ _ _ A R da fa dc fc (ndD A i).lf tl (hA) (hl7) ((by omega)) rfl (hS.sel 2 [1, 0] rfl)) rfl ?_
      clear hS; rintro _ w ⟨u1, d1, rfl, hS⟩
      replace hS := hS.n4 L (a0 := Own 121 2 (en2 tl.ls) u1 d1) rfl
      refine WL.nil ?_
      refine ⟨by exact ⟨RQ.pure rfl rfl rfl rfl, RQ.load rfl rfl rfl rfl (hS.ld 2 rfl rfl), RQ.pure rfl rfl rfl rfl, RQ.load rfl rfl rfl rfl (hS.ld 2 rfl rfl), RQ.build rfl rfl (cs := [.int .i64 (ndD A i).key, .int .i64 (ndD A i).val]) zv_121 rfl rfl rfl rfl⟩, ?_⟩
      refine WQ.nil ?_
      intro m2
      replace hS := hS.drewN m2; generalize hwm2 : World.drewN _ _ = w at *; clear hwm2
      refine WL.lit rfl rfl (en2 [((ndD A i).key, (ndD A i).val)]) el_49 hS (by exact ⟨rfl, rfl⟩) (en2_ok _) rfl (Nat.le_of_ble_eq_true rfl) (fun b3 w hS => ?_)
      refine WL.nil ?_
      refine ⟨by exact ⟨RQ.ldF rfl rfl 4 hS rfl rfl ag_62 rfl rfl, RQ.pure rfl rfl rfl rfl, RQ.load rfl rfl rfl rfl (hS.ld 3 rfl rfl)⟩, ?_⟩
      refine WQ.nil ?_
      intro m3
      replace hS := hS.drewN m3; generalize hwm3 : World.drewN _ _ = w at *; clear hwm3
      refine WL.app rfl rfl 1 (en2 (tl.ls ++ [((ndD A i).key, (ndD A i).val)])) el_49 hS rfl (hS.srcO 0 rfl) (en2_app _ _).symm (Rm.of (by first | omega | (simp <;> omega)) (by decide)) rfl rfl (fun a1 c1 w hS => ?_)
      replace hS := hS.n5 L (a0 := Own 121 2 (en2 [((ndD A i).key, (ndD A i).val)]) (some ⟨b3, 0, none⟩) (List.length (en2 [((ndD A i).key, (ndD A i).val)]))) (a1 := Own 121 2 (en2 (tl.ls ++ [((ndD A i).key, (ndD A i).val)])) a1 c1) rfl
      refine WL.nil ?_
      refine ⟨by exact trivial, ?_⟩
      refine WQ.r 1 rfl <| WQ.nil ?_
      intro m4
      replace hS := hS.drewN m4; generalize hwm4 : World.drewN _ _ = w at *; clear hwm4
      as_aux_lemma =>
      refine WC.seq <| WC.region <| WL.r 1 rfl <| WL.ldF rfl rfl 4 hS rfl rfl ag_62 <| WL.run 2 [.int .u32 (ndD A i).rg] rfl (by exact hS.ld 3 rfl rfl) ?_
      refine WL.call rfl rfl (ih (tr.n) (by omega) _ _ _ A R da fa dc fc (ndD A i).rg tr (hA) (hr7) ((by omega)) rfl (hS.sel 3 [2, 0, 0] rfl)) rfl ?_
      clear hS; rintro _ w ⟨u2, d2, rfl, hS⟩
      replace hS := hS.n6 L (a0 := Own 121 2 (en2 tr.ls) u2 d2) rfl
      refine WL.app rfl rfl 3 (en2 ((tl.ls ++ [((ndD A i).key, (ndD A i).val)]) ++ tr.ls)) el_49 hS rfl (hS.srcO 0 rfl) (en2_app _ _).symm (Rm.of (by first | omega | (simp <;> omega)) (by decide)) rfl rfl (fun a2 c2 w hS => ?_)
      replace hS := hS.n6 L (a3 := Own 121 2 (en2 ((tl.ls ++ [((ndD A i).key, (ndD A i).val)]) ++ tr.ls)) a2 c2) rfl
      refine WL.r 1 rfl <| WL.nil <| WC.ret ?_
      refine ⟨[.slice a2 (List.length (en2 ((tl.ls ++ [((ndD A i).key, (ndD A i).val)]) ++ tr.ls))) c2], rfl, ?_⟩
      replace hS := (hS.sel 6 [3, 1] rfl)
      have e9 : tl.ls ++ [((ndD A i).key, (ndD A i).val)] ++ tr.ls = t.ls := (by rw [ht, e7, hi2.2.2.1, hi2.2.2.2.1]; show _ = tl.ls ++ (k, z) :: tr.ls; simp); rw [e9] at hS ⊢; exact ⟨_, _, rfl, hS⟩
    · refine WL.lit rfl rfl (en2 [((ndD A i).key, (ndD A i).val)]) el_49 hS (by exact ⟨rfl, rfl⟩) (en2_ok _) rfl (Nat.le_of_ble_eq_true rfl) (fun b3 w hS => ?_)
      refine WL.nil ?_
      refine ⟨by exact ⟨RQ.ldF rfl rfl 3 hS rfl rfl ag_62 rfl rfl, RQ.pure rfl rfl rfl rfl, RQ.load rfl rfl rfl rfl (hS.ld 1 rfl rfl)⟩, ?_⟩
      refine WQ.nil ?_
      intro m2
      replace hS := hS.drewN m2; generalize hwm2 : World.drewN _ _ = w at *; clear hwm2
      refine WL.call rfl rfl (ih (tl.n) (by omega) _ _ _ A R da fa dc fc (ndD A i).lf tl (hA) (hl7) ((by omega)) rfl (hS.sel 3 [2, 0, 0] rfl)) rfl ?_
      clear hS; rintro _ w ⟨u1, d1, rfl, hS⟩
      replace hS := hS.n5 L (a0 := Own 121 2 (en2 tl.ls) u1 d1) (a2 := Own 121 2 (en2 [((ndD A i).key, (ndD A i).val)]) (some ⟨b3, 0, none⟩) (List.length (en2 [((ndD A i).key, (ndD A i).val)]))) rfl
      refine WL.nil ?_
      refine ⟨by exact ⟨RQ.pure rfl rfl rfl rfl, RQ.load rfl rfl rfl rfl (hS.ld 3 rfl rfl), RQ.pure rfl rfl rfl rfl, RQ.load rfl rfl rfl rfl (hS.ld 3 rfl rfl), RQ.build rfl rfl (cs := [.int .i64 (ndD A i).key, .int .i64 (ndD A i).val]) zv_121 rfl rfl rfl rfl⟩, ?_⟩
      refine WQ.nil ?_
      intro m3
      replace hS := hS.drewN m3; generalize hwm3 : World.drewN _ _ = w at *; clear hwm3
      refine WL.app rfl rfl 0 (en2 (tl.ls ++ [((ndD A i).key, (ndD A i).val)])) el_49 hS rfl (hS.srcO 2 rfl) (en2_app _ _).symm (Rm.of (by first | omega | (simp <;> omega)) (by decide)) rfl rfl (fun a1 c1 w hS => ?_)
      replace hS := hS.n5 L (a0 := Own 121 2 (en2 (tl.ls ++ [((ndD A i).key, (ndD A i).val)])) a1 c1) rfl
      refine WL.nil ?_
      refine ⟨by exact trivial, ?_⟩
      refine WQ.r 1 rfl <| WQ.nil ?_
      intro m4
      replace hS := hS.drewN m4; generalize hwm4 : World.drewN _ _ = w at *; clear hwm4
      as_aux_lemma =>
      refine WC.seq <| WC.region <| WL.r 1 rfl <| WL.ldF rfl rfl 4 hS rfl rfl ag_62 <| WL.run 2 [.int .u32 (ndD A i).rg] rfl (by exact hS.ld 3 rfl rfl) ?_
      refine WL.call rfl rfl (ih (tr.n) (by omega) _ _ _ A R da fa dc fc (ndD A i).rg tr (hA) (hr7) ((by omega)) rfl (hS.sel 2 [1, 0] rfl)) rfl ?_
      clear hS; rintro _ w ⟨u2, d2, rfl, hS⟩
      replace hS := hS.n6 L (a0 := Own 121 2 (en2 tr.ls) u2 d2) rfl
      refine WL.app rfl rfl 2 (en2 ((tl.ls ++ [((ndD A i).key, (ndD A i).val)]) ++ tr.ls)) el_49 hS rfl (hS.srcO 0 rfl) (en2_app _ _).symm (Rm.of (by first | omega | (simp <;> omega)) (by decide)) rfl rfl (fun a2 c2 w hS => ?_)
      replace hS := hS.n6 L (a2 := Own 121 2 (en2 ((tl.ls ++ [((ndD A i).key, (ndD A i).val)]) ++ tr.ls)) a2 c2) rfl
      refine WL.r 1 rfl <| WL.nil <| WC.ret ?_
      refine ⟨[.slice a2 (List.length (en2 ((tl.ls ++ [((ndD A i).key, (ndD A i).val)]) ++ tr.ls))) c2], rfl, ?_⟩
      replace hS := (hS.sel 6 [2, 1] rfl)
      have e9 : tl.ls ++ [((ndD A i).key, (ndD A i).val)] ++ tr.ls = t.ls := (by rw [ht, e7, hi2.2.2.1, hi2.2.2.2.1]; show _ = tl.ls ++ (k, z) :: tr.ls; simp); rw [e9] at hS ⊢; exact ⟨_, _, rfl, hS⟩
theorem t7_list_all (nM : Nat) : ∀ (g w : World) (L : List HP) (A : AM) (R : List Int) (da fa : Option Addr) (dc fc : Nat) (i : Int) (t : Tr), (ARf A R) → (Is A t i) → (t.n ≤ 1000000) → t.n = nM → St g (Sh 174 11 (sls (AM.dmp A)) da dc :: L) w → Sp Tryz.prog 87 [.agg #[.slice da (List.length (sls (AM.dmp A))) dc, .slice fa (List.length (u32s (SM.order A.s))) fc], .int .u32 i] w (fun v w' => ∃ (u : Option Addr) (d : Nat), v = .slice u (List.length (en2 t.ls)) d ∧ St g (Own 121 2 (en2 t.ls) u d :: Sh 174 11 (sls (AM.dmp A)) da dc :: L) w') := by
  induction nM using Nat.strongRecOn with
  | _ nM ih => intro g w L A R da fa dc fc i t hA hi hn hM hS; exact t7_list_step nM ih A R da fa dc fc i t hA hi hn hM hS
theorem t7_list {g w : World} {L : List HP} (A : AM) (R : List Int) (da fa : Option Addr) (dc fc : Nat) (i : Int) (t : Tr) (hA : ARf A R) (hi : Is A t i) (hn : t.n ≤ 1000000) (hS : St g (Sh 174 11 (sls (AM.dmp A)) da dc :: L) w) :
    Sp Tryz.prog 87 [.agg #[.slice da (List.length (sls (AM.dmp A))) dc, .slice fa (List.length (u32s (SM.order A.s))) fc], .int .u32 i] w (fun v w' => ∃ (u : Option Addr) (d : Nat), v = .slice u (List.length (en2 t.ls)) d ∧ St g (Own 121 2 (en2 t.ls) u d :: Sh 174 11 (sls (AM.dmp A)) da dc :: L) w') := t7_list_all _ g w L A R da fa dc fc i t hA hi hn rfl hS
set_option maxRecDepth 8192 in
theorem t7_tree {g w : World} {L : List HP} (A : AM) (R : List Int) (da fa : Option Addr) (dc fc : Nat) (i : Int) (t : Tr) (l : Kvs) (u : Option Addr) (d : Nat) (hA : ARf A R) (hi : Is A t i) (hs : Srt t.ls) (hb : t.ok) (hl : t.ls = l) (hS : St g (Sh 174 11 (sls (AM.dmp A)) da dc :: Sh 121 2 (en2 l) u d :: L) w) :
    Sp Tryz.prog 23 [.agg #[.slice da (List.length (sls (AM.dmp A))) dc, .slice fa (List.length (u32s (SM.order A.s))) fc], .int .u32 i, .slice u (List.length (en2 l)) d] w (fun v w' => v = .bool true ∧ St g (Sh 174 11 (sls (AM.dmp A)) da dc :: Sh 121 2 (en2 l) u d :: L) w') := by
  refine Sp.enter Tryz.func23 rfl (by kernel_rfl) (by kernel_rfl) ?_
  refine WC.seq <| WC.region <| WL.box rfl rfl #[.slice da (List.length (sls (AM.dmp A))) dc, .slice fa (List.length (u32s (SM.order A.s))) fc] hS rfl rfl (fun b1 w hS => ?_)
  refine WL.r 1 rfl <| WL.nil <| WC.seq <| WC.seq <| WC.region ?_
  have hir := is_rng hA hi; have hll := Tr.ls_len t; have hel := en2_len l; have hlt : l.length = t.n := (by rw [← hl]; exact hll); have htc := tn_cap hA hi hs; have hcr := cap_rng hA; have hz : (ndD A i).size = (t.n : Int) := (by rw [ndD_sz, Is.sz hA t _ hi]); have htl := en2_len t.ls
  refine WL.ldF rfl rfl 0 hS rfl rfl ag_62 <| WL.r 1 rfl <| WL.call rfl rfl (t7_check (A := A) (fa := fa) (fc := fc) (i := i) (t := t) (hA := hA) (hi := hi) (hs := hs) (hb := hb) (hS := (hS.sel 2 [1, 0] rfl))) rfl ?_
  clear hS; rintro _ w ⟨rfl, hS⟩
  replace hS := hS.n3 L (a1 := cel b1 #[.slice da (List.length (sls (AM.dmp A))) dc, .slice fa (List.length (u32s (SM.order A.s))) fc] 62) rfl
  refine WL.r 2 rfl <| WL.reb 13 (.bool false) (congrArg Value.bool (decide_eq_false (by decide))) ?_
  refine WL.ung rfl rfl rfl <| WL.ldF rfl rfl 1 hS rfl rfl ag_62 <| WL.ung rfl rfl rfl <| WL.r 1 rfl <| WL.ung rfl rfl rfl <| WL.call rfl rfl (t7_node (A := A) (R := R) (fa := fa) (fc := fc) (i := i) (hA := hA) (hi := (by omega)) (hS := hS)) rfl ?_
  clear hS; rintro _ w ⟨rfl, hS⟩
  replace hS := hS.n3 L rfl
  refine WL.ung rfl rfl rfl <| WL.r 1 rfl <| WL.ung rfl rfl rfl <| WL.r 1 rfl <| WL.ung rfl rfl rfl <| WL.r 1 rfl <| WL.ung rfl rfl rfl <| WL.r 2 rfl <| WL.nil ?_
  as_aux_lemma =>
  refine WC.ifF rfl (decide_eq_false ((by omega))) ?_
  refine WC.skip <| WC.seq <| WC.region <| WL.ldF rfl rfl 1 hS rfl rfl ag_62 <| WL.r 1 rfl <| WL.call rfl rfl (t7_list (A := A) (fa := fa) (fc := fc) (i := i) (t := t) (hA := hA) (hi := hi) (hn := (by omega)) (hS := hS)) rfl ?_
  clear hS; rintro _ w ⟨u1, d1, rfl, hS⟩
  replace hS := hS.n4 L (a0 := Own 121 2 (en2 t.ls) u1 d1) rfl
  refine WL.r 1 rfl <| WL.nil <| WC.seq <| WC.seq <| WC.region <| WL.r 5 rfl <| WL.nil <| WC.ifF rfl (decide_eq_false ((by omega))) ?_
  refine WC.skip <| WC.seq <| WC.seq <| WC.region <| WL.r 1 rfl <| WL.nil <| WC.block <| WC.loop [2, 7, 8] (fun kM vs w => ∃ (k : Nat), vs = [.slice u (List.length (en2 l)) d, .slice u1 (List.length (en2 t.ls)) d1, .int .i64 (k : Int)] ∧ St g (Own 121 2 (en2 t.ls) u1 d1 :: Sh 174 11 (sls (AM.dmp A)) da dc :: cel b1 #[.slice da (List.length (sls (AM.dmp A))) dc, .slice fa (List.length (u32s (SM.order A.s))) fc] 62 :: Sh 121 2 (en2 l) u d :: L) w ∧ (k ≤ l.length) ∧ (l.length - k) = kM) ((List.length l) - 0) ⟨0, rfl, hS, (Nat.zero_le _), rfl⟩ ?_
  clear hS; rintro _ _ w j ⟨k, rfl, hS, hk, rfl⟩
  refine WC.seq <| WC.seq <| WC.region <| WL.r 4 rfl <| WL.nil ?_
  as_aux_lemma =>
  refine WC.ifP rfl (fun cd1 => ?_) (fun cd1 => ?_)
  · refine WC.skip <| WC.seq <| WC.block <| WC.seq <| WC.plan [([0, 1, 4, 5, 2, 6, 3, 7, 8], none)] (by kernel_rfl) (by kernel_rfl) ?_
    refine WQ.r 4 rfl ?_
    obtain ⟨x, hx⟩ : ∃ x, l[k]? = some x := ⟨_, List.getElem?_eq_getElem (by omega)⟩; have hx2 : t.ls[k]? = some x := (by rw [hl]; exact hx)
    refine WQ.ix rfl rfl (i := (k : Int)) (k) el_49 rfl rfl (by omega) (by omega) (hS.rdS 3 rfl (en2_at hx)).1 ?_
    refine WQ.ix rfl rfl (i := (k : Int)) (k) el_49 rfl rfl (by omega) (by omega) (hS.rdO 0 rfl (en2_at hx2)).1 ?_
    refine WQ.ldC rfl rfl [.int .i64 x.1, .int .i64 x.2] ag_121 rfl (hS.rdS 3 rfl (en2_at hx)).2 <| WQ.ldC rfl rfl [.int .i64 x.1, .int .i64 x.2] ag_121 rfl (hS.rdO 0 rfl (en2_at hx2)).2 <| WQ.neS rfl rfl eq_121 (xs := [.int .i64 x.1, .int .i64 x.2]) (ys := [.int .i64 x.1, .int .i64 x.2]) rfl rfl rfl rfl <| WQ.prop 44 rfl (bnot (band (dd _) (dd _))) <| WQ.nil ?_
    intro m1
    replace hS := hS.drewN m1; generalize hwm1 : World.drewN _ _ = w at *; clear hwm1
    refine WC.ifF rfl (decide_eq_false ((by simp))) ?_
    refine WC.skip <| WC.region <| WL.r 2 rfl <| WL.nw 35 rfl (w64 (by omega)) ?_
    refine WL.r 1 rfl <| WL.nil ?_
    exact ⟨_, by omega, k + 1, rfl, hS, (by omega), rfl⟩
  · refine WC.exit <| WC.seq <| WC.region <| WL.r 1 rfl <| WL.nil <| WC.ret ?_
    refine ⟨[.bool true], rfl, ?_⟩
    replace hS := (hS.sel 3 [1] rfl)
    exact ⟨rfl, hS⟩
end Go.Proofs.YtbeacjcmdijdmaaGreat
/-! ## Eqn -/
namespace Go.V
open Go Go.RowKit
def eqFN (P : Program) (e : TypeId) (m : Nat) (ks : List FK) : List Field → Bool
  | f :: fs => f.offset == 0 && f.name != "_" && f.type == e && eqF P fs m ks
  | [] => false
def szN (P : Program) (e : TypeId) (m : Nat) : Bool := match P.info? e with
  | some i => i.size == m
  | none => false
structure EqN (P : Program) (t e : TypeId) (ks1 ks2 : List FK) : Prop where
  und : P.underlying t = some (.struct (P.fieldsOf t))
  held : P.stoodInHeld t = false
  guard : P.eqGuardType P.depth t = false
  eund : P.underlying e = some (.struct (P.fieldsOf e))
  eheld : P.stoodInHeld e = false
  efs : eqF P (P.fieldsOf e).toList 0 ks1 = true
  agg : isAggB P e = true
  sz : szN P e ks1.length = true
  fs : eqFN P e ks1.length ks2 (P.fieldsOf t).toList = true
section
variable {P : Program} {T : Tab} [hT : TabOk P T] {n : Nat} {os l : List Oper} {F : Fm} {w g : World} {t e : TypeId} {ks1 ks2 : List FK}
theorem szN_ex {m : Nat} (h : szN P e m = true) : ∃ i, P.info? e = some i ∧ i.size = m := by
  unfold szN at h
  cases hi : P.info? e with
  | none => rw [hi] at h; cases h
  | some i => rw [hi] at h; exact ⟨i, rfl, by simpa using h⟩
end
end Go.V
