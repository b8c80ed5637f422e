/-
  Transactions: read, Get.
  Conditions: the transaction has not ended.
-/
import Derived.Test.YtlnlnebibgdjdaaTx1
import Derived.Test.YtlnlnebibgdjdaaW5
namespace Go.Proofs.Ytlnlnebibgdjdaa
open Go Go.V Go.RowKit Go.Maps

theorem rd1 {s : RdS} {x : Int × Int} (h : x.2 + 1 < s.lo) : rdStep s x = ⟨s.lo, s.hi, s.less ++ [x], s.gr⟩ := if_pos h
theorem rd2 {s : RdS} {x : Int × Int} (h : ¬ x.2 + 1 < s.lo) (h2 : s.hi < x.1 - 1) : rdStep s x = ⟨s.lo, s.hi, s.less, s.gr ++ [x]⟩ := by
  unfold rdStep; rw [if_neg h, if_pos h2]
theorem rd3 {s : RdS} {x : Int × Int} (h : ¬ x.2 + 1 < s.lo) (h2 : ¬ s.hi < x.1 - 1) : rdStep s x = ⟨min s.lo x.1, max s.hi x.2, s.less, s.gr⟩ := by
  unfold rdStep; rw [if_neg h, if_neg h2]
theorem lt1 {z lo : Int} (hz : i64R z) (hl : i64R lo) : (bif decide (z < lo) then decide (IntKind.i64.wrap (z + 1) < lo) else false) = decide (z + 1 < lo) := by
  unfold i64R at hz hl
  by_cases h : z < lo
  · rw [decide_eq_true h, w64 (z := z + 1) (by omega)]; rfl
  · rw [decide_eq_false h, decide_eq_false (show ¬ z + 1 < lo by omega)]; rfl
theorem gt1 {z hi : Int} (hz : i64R z) (hl : i64R hi) : (bif decide (hi < z) then decide (hi < IntKind.i64.wrap (z - 1)) else false) = decide (hi < z - 1) := by
  unfold i64R at hz hl
  by_cases h : hi < z
  · rw [decide_eq_true h, w64 (z := z - 1) (by omega)]; rfl
  · rw [decide_eq_false h, decide_eq_false (show ¬ hi < z - 1 by omega)]; rfl
theorem tx_read {g w : World} {L : List HP} (x a : Nat) (rt : Int) (xs : List WE) (q : Nat) (S : Kvs) (lo hi : Int) (hlo : i64R lo) (hhi : i64R hi) (hR : SpR S) (hSl : S.length ≤ 100000) (hS : St g (Tx x a rt xs q S :: L) w) :
    Sp Try.prog 81 [.pointer (some ⟨x, 0, none⟩), .int .i64 lo, .int .i64 hi] w (fun v w' => v = .tuple #[] ∧ St g (Tx x a rt xs q (rdF lo hi S) :: L) w') := by
  refine Sp.enter Try.func81 rfl (by kernel_rfl) (by kernel_rfl) ?_
  have _ := hSl
  refine WC.seq ?_
  refine WC.region ?_
  obtain ⟨⟨xm, xu, xc⟩, hS⟩ := St.exOpen (f := txF x a rt xs q S) hS
  replace hS : St g (cel x #[.pointer (some ⟨a, 0, none⟩), .int .u32 rt, .bool false, .map (some xm), .slice xu (List.length (en2 S)) xc] 145 :: blk xm (.map (mE (List.map wK xs)) q) :: Own 153 2 (en2 S) xu xc :: L) w := hS
  have hll := en2_len S
  refine WL.r 2 rfl ?_
  refine WL.nil ?_
  refine WC.seq ?_
  refine WC.seq ?_
  refine WC.region ?_
  refine WL.run 6 [.slice xu (List.length (en2 S)) xc] rfl (by exact hS.ld 0 rfl rfl) ?_
  refine WL.nil ?_
  refine WC.block ?_
  replace hS := hS.nil_ 153 2
  replace hS := hS.nil_ 153 2
  refine WC.loop [0, 1, 2, 6, 7, 13, 14, 15] (fun kM vs w => ∃ (k : Nat) (r : RdS) (u1 : Option Addr) (d1 : Nat) (u2 : Option Addr) (d2 : Nat), vs = [.pointer (some ⟨x, 0, none⟩), .int .i64 r.lo, .int .i64 r.hi, .slice u1 (List.length (en2 r.less)) d1, .slice u2 (List.length (en2 r.gr)) d2, .slice xu (List.length (en2 S)) xc, .int .i64 (List.length (en2 S) : Int), .int .i64 (k : Int)] ∧ St g (Own 153 2 (en2 r.less) u1 d1 :: Own 153 2 (en2 r.gr) u2 d2 :: cel x #[.pointer (some ⟨a, 0, none⟩), .int .u32 rt, .bool false, .map (some xm), .slice xu (List.length (en2 S)) xc] 145 :: blk xm (.map (mE (List.map wK xs)) q) :: Own 153 2 (en2 S) xu xc :: L) w ∧ (k ≤ S.length) ∧ (r = rdAll lo hi (S.take k)) ∧ (S.length - k) = kM) ((List.length S) - 0) ⟨0, ⟨lo, hi, [], []⟩, none, 0, none, 0, rfl, hS, (Nat.zero_le _), (rfl), rfl⟩ ?_
  clear hS; rintro _ _ w j ⟨k, r, u1, d1, u2, d2, rfl, hS, hk, hr, rfl⟩
  refine WC.seq ?_
  refine WC.region ?_
  refine WL.r 1 rfl ?_
  refine WL.nil ?_
  refine WC.seq ?_
  refine WC.ifP rfl (fun cd1 => ?_) (fun cd1 => ?_)
  · refine WC.skip ?_
    as_aux_lemma =>
      refine WC.seq ?_
      refine WC.block ?_
      refine WC.seq ?_
      refine WC.region ?_
      obtain ⟨e, he⟩ : ∃ e, S[k]? = some e := ⟨_, List.getElem?_eq_getElem (by omega)⟩; obtain ⟨r1, r2, _, _⟩ := rdAll_R (lo := lo) (hi := hi) ⟨hlo, hhi⟩ hR k; rw [← hr] at r1 r2; have hre := hR e (List.mem_of_getElem? he); have hln := rdAll_len lo hi S k; rw [← hr] at hln; have hl1 := en2_len r.less; have hl2 := en2_len r.gr
      refine WL.ix rfl rfl (i := (k : Int)) (k) el_143 rfl rfl (by omega) (by omega) (hS.rdO 4 rfl (en2_at he)).1 ?_
      refine WL.ldC rfl rfl [.int .i64 e.1, .int .i64 e.2] ag_153 rfl (hS.rdO 4 rfl (en2_at he)).2 ?_
      refine WL.new rfl rfl zv_153 hS (fun b1 w hS => ?_)
      refine WL.stF rfl rfl rfl 0 hS rfl rfl rfl rfl rfl ag_153 (fun w hS => ?_)
      replace hS : St g (cel b1 #[.int .i64 e.1, .int .i64 e.2] 153 :: Own 153 2 (en2 r.less) u1 d1 :: Own 153 2 (en2 r.gr) u2 d2 :: cel x #[.pointer (some ⟨a, 0, none⟩), .int .u32 rt, .bool false, .map (some xm), .slice xu (List.length (en2 S)) xc] 145 :: blk xm (.map (mE (List.map wK xs)) q) :: Own 153 2 (en2 S) xu xc :: L) w := hS
      refine WL.nil ?_
      refine WC.block ?_
      refine WC.seq ?_
      refine WC.region ?_
      refine WL.run 4 [.int .i64 e.2] rfl (by exact hS.ld 0 rfl rfl) ?_
      refine WL.runG 8 [.int .i64 e.2] rfl (by exact (fun _ => hS.ld 0 rfl rfl)) (fun j => ?_)
      refine WL.prop 38 rfl (band (dd _) (dd _)) ?_
      refine WL.nil ?_
      refine WC.if_ rfl (fun cd2 => ?_) (fun cd2 => ?_)
      · refine WC.region ?_
        refine WL.r 1 rfl ?_
        refine WL.ldF rfl rfl 0 hS rfl rfl ag_153 ?_
        refine WL.lit rfl rfl (en2 [(e.1, e.2)]) el_143 hS (by exact ⟨rfl, rfl⟩) (en2_ok _) rfl (by decide) (fun b2 w hS => ?_)
        refine WL.app rfl rfl 2 (en2 (r.less ++ [(e.1, e.2)])) el_143 hS rfl (hS.srcO 0 rfl) (en2_app _ _).symm (Rm.of (by first | omega | (simp <;> omega)) (by decide)) rfl rfl (fun a1 c1 w hS => ?_)
        replace hS : St g (Own 153 2 (en2 [(e.1, e.2)]) (some ⟨b2, 0, none⟩) (List.length (en2 [(e.1, e.2)])) :: cel b1 #[.int .i64 e.1, .int .i64 e.2] 153 :: Own 153 2 (en2 (r.less ++ [(e.1, e.2)])) a1 c1 :: Own 153 2 (en2 r.gr) u2 d2 :: cel x #[.pointer (some ⟨a, 0, none⟩), .int .u32 rt, .bool false, .map (some xm), .slice xu (List.length (en2 S)) xc] 145 :: blk xm (.map (mE (List.map wK xs)) q) :: Own 153 2 (en2 S) xu xc :: L) w := hS
        refine WL.r 1 rfl ?_
        refine WL.nil ?_
        as_aux_lemma =>
          refine WC.region ?_
          refine WL.r 1 rfl ?_
          refine WL.nw 59 rfl (w64 (by omega)) ?_
          refine WL.r 1 rfl ?_
          refine WL.nil ?_
          exact ⟨_, by omega, k + 1, ⟨r.lo, r.hi, r.less ++ [e], r.gr⟩, a1, c1, u2, d2, rfl, (hS.sel 2 [] rfl), (by omega), (by rw [rdAll_snoc he, ← hr]; exact (rd1 (of_decide_eq_true ((lt1 hre.2 r1).symm.trans cd2))).symm), rfl⟩
      · refine WC.seq ?_
        refine WC.region ?_
        refine WL.run 4 [.int .i64 e.1] rfl (by exact hS.ld 0 rfl rfl) ?_
        refine WL.runG 8 [.int .i64 e.1] rfl (by exact (fun _ => hS.ld 0 rfl rfl)) (fun j => ?_)
        refine WL.prop 54 rfl (band (dd _) (dd _)) ?_
        refine WL.nil ?_
        as_aux_lemma =>
          refine WC.if_ rfl (fun cd3 => ?_) (fun cd3 => ?_)
          · refine WC.region ?_
            refine WL.r 1 rfl ?_
            refine WL.ldF rfl rfl 0 hS rfl rfl ag_153 ?_
            refine WL.lit rfl rfl (en2 [(e.1, e.2)]) el_143 hS (by exact ⟨rfl, rfl⟩) (en2_ok _) rfl (by decide) (fun b2 w hS => ?_)
            refine WL.app rfl rfl 3 (en2 (r.gr ++ [(e.1, e.2)])) el_143 hS rfl (hS.srcO 0 rfl) (en2_app _ _).symm (Rm.of (by first | omega | (simp <;> omega)) (by decide)) rfl rfl (fun a1 c1 w hS => ?_)
            replace hS : St g (Own 153 2 (en2 [(e.1, e.2)]) (some ⟨b2, 0, none⟩) (List.length (en2 [(e.1, e.2)])) :: cel b1 #[.int .i64 e.1, .int .i64 e.2] 153 :: Own 153 2 (en2 r.less) u1 d1 :: Own 153 2 (en2 (r.gr ++ [(e.1, e.2)])) a1 c1 :: cel x #[.pointer (some ⟨a, 0, none⟩), .int .u32 rt, .bool false, .map (some xm), .slice xu (List.length (en2 S)) xc] 145 :: blk xm (.map (mE (List.map wK xs)) q) :: Own 153 2 (en2 S) xu xc :: L) w := hS
            refine WL.r 1 rfl ?_
            refine WL.nil ?_
            refine WC.region ?_
            refine WL.r 1 rfl ?_
            refine WL.nw 59 rfl (w64 (by omega)) ?_
            refine WL.r 1 rfl ?_
            refine WL.nil ?_
            exact ⟨_, by omega, k + 1, ⟨r.lo, r.hi, r.less, r.gr ++ [e]⟩, u1, d1, a1, c1, rfl, (hS.sel 2 [] rfl), (by omega), (by rw [rdAll_snoc he, ← hr]; exact (rd2 (of_decide_eq_false ((lt1 hre.2 r1).symm.trans cd2)) (of_decide_eq_true ((gt1 hre.1 r2).symm.trans cd3))).symm), rfl⟩
          · refine WC.plan [([0, 1, 4, 5, 2, 6, 3, 7, 8, 9], none)] (by kernel_rfl) (by kernel_rfl) ?_
            refine WQ.run 10 [.int .i64 e.1, .int .i64 e.2] rfl (by exact ⟨hS.ld 0 rfl rfl, hS.ld 0 rfl rfl⟩) ?_
            refine WQ.nil ?_
            intro m1
            replace hS := hS.drewN m1; generalize hwm1 : World.drewN _ _ = w at *; clear hwm1
            refine WC.region ?_
            refine WL.r 1 rfl ?_
            refine WL.nw 59 rfl (w64 (by omega)) ?_
            refine WL.r 1 rfl ?_
            refine WL.nil ?_
            exact ⟨_, by omega, k + 1, ⟨min r.lo e.1, max r.hi e.2, r.less, r.gr⟩, u1, d1, u2, d2, rfl, (hS.sel 1 [] rfl), (by omega), (by rw [rdAll_snoc he, ← hr]; exact (rd3 (of_decide_eq_false ((lt1 hre.2 r1).symm.trans cd2)) (of_decide_eq_false ((gt1 hre.1 r2).symm.trans cd3))).symm), rfl⟩
  · refine WC.exit ?_
    as_aux_lemma =>
      refine WC.region ?_
      have hle := rdAll_len lo hi S k; rw [← hr] at hle; have hl1 := en2_len r.less; have hl2 := en2_len r.gr; have e9 : r.less ++ [(r.lo, r.hi)] ++ r.gr = rdF lo hi S := (by rw [hr, List.take_of_length_le (by omega)]; rfl)
      refine WL.r 4 rfl ?_
      refine WL.build rfl rfl (cs := [.int .i64 r.lo, .int .i64 r.hi]) zv_153 rfl rfl ?_
      refine WL.lit rfl rfl (en2 [(r.lo, r.hi)]) el_143 hS (by exact ⟨rfl, rfl⟩) (en2_ok _) rfl (by decide) (fun b1 w hS => ?_)
      refine WL.app rfl rfl 1 (en2 (r.less ++ [(r.lo, r.hi)])) el_143 hS rfl (hS.srcO 0 rfl) (en2_app _ _).symm (Rm.of (by first | omega | (simp <;> omega)) (by decide)) rfl rfl (fun a1 c1 w hS => ?_)
      replace hS : St g (Own 153 2 (en2 [(r.lo, r.hi)]) (some ⟨b1, 0, none⟩) (List.length (en2 [(r.lo, r.hi)])) :: Own 153 2 (en2 (r.less ++ [(r.lo, r.hi)])) a1 c1 :: Own 153 2 (en2 r.gr) u2 d2 :: cel x #[.pointer (some ⟨a, 0, none⟩), .int .u32 rt, .bool false, .map (some xm), .slice xu (List.length (en2 S)) xc] 145 :: blk xm (.map (mE (List.map wK xs)) q) :: Own 153 2 (en2 S) xu xc :: L) w := hS
      refine WL.r 1 rfl ?_
      refine WL.app rfl rfl 1 (en2 ((r.less ++ [(r.lo, r.hi)]) ++ r.gr)) el_143 hS rfl (hS.srcO 2 rfl) (en2_app _ _).symm (Rm.of (by first | omega | (simp <;> omega)) (by decide)) rfl rfl (fun a2 c2 w hS => ?_)
      replace hS : St g (Own 153 2 (en2 [(r.lo, r.hi)]) (some ⟨b1, 0, none⟩) (List.length (en2 [(r.lo, r.hi)])) :: Own 153 2 (en2 ((r.less ++ [(r.lo, r.hi)]) ++ r.gr)) a2 c2 :: Own 153 2 (en2 r.gr) u2 d2 :: cel x #[.pointer (some ⟨a, 0, none⟩), .int .u32 rt, .bool false, .map (some xm), .slice xu (List.length (en2 S)) xc] 145 :: blk xm (.map (mE (List.map wK xs)) q) :: Own 153 2 (en2 S) xu xc :: L) w := hS
      refine WL.r 2 rfl ?_
      refine WL.st rfl rfl rfl 3 hS rfl rfl rfl rfl rfl rfl (fun w hS => ?_)
      replace hS : St g (Own 153 2 (en2 [(r.lo, r.hi)]) (some ⟨b1, 0, none⟩) (List.length (en2 [(r.lo, r.hi)])) :: Own 153 2 (en2 ((r.less ++ [(r.lo, r.hi)]) ++ r.gr)) a2 c2 :: Own 153 2 (en2 r.gr) u2 d2 :: cel x #[.pointer (some ⟨a, 0, none⟩), .int .u32 rt, .bool false, .map (some xm), .slice a2 (List.length (en2 ((r.less ++ [(r.lo, r.hi)]) ++ r.gr))) c2] 145 :: blk xm (.map (mE (List.map wK xs)) q) :: Own 153 2 (en2 S) xu xc :: L) w := hS
      refine WL.nil ?_
      replace hS := St.exClose (f := txF x a rt xs q (rdF lo hi S)) (L := Own 153 2 (en2 [(r.lo, r.hi)]) (some ⟨b1, 0, none⟩) (List.length (en2 [(r.lo, r.hi)])) :: Own 153 2 (en2 r.gr) u2 d2 :: Own 153 2 (en2 S) xu xc :: L) ⟨xm, a2, c2⟩ (by
        rw [e9] at hS
        exact (hS.sel 5 [3, 3, 1, 0, 0] rfl))
      replace hS : St g (Tx x a rt xs q (rdF lo hi S) :: Own 153 2 (en2 [(r.lo, r.hi)]) (some ⟨b1, 0, none⟩) (List.length (en2 [(r.lo, r.hi)])) :: Own 153 2 (en2 r.gr) u2 d2 :: Own 153 2 (en2 S) xu xc :: L) w := hS
      refine ⟨[], trivial, ?_⟩
      replace hS := (hS.sel 4 [0] rfl)
      exact ⟨rfl, hS⟩
theorem tx_get1 {g w : World} {L : List HP} (x a : Nat) (rt : Int) (xs : List WE) (q : Nat) (S : Kvs) (M : Wrs) (A : AM) (j : Nat) (e : WE) (k : Int) (hW : WOk xs q M) (he : xs[j]? = some e) (hek : e.k = k) (hS : St g (Tx x a rt xs q S :: Arn a A :: L) w) :
    Sp Try.prog 40 [.pointer (some ⟨x, 0, none⟩), .int .i64 k] w (fun v w' => v = .tuple #[.int .i64 e.v, .bool e.p, .int .i64 0] ∧ St g (Tx x a rt xs q S :: Arn a A :: L) w') := by
  refine Sp.enter Try.func40 rfl (by kernel_rfl) (by kernel_rfl) ?_
  refine WC.seq ?_
  refine WC.region ?_
  refine WL.r 3 rfl ?_
  refine WL.nil ?_
  refine WC.seq ?_
  refine WC.seq ?_
  refine WC.region ?_
  obtain ⟨⟨xm, xu, xc⟩, hS⟩ := St.exOpen (f := txF x a rt xs q S) hS
  replace hS : St g (cel x #[.pointer (some ⟨a, 0, none⟩), .int .u32 rt, .bool false, .map (some xm), .slice xu (List.length (en2 S)) xc] 145 :: blk xm (.map (mE (List.map wK xs)) q) :: Own 153 2 (en2 S) xu xc :: Arn a A :: L) w := hS
  refine WL.run 4 [.bool false] rfl (by exact hS.ld 0 rfl rfl) ?_
  refine WL.nil ?_
  refine WC.ifF rfl rfl ?_
  refine WC.skip ?_
  refine WC.seq ?_
  refine WC.seq ?_
  refine WC.region ?_
  refine WL.run 5 [.map (some xm)] rfl (by exact hS.ld 0 rfl rfl) ?_
  refine WL.lk rfl rfl mt_142 1 hS rfl rfl rfl (by first | trivial | rfl) (r := some (j, .agg #[.bool e.p, .int .i64 e.v])) (hek ▸ ki_in (f := wK) (n := WE.k) hW.k.key hW.k.uniq he) rfl ?_
  refine WL.r 3 rfl ?_
  refine WL.new rfl rfl zv_148 hS (fun b1 w hS => ?_)
  refine WL.stF rfl rfl rfl 0 hS rfl rfl rfl rfl rfl ag_148 (fun w hS => ?_)
  replace hS : St g (cel b1 #[.bool e.p, .int .i64 e.v] 148 :: cel x #[.pointer (some ⟨a, 0, none⟩), .int .u32 rt, .bool false, .map (some xm), .slice xu (List.length (en2 S)) xc] 145 :: blk xm (.map (mE (List.map wK xs)) q) :: Own 153 2 (en2 S) xu xc :: Arn a A :: L) w := hS
  refine WL.r 1 rfl ?_
  refine WL.nil ?_
  as_aux_lemma =>
    refine WC.seq ?_
    refine WC.region ?_
    refine WL.r 1 rfl ?_
    refine WL.nil ?_
    refine WC.ifT rfl rfl ?_
    refine WC.seq ?_
    refine WC.plan [([0, 2, 1, 3, 4, 5, 6], none)] (by kernel_rfl) (by kernel_rfl) ?_
    refine WQ.run 7 [.int .i64 e.v, .bool e.p] rfl (by exact ⟨hS.ld 0 rfl rfl, hS.ld 0 rfl rfl⟩) ?_
    refine WQ.nil ?_
    intro m1
    replace hS := hS.drewN m1; generalize hwm1 : World.drewN _ _ = w at *; clear hwm1
    refine WC.ret ?_
    replace hS := St.exClose (f := txF x a rt xs q S) (L := cel b1 #[.bool e.p, .int .i64 e.v] 148 :: Arn a A :: L) ⟨xm, xu, xc⟩ ((hS.sel 4 [1, 1, 1, 0] rfl))
    replace hS : St g (Tx x a rt xs q S :: cel b1 #[.bool e.p, .int .i64 e.v] 148 :: Arn a A :: L) w := hS
    refine ⟨[.int .i64 e.v, .bool e.p, .int .i64 0], ⟨rfl, rfl, rfl⟩, ?_⟩
    replace hS := (hS.sel 2 [0] rfl)
    exact ⟨rfl, hS⟩
theorem tx_get2 {g w : World} {L : List HP} (x a : Nat) (rt : Int) (xs : List WE) (q : Nat) (S : Kvs) (M : Wrs) (A : AM) (R : List Int) (k : Int) (t : Tr) (hW : WOk xs q M) (hn : ∀ e ∈ xs, e.k ≠ k) (hA : ARf A R) (hi : Is A t rt) (hk : i64R k) (hR : SpR S) (hSl : S.length ≤ 100000) (hS : St g (Tx x a rt xs q S :: Arn a A :: L) w) :
    Sp Try.prog 40 [.pointer (some ⟨x, 0, none⟩), .int .i64 k] w (fun v w' => v = .tuple #[.int .i64 ((Tr.get k t).getD 0), .bool (Tr.get k t).isSome, .int .i64 0] ∧ St g (Tx x a rt xs q (rdF k k S) :: Arn a A :: L) w') := by
  refine Sp.enter Try.func40 rfl (by kernel_rfl) (by kernel_rfl) ?_
  refine WC.seq ?_
  refine WC.region ?_
  refine WL.r 3 rfl ?_
  refine WL.nil ?_
  refine WC.seq ?_
  refine WC.seq ?_
  refine WC.region ?_
  obtain ⟨⟨xm, xu, xc⟩, hS⟩ := St.exOpen (f := txF x a rt xs q S) hS
  replace hS : St g (cel x #[.pointer (some ⟨a, 0, none⟩), .int .u32 rt, .bool false, .map (some xm), .slice xu (List.length (en2 S)) xc] 145 :: blk xm (.map (mE (List.map wK xs)) q) :: Own 153 2 (en2 S) xu xc :: Arn a A :: L) w := hS
  refine WL.run 4 [.bool false] rfl (by exact hS.ld 0 rfl rfl) ?_
  refine WL.nil ?_
  refine WC.ifF rfl rfl ?_
  refine WC.skip ?_
  refine WC.seq ?_
  refine WC.seq ?_
  refine WC.region ?_
  refine WL.run 5 [.map (some xm)] rfl (by exact hS.ld 0 rfl rfl) ?_
  refine WL.lk rfl rfl mt_142 1 hS rfl rfl rfl (by first | trivial | rfl) (r := none) (ki_out (f := wK) (n := WE.k) hW.k.key hn) rfl ?_
  refine WL.r 3 rfl ?_
  refine WL.new rfl rfl zv_148 hS (fun b1 w hS => ?_)
  refine WL.stF rfl rfl rfl 0 hS rfl rfl rfl rfl rfl ag_148 (fun w hS => ?_)
  replace hS : St g (cel b1 #[.bool false, .int .i64 0] 148 :: cel x #[.pointer (some ⟨a, 0, none⟩), .int .u32 rt, .bool false, .map (some xm), .slice xu (List.length (en2 S)) xc] 145 :: blk xm (.map (mE (List.map wK xs)) q) :: Own 153 2 (en2 S) xu xc :: Arn a A :: L) w := hS
  refine WL.r 1 rfl ?_
  refine WL.nil ?_
  as_aux_lemma =>
    refine WC.seq ?_
    refine WC.region ?_
    refine WL.r 1 rfl ?_
    refine WL.nil ?_
    refine WC.ifF rfl rfl ?_
    refine WC.skip ?_
    refine WC.seq ?_
    refine WC.region ?_
    replace hS := St.exClose (f := txF x a rt xs q S) (L := cel b1 #[.bool false, .int .i64 0] 148 :: Arn a A :: L) ⟨xm, xu, xc⟩ ((hS.sel 4 [1, 1, 1, 0] rfl))
    replace hS : St g (Tx x a rt xs q S :: cel b1 #[.bool false, .int .i64 0] 148 :: Arn a A :: L) w := hS
    refine WL.r 3 rfl ?_
    refine WL.call rfl rfl (tx_read (x := x) (a := a) (rt := rt) (xs := xs) (q := q) (S := S) (lo := k) (hi := k) (hlo := hk) (hhi := hk) (hR := hR) (hSl := hSl) (hS := hS)) rfl ?_
    clear hS; rintro _ w ⟨rfl, hS⟩
    replace hS : St g (Tx x a rt xs q (rdF k k S) :: cel b1 #[.bool false, .int .i64 0] 148 :: Arn a A :: L) w := hS
    refine WL.nil ?_
    refine WC.seq ?_
    refine WC.plan [([0, 4, 8, 1, 5, 2, 6, 3, 7], some (9, [])), ([10, 11, 12, 13, 14], none)] (by kernel_rfl) (by kernel_rfl) ?_
    obtain ⟨⟨xm, xu, xc⟩, hS⟩ := St.exOpen (f := txF x a rt xs q (rdF k k S)) hS
    replace hS : St g (cel x #[.pointer (some ⟨a, 0, none⟩), .int .u32 rt, .bool false, .map (some xm), .slice xu (List.length (en2 (rdF k k S))) xc] 145 :: blk xm (.map (mE (List.map wK xs)) q) :: Own 153 2 (en2 (rdF k k S)) xu xc :: cel b1 #[.bool false, .int .i64 0] 148 :: Arn a A :: L) w := hS
    refine WQ.run 9 [.pointer (some ⟨a, 0, none⟩), .int .u32 rt] rfl (by exact ⟨hS.ld 0 rfl rfl, hS.ld 0 rfl rfl⟩) ?_
    refine WQ.nil ?_
    intro m1
    replace hS := hS.drewN m1; generalize hwm1 : World.drewN _ _ = w at *; clear hwm1
    refine WL.call rfl rfl (lk_get (a := a) (A := A) (R := R) (i := rt) (k := k) (t := t) (hA := hA) (hi := hi) (hS := (hS.sel 5 [4, 0, 0, 0, 0] rfl))) rfl ?_
    clear hS; rintro _ w ⟨rfl, hS⟩
    replace hS : St g (Arn a A :: cel x #[.pointer (some ⟨a, 0, none⟩), .int .u32 rt, .bool false, .map (some xm), .slice xu (List.length (en2 (rdF k k S))) xc] 145 :: blk xm (.map (mE (List.map wK xs)) q) :: Own 153 2 (en2 (rdF k k S)) xu xc :: cel b1 #[.bool false, .int .i64 0] 148 :: L) w := hS
    refine WL.nil ?_
    refine ⟨by exact trivial, ?_⟩
    refine WQ.r 5 rfl ?_
    refine WQ.nil ?_
    intro m2
    replace hS := hS.drewN m2; generalize hwm2 : World.drewN _ _ = w at *; clear hwm2
    as_aux_lemma =>
      refine WC.seq ?_
      refine WC.region ?_
      refine WL.r 5 rfl ?_
      refine WL.nil ?_
      refine WC.ret ?_
      replace hS := St.exClose (f := txF x a rt xs q (rdF k k S)) (L := Arn a A :: cel b1 #[.bool false, .int .i64 0] 148 :: L) ⟨xm, xu, xc⟩ ((hS.sel 4 [1, 1, 1, 0] rfl))
      replace hS : St g (Tx x a rt xs q (rdF k k S) :: Arn a A :: cel b1 #[.bool false, .int .i64 0] 148 :: L) w := hS
      refine ⟨[.int .i64 ((Tr.get k t).getD 0), .bool (Tr.get k t).isSome, .int .i64 0], ⟨rfl, rfl, rfl⟩, ?_⟩
      replace hS := (hS.sel 3 [0, 0] rfl)
      exact ⟨rfl, hS⟩
/-- what Get reads -/
def vGet (k : Int) (M : Wrs) (t : Tr) : Int × Bool := match wget k M with
  | some y => (y.2, y.1)
  | none => ((Tr.get k t).getD 0, (Tr.get k t).isSome)
def gSp (k : Int) (M : Wrs) (S : Kvs) : Kvs := if (wget k M).isSome then S else rdF k k S
theorem tx_get {g w : World} {L : List HP} (x a : Nat) (rt : Int) (xs : List WE) (q : Nat) (S : Kvs) (M : Wrs) (A : AM) (R : List Int) (k : Int) (t : Tr) (hW : WOk xs q M) (hA : ARf A R) (hi : Is A t rt) (hk : i64R k) (hR : SpR S) (hSl : S.length ≤ 100000) (hS : St g (Tx x a rt xs q S :: Arn a A :: L) w) :
    Sp Try.prog 40 [.pointer (some ⟨x, 0, none⟩), .int .i64 k] w (fun v w' => v = .tuple #[.int .i64 (vGet k M t).1, .bool (vGet k M t).2, .int .i64 0] ∧ St g (Tx x a rt xs q (gSp k M S) :: Arn a A :: L) w') := by
  rcases ki_cases WE.k xs k with ⟨j, e, he, hek⟩ | hn
  · have h1 : wget k M = some (e.p, e.v) := hek ▸ hW.get he
    have h2 : vGet k M t = (e.v, e.p) := by unfold vGet; rw [h1]
    have h3 : gSp k M S = S := by unfold gSp; rw [h1]; rfl
    rw [h2, h3]
    exact tx_get1 x a rt xs q S M A j e k hW he hek hS
  · have h1 : wget k M = none := hW.no hn
    have h2 : vGet k M t = ((Tr.get k t).getD 0, (Tr.get k t).isSome) := by unfold vGet; rw [h1]
    have h3 : gSp k M S = rdF k k S := by unfold gSp; rw [h1]; rfl
    rw [h2, h3]
    exact tx_get2 x a rt xs q S M A R k t hW hn hA hi hk hR hSl hS
end Go.Proofs.Ytlnlnebibgdjdaa
