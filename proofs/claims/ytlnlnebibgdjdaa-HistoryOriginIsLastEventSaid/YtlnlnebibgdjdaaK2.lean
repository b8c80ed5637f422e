/-
  The helpers of the statements: List, Grow.
  Conditions: sizes.
-/
import Derived.Test.YtlnlnebibgdjdaaK1
import Derived.Test.YtlnlnebibgdjdaaLi
import Derived.Test.YtlnlnebibgdjdaaVra
namespace Go.Proofs.Ytlnlnebibgdjdaa
open Go Go.V

def mkL (raw : Kvs) (k : Nat) : Kvs := (raw.take k).foldl (fun l e => lins e.1 e.2 l) []
theorem mkL_succ {raw : Kvs} {k : Nat} {e : Int × Int} (h : raw[k]? = some e) : mkL raw (k + 1) = lins e.1 e.2 (mkL raw k) := by
  unfold mkL
  rw [List.take_add_one, h, List.foldl_append]; rfl
theorem mkL_srt (raw : Kvs) : ∀ k, Srt (mkL raw k) ∧ (mkL raw k).length ≤ k
  | 0 => ⟨List.Pairwise.nil, Nat.le_refl _⟩
  | k + 1 => by
    obtain ⟨h1, h2⟩ := mkL_srt raw k
    cases h : raw[k]? with
    | none =>
      have : mkL raw (k + 1) = mkL raw k := by unfold mkL; rw [List.take_add_one, h]; simp
      rw [this]; exact ⟨h1, by omega⟩
    | some e =>
      rw [mkL_succ h, lins_len h1]
      exact ⟨lins_srt h1, by split <;> omega⟩
theorem mkL_end {raw : Kvs} {k m : Nat} (h : ¬ (k < raw.length ∧ k < m)) (hk : k ≤ raw.length ∧ k ≤ m) : mkL raw k = mkL raw m := by
  unfold mkL
  by_cases h1 : k = m
  · rw [h1]
  · rw [List.take_of_length_le (show raw.length ≤ k by omega), List.take_of_length_le (show raw.length ≤ m by omega)]
theorem kt_list {g w : World} {L : List HP} (raw : Kvs) (u : Option Addr) (d : Nat) (most : Int) (hm : 0 ≤ most ∧ most ≤ 1000) (hS : St g (Sh 46 2 (en2 raw) u d :: L) w) :
    Sp Try.prog 39 [.slice u (List.length (en2 raw)) d, .int .i64 most] w (fun v w' => ∃ (a2 : Option Addr) (c2 : Nat), v = .slice a2 (List.length (en2 (mkL raw most.toNat))) c2 ∧ St g (Own 46 2 (en2 (mkL raw most.toNat)) a2 c2 :: Sh 46 2 (en2 raw) u d :: L) w') := by
  refine Sp.enter Try.func39 rfl (by kernel_rfl) (by kernel_rfl) ?_
  refine WC.seq ?_
  refine WC.region ?_
  refine WL.r 1 rfl ?_
  refine WL.nil ?_
  refine WC.seq ?_
  refine WC.region ?_
  have hll := en2_len raw
  refine WL.r 1 rfl ?_
  refine WL.nil ?_
  refine WC.seq ?_
  refine WC.seq ?_
  refine WC.region ?_
  refine WL.r 1 rfl ?_
  refine WL.nil ?_
  refine WC.block ?_
  replace hS := hS.nil_ 46 2
  refine WC.loop [0, 1, 4, 5, 6] (fun kM vs w => ∃ (k : Nat) (m : Kvs) (ua : Option Addr) (uc : Nat), vs = [.slice u (List.length (en2 raw)) d, .int .i64 most, .slice none 0 0, .slice ua (List.length (en2 m)) uc, .int .i64 (k : Int)] ∧ St g (Own 46 2 (en2 m) ua uc :: Sh 46 2 (en2 raw) u d :: L) w ∧ (k ≤ raw.length ∧ k ≤ most) ∧ (m = mkL raw k) ∧ (raw.length - k) = kM) ((List.length raw) - 0) ⟨0, [], none, 0, rfl, hS, (by omega), (rfl), rfl⟩ ?_
  clear hS; rintro _ _ w j ⟨k, m, ua, uc, rfl, hS, hk, hm, rfl⟩
  refine WC.seq ?_
  refine WC.seq ?_
  refine WC.region ?_
  refine WL.r 4 rfl ?_
  refine WL.rG 5 rfl (fun j => ?_)
  refine WL.prop 15 rfl (band (dd _) (dd _)) ?_
  refine WL.nil ?_
  as_aux_lemma =>
    refine WC.ifP rfl (fun cd1 => ?_) (fun cd1 => ?_)
    · refine WC.skip ?_
      refine WC.seq ?_
      refine WC.block ?_
      refine WC.region ?_
      refine WL.r 3 rfl ?_
      obtain ⟨e, he⟩ : ∃ e, raw[k]? = some e := ⟨_, List.getElem?_eq_getElem (by omega)⟩; have hms := mkL_srt raw k; rw [← hm] at hms
      refine WL.ix rfl rfl (i := (k : Int)) (k) el_36 rfl rfl (by omega) (by omega) (hS.rdS 1 rfl (en2_at he)).1 ?_
      refine WL.ldC rfl rfl [.int .i64 e.1, .int .i64 e.2] ag_46 rfl (hS.rdS 1 rfl (en2_at he)).2 ?_
      replace hS := (hS.at_ 0 rfl).share
      replace hS : St g (Sh 46 2 (en2 m) ua uc :: Sh 46 2 (en2 raw) u d :: L) w := hS
      refine WL.call rfl rfl (ref_ins (l := m) (u := ua) (d := uc) (k := e.1) (z := e.2) (hs := hms.1) (hl := (by omega)) (hS := hS)) rfl ?_
      clear hS; rintro _ w ⟨a1, c1, rfl, hS⟩
      replace hS : St g (Own 46 2 (en2 (lins e.1 e.2 m)) a1 c1 :: Sh 46 2 (en2 m) ua uc :: Sh 46 2 (en2 raw) u d :: L) w := hS
      refine WL.r 1 rfl ?_
      refine WL.nil ?_
      refine WC.region ?_
      refine WL.r 2 rfl ?_
      refine WL.nw 17 rfl (w64 (by omega)) ?_
      refine WL.r 1 rfl ?_
      refine WL.nil ?_
      exact ⟨_, by omega, k + 1, lins e.1 e.2 m, a1, c1, rfl, (hS.sel 2 [0] rfl), (by omega), (by rw [hm, mkL_succ he]), rfl⟩
    · refine WC.exit ?_
      refine WC.seq ?_
      refine WC.region ?_
      refine WL.r 2 rfl ?_
      refine WL.nil ?_
      refine WC.ret ?_
      refine ⟨[.slice ua (List.length (en2 m)) uc], rfl, ?_⟩
      have e9 := mkL_end (raw := raw) (k := k) (m := most.toNat) (by omega) ⟨hk.1, by omega⟩; rw [← hm] at e9; rw [e9] at hS ⊢; exact ⟨_, _, rfl, hS⟩
theorem kt_grow {g w : World} {L : List HP} (l : Kvs) (u : Option Addr) (d : Nat) (q sp : Int) (hl : l.length ≤ 1000) (hs : 0 ≤ sp ∧ 1 ≤ l.length + sp ∧ sp ≤ 60000) (hq : 0 ≤ q ∧ q < 18446744073709551616) (hS : St g (Sh 46 2 (en2 l) u d :: L) w) :
    Sp Try.prog 32 [.slice u (List.length (en2 l)) d, .int .u64 q, .int .i64 sp] w (fun v w' => ∃ (a : Nat) (A : AM) (i : Int) (t : Tr), v = .tuple #[.pointer (some ⟨a, 0, none⟩), .int .u32 i, .bool true] ∧ St g (Arn a A :: Sh 46 2 (en2 l) u d :: L) w' ∧ (ARf A [i]) ∧ (Is A t i) ∧ (t.ok) ∧ (t.ls = l) ∧ (sp ≤ A.s.free)) := by
  refine Sp.enter Try.func32 rfl (by kernel_rfl) (by kernel_rfl) ?_
  have _ := hs
  have _ := hl
  refine WC.seq ?_
  refine WC.region ?_
  refine WL.r 3 rfl ?_
  refine WL.nil ?_
  refine WC.seq ?_
  refine WC.region ?_
  have hll := en2_len l; have hcp : 1 ≤ ((l.length : Int) + sp).toNat ∧ ((l.length : Int) + sp).toNat ≤ 65536 := (by omega); have hrf := AM.new_rf hcp; have hfr : (AM.new ((l.length : Int) + sp).toNat).s.free = (((l.length : Int) + sp).toNat : Int) := SM.new_free ((l.length : Int) + sp).toNat
  refine WL.r 4 rfl ?_
  refine WL.reb 17 (.int .i64 ((List.length l : Int) + sp)) (congrArg (Value.int .i64) (by rw [hll, w64 (by omega)])) ?_
  refine WL.call rfl rfl (ar_new_ok (cap := (List.length l : Int) + sp) (hc := (by omega)) (hS := hS)) rfl ?_
  clear hS; rintro _ w ⟨a1, rfl, hS⟩
  replace hS : St g (Arn a1 (AM.new ((List.length l : Int) + sp).toNat) :: Sh 46 2 (en2 l) u d :: L) w := hS
  refine WL.r 5 rfl ?_
  refine WL.nil ?_
  refine WC.seq ?_
  refine WC.seq ?_
  refine WC.region ?_
  refine WL.r 2 rfl ?_
  refine WL.rG 4 rfl (fun j => ?_)
  refine WL.nil ?_
  refine WC.ifF rfl (by simp) ?_
  refine WC.skip ?_
  refine WC.seq ?_
  refine WC.region ?_
  refine WL.r 3 rfl ?_
  refine WL.call rfl rfl (kt_plant (a := a1) (A := AM.new ((List.length l : Int) + sp).toNat) (R := []) (l := l) (u := u) (d := d) (q := q) (hA := hrf) (hf := (by omega)) (hl := (by omega)) (hz := (by simp; omega)) (hq := hq) (hS := hS)) rfl ?_
  clear hS; rintro _ w ⟨A1, i1, t1, rfl, hS, f1, f2, f3⟩
  replace hS : St g (Arn a1 A1 :: Sh 46 2 (en2 l) u d :: L) w := hS
  refine WL.r 5 rfl ?_
  refine WL.nil ?_
  as_aux_lemma =>
    refine WC.seq ?_
    refine WC.region ?_
    refine WL.r 6 rfl ?_
    refine WL.nil ?_
    refine WC.ret ?_
    refine ⟨[.pointer (some ⟨a1, 0, none⟩), .int .u32 i1, .bool true], ⟨rfl, rfl, rfl⟩, ?_⟩
    exact ⟨_, _, _, _, rfl, hS, f1.ref, f1.is, f2, f3, by have h := f1.fr; omega⟩
end Go.Proofs.Ytlnlnebibgdjdaa
