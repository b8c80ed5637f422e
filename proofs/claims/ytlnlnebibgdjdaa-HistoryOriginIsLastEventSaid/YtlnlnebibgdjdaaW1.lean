/-
  Trees: Node, Open, Size; Balanced.
  Conditions: counts are numbers of references.
-/
import Derived.Test.YtlnlnebibgdjdaaR3
import Derived.Test.YtlnlnebibgdjdaaTra
namespace Go.Proofs.Ytlnlnebibgdjdaa
open Go Go.V

theorem tr_rel {g w : World} {L : List HP} (a : Nat) (A : AM) (R : List Int) (i : Int) (hA : ARf A (i :: R)) (hR : R.length ≤ 900000000) (hS : St g (Arn a A :: L) w) :
    Sp Try.prog 21 [.pointer (some ⟨a, 0, none⟩), .int .u32 i] w (fun v w' => ∃ (A2 : AM) (f : Int), v = .tuple #[.int .i64 f, .int .i64 0] ∧ St g (Arn a A2 :: L) w' ∧ (Rl A A2 R) ∧ (f = A2.s.free - A.s.free)) := by
  exact (ar_rel a A R i hA hR hS).mono fun v w' ⟨A2, f, hv, hS', h1, h2, h3, h4⟩ => ⟨A2, f, hv, hS', ⟨h1, h2.kp h1, by omega, h2.cap⟩, h3⟩
theorem tr_size {g w : World} {L : List HP} (a : Nat) (A : AM) (R : List Int) (i : Int) (t : Tr) (hA : ARf A R) (hi : Is A t i) (hS : St g (Arn a A :: L) w) :
    Sp Try.prog 58 [.pointer (some ⟨a, 0, none⟩), .int .u32 i] w (fun v w' => v = .int .i64 (t.n : Int) ∧ St g (Arn a A :: L) w') := by
  have h := hA.okrng hi.ref
  rw [← Is.sz hA t i hi]
  exact ar_size a A i hA.toAWf (by omega) hS
theorem tw_node {g w : World} {L : List HP} (a : Nat) (A : AM) (R : List Int) (l r k z : Int) (tl tr : Tr) (hA : ARf A (l :: r :: R)) (hl : Is A tl l) (hr : Is A tr r) (hf : 0 < A.s.free) (hz : R.length + tl.n + tr.n ≤ 850000000) (hS : St g (Arn a A :: L) w) :
    Sp Try.prog 94 [.pointer (some ⟨a, 0, none⟩), .int .u32 l, .agg #[.int .i64 k, .int .i64 z], .int .u32 r] w (fun v w' => ∃ (A2 : AM) (i : Int), v = .int .u32 i ∧ St g (Arn a A2 :: L) w' ∧ (TOp A A2 R i (.node tl k z tr) 1)) := by
  refine Sp.enter Try.func94 rfl (by kernel_rfl) (by kernel_rfl) ?_
  have _ := hz
  refine WC.seq ?_
  refine WC.region ?_
  have hM := Mk.of (k := k) (v := z) hA hl hr hf (by omega) (by omega); have hrl := hA.rng (r := l) (by simp); have hrr := hA.rng (r := r) (by simp)
  refine WL.box rfl rfl #[.int .i64 k, .int .i64 z] hS rfl rfl (fun b1 w hS => ?_)
  refine WL.r 1 rfl ?_
  refine WL.nil ?_
  refine WC.seq ?_
  refine WC.region ?_
  refine WL.run 7 [.int .i64 k, .int .i64 z] rfl (by exact ⟨hS.ld 0 rfl rfl, hS.ld 0 rfl rfl⟩) ?_
  refine WL.call rfl rfl (ar_make (a := a) (A := A) (key := k) (val := z) (l := l) (r := r) (hA := hA.toAWf) (hK := hM.kd) (hf := hf) (hS := (hS.sel 2 [1, 0] rfl))) rfl ?_
  clear hS; rintro _ w ⟨rfl, hS⟩
  replace hS : St g (Arn a (A.make (A.nodeOf k z l r)) :: cel b1 #[.int .i64 k, .int .i64 z] 46 :: L) w := hS
  refine WL.r 5 rfl ?_
  refine WL.nil ?_
  refine WC.seq ?_
  refine WC.region ?_
  refine WL.r 2 rfl ?_
  refine WL.call rfl rfl (tr_rel (a := a) (A := A.make (A.nodeOf k z l r)) (R := A.s.next :: r :: R) (i := l) (hA := hM.p1) (hR := (by simp only [List.length_cons]; omega)) (hS := hS)) rfl ?_
  clear hS; rintro _ w ⟨A1, f1, rfl, hS, f2, f3⟩
  replace hS : St g (Arn a A1 :: cel b1 #[.int .i64 k, .int .i64 z] 46 :: L) w := hS
  refine WL.nil ?_
  refine WC.seq ?_
  refine WC.region ?_
  refine WL.r 2 rfl ?_
  refine WL.call rfl rfl (tr_rel (a := a) (A := A1) (R := A.s.next :: R) (i := r) (hA := f2.p1) (hR := (by simp only [List.length_cons]; omega)) (hS := hS)) rfl ?_
  clear hS; rintro _ w ⟨A2, f4, rfl, hS, f5, f6⟩
  replace hS : St g (Arn a A2 :: cel b1 #[.int .i64 k, .int .i64 z] 46 :: L) w := hS
  refine WL.nil ?_
  as_aux_lemma =>
    refine WC.seq ?_
    refine WC.region ?_
    refine WL.r 2 rfl ?_
    refine WL.nil ?_
    refine WC.ret ?_
    refine ⟨[.int .u32 A.s.next], rfl, ?_⟩
    replace hS := (hS.sel 2 [0] rfl)
    exact ⟨_, _, rfl, hS, hM.op f2 f5⟩
theorem perm3 (x y i : Int) (R : List Int) : (y :: x :: i :: R).Perm (i :: x :: y :: R) :=
  ((List.Perm.swap x y _).trans (List.Perm.cons x (List.Perm.swap i y R))).trans (List.Perm.swap i x _)
theorem tw_open {g w : World} {L : List HP} (a : Nat) (A : AM) (R : List Int) (i k z : Int) (l r : Tr) (hA : ARf A (i :: R)) (hi : Is A (.node l k z r) i) (hz : R.length ≤ 850000000) (hS : St g (Arn a A :: L) w) :
    Sp Try.prog 95 [.pointer (some ⟨a, 0, none⟩), .int .u32 i] w (fun v w' => ∃ (A2 : AM) (x y : Int), v = .tuple #[.int .u32 x, .agg #[.int .i64 k, .int .i64 z], .int .u32 y] ∧ St g (Arn a A2 :: L) w' ∧ (Opn A A2 R x y l r)) := by
  refine Sp.enter Try.func95 rfl (by kernel_rfl) (by kernel_rfl) ?_
  have _ := hz
  refine WC.seq ?_
  refine WC.region ?_
  obtain ⟨hi1, hi2, hik, hiv, hil, hir⟩ := hi; have hri := hA.rng (r := i) (by simp); have hrl := hA.okrng hil.ref; have hrr := hA.okrng hir.ref
  have hr1 := AM.ret_eq hA hil.ref (by simp; omega); have hr2 := AM.ret_eq hr1.1 (hir.ret (A.nd i).lf).ref (by simp; omega)
  refine WL.r 1 rfl ?_
  refine WL.new rfl rfl zv_46 hS (fun b1 w hS => ?_)
  refine WL.r 1 rfl ?_
  refine WL.nil ?_
  refine WC.seq ?_
  refine WC.region ?_
  refine WL.r 2 rfl ?_
  refine WL.call rfl rfl (ar_node (a := a) (A := A) (i := i) (hA := hA.toAWf) (hi := (by omega)) (hio := hi2) (hS := (hS.sel 2 [1, 0] rfl))) rfl ?_
  clear hS; rintro _ w ⟨rfl, hS⟩
  replace hS : St g (Arn a A :: cel b1 #[.int .i64 0, .int .i64 0] 46 :: L) w := hS
  refine WL.r 3 rfl ?_
  refine WL.new rfl rfl zv_123 hS (fun b2 w hS => ?_)
  refine WL.stF rfl rfl rfl 0 hS rfl rfl rfl rfl rfl ag_123 (fun w hS => ?_)
  replace hS : St g (cel b2 #[.int .i64 (A.nd i).key, .int .i64 (A.nd i).val, .int .u32 (A.nd i).lf, .int .u32 (A.nd i).rg, .int .i64 (A.nd i).size, .int .i64 (A.nd i).sum, .int .i64 (A.nd i).mn, .int .i64 (A.nd i).mx] 123 :: Arn a A :: cel b1 #[.int .i64 0, .int .i64 0] 46 :: L) w := hS
  refine WL.r 1 rfl ?_
  refine WL.nil ?_
  refine WC.seq ?_
  refine WC.seq ?_
  refine WC.region ?_
  refine WL.r 2 rfl ?_
  refine WL.nil ?_
  as_aux_lemma =>
    refine WC.ifF rfl rfl ?_
    refine WC.skip ?_
    refine WC.seq ?_
    refine WC.region ?_
    refine WL.run 3 [.int .u32 (A.nd i).lf] rfl (by exact hS.ld 0 rfl rfl) ?_
    refine WL.call rfl rfl (ar_retain (a := a) (A := A) (i := (A.nd i).lf) (hA := hA.toAWf) (hi := (by omega)) (hS := (hS.sel 2 [1, 0] rfl))) rfl ?_
    clear hS; rintro _ w ⟨rfl, hS⟩
    replace hS : St g (Arn a (A.ret (A.nd i).lf) :: cel b2 #[.int .i64 (A.nd i).key, .int .i64 (A.nd i).val, .int .u32 (A.nd i).lf, .int .u32 (A.nd i).rg, .int .i64 (A.nd i).size, .int .i64 (A.nd i).sum, .int .i64 (A.nd i).mn, .int .i64 (A.nd i).mx] 123 :: cel b1 #[.int .i64 0, .int .i64 0] 46 :: L) w := hS
    refine WL.nil ?_
    refine WC.seq ?_
    refine WC.region ?_
    refine WL.run 3 [.int .u32 (A.nd i).rg] rfl (by exact hS.ld 1 rfl rfl) ?_
    refine WL.call rfl rfl (ar_retain (a := a) (A := A.ret (A.nd i).lf) (i := (A.nd i).rg) (hA := hr1.1.toAWf) (hi := (by omega)) (hS := hS)) rfl ?_
    clear hS; rintro _ w ⟨rfl, hS⟩
    replace hS : St g (Arn a ((A.ret (A.nd i).lf).ret (A.nd i).rg) :: cel b2 #[.int .i64 (A.nd i).key, .int .i64 (A.nd i).val, .int .u32 (A.nd i).lf, .int .u32 (A.nd i).rg, .int .i64 (A.nd i).size, .int .i64 (A.nd i).sum, .int .i64 (A.nd i).mn, .int .i64 (A.nd i).mx] 123 :: cel b1 #[.int .i64 0, .int .i64 0] 46 :: L) w := hS
    refine WL.nil ?_
    refine WC.seq ?_
    refine WC.region ?_
    refine WL.r 2 rfl ?_
    refine WL.call rfl rfl (tr_rel (a := a) (A := (A.ret (A.nd i).lf).ret (A.nd i).rg) (R := (A.nd i).lf :: (A.nd i).rg :: R) (i := i) (hA := (hr2.1.perm (perm3 _ _ _ _))) (hR := (by simp only [List.length_cons]; omega)) (hS := hS)) rfl ?_
    clear hS; rintro _ w ⟨A1, f1, rfl, hS, f2, f3⟩
    replace hS : St g (Arn a A1 :: cel b2 #[.int .i64 (A.nd i).key, .int .i64 (A.nd i).val, .int .u32 (A.nd i).lf, .int .u32 (A.nd i).rg, .int .i64 (A.nd i).size, .int .i64 (A.nd i).sum, .int .i64 (A.nd i).mn, .int .i64 (A.nd i).mx] 123 :: cel b1 #[.int .i64 0, .int .i64 0] 46 :: L) w := hS
    refine WL.nil ?_
    refine WC.seq ?_
    refine WC.plan [([0, 2, 4, 7, 1, 3, 5, 8, 9], some (6, [0, 1, 7, 8, 9])), ([], some (10, [7, 8])), ([11], none)] (by kernel_rfl) (by kernel_rfl) ?_
    refine WQ.run 9 [.int .u32 (A.nd i).lf, .int .i64 (A.nd i).key, .int .i64 (A.nd i).val, .int .u32 (A.nd i).rg] rfl (by exact ⟨hS.ld 1 rfl rfl, hS.ld 1 rfl rfl, hS.ld 1 rfl rfl, hS.ld 1 rfl rfl⟩) ?_
    refine WQ.nil ?_
    intro m1
    replace hS := hS.drewN m1; generalize hwm1 : World.drewN _ _ = w at *; clear hwm1
    refine WL.build rfl rfl (cs := [.int .i64 (A.nd i).key, .int .i64 (A.nd i).val]) zv_46 rfl rfl ?_
    refine WL.nil ?_
    refine ⟨by exact ⟨RQ.pure rfl rfl rfl rfl, RQ.load rfl rfl rfl rfl (hS.ld 1 rfl rfl), RQ.pure rfl rfl rfl rfl, RQ.load rfl rfl rfl rfl (hS.ld 1 rfl rfl), RQ.pure rfl rfl rfl rfl⟩, ?_⟩
    refine WQ.nil ?_
    intro m2
    replace hS := hS.drewN m2; generalize hwm2 : World.drewN _ _ = w at *; clear hwm2
    refine WL.stF rfl rfl rfl 2 hS rfl rfl rfl rfl rfl ag_46 (fun w hS => ?_)
    replace hS : St g (Arn a A1 :: cel b2 #[.int .i64 (A.nd i).key, .int .i64 (A.nd i).val, .int .u32 (A.nd i).lf, .int .u32 (A.nd i).rg, .int .i64 (A.nd i).size, .int .i64 (A.nd i).sum, .int .i64 (A.nd i).mn, .int .i64 (A.nd i).mx] 123 :: cel b1 #[.int .i64 (A.nd i).key, .int .i64 (A.nd i).val] 46 :: L) w := hS
    refine WL.nil ?_
    refine ⟨by exact ⟨RQ.pure rfl rfl rfl rfl, RQ.load rfl rfl rfl rfl (hS.ld 1 rfl rfl)⟩, ?_⟩
    refine WQ.r 1 rfl ?_
    refine WQ.nil ?_
    intro m3
    replace hS := hS.drewN m3; generalize hwm3 : World.drewN _ _ = w at *; clear hwm3
    as_aux_lemma =>
      refine WC.ret ?_
      refine ⟨[.int .u32 (A.nd i).lf, .agg #[.int .i64 (A.nd i).key, .int .i64 (A.nd i).val], .int .u32 (A.nd i).rg], ⟨rfl, ⟨_, rfl, hS.lvF 2 rfl ag_46⟩, rfl⟩, ?_⟩
      replace hS := (hS.sel 3 [0] rfl)
      exact ⟨_, _, _, by rw [← hik, ← hiv]; rfl, hS, Opn.of ⟨hi1, hi2, hik, hiv, hil, hir⟩ f2⟩
theorem bif_and (p q : Prop) [Decidable p] [Decidable q] : (bif decide p then decide q else false) = decide (p ∧ q) := by
  by_cases h1 : p <;> by_cases h2 : q <;> simp [h1, h2]
theorem bal_spec {g w : World} {L : List HP} (x y : Int) (hx : 0 ≤ x ∧ x ≤ 2000000000) (hy : 0 ≤ y ∧ y ≤ 2000000000) (hS : St g (L) w) :
    Sp Try.prog 123 [.int .i64 x, .int .i64 y] w (fun v w' => v = .bool (decide (x + 1 ≤ 3 * (y + 1) ∧ y + 1 ≤ 3 * (x + 1))) ∧ St g (L) w') := by
  refine Sp.enter Try.func123 rfl (by kernel_rfl) (by kernel_rfl) ?_
  have _ := hy
  have _ := hx
  refine WC.seq ?_
  refine WC.region ?_
  refine WL.r 1 rfl ?_
  refine WL.nil ?_
  refine WC.seq ?_
  refine WC.seq ?_
  refine WC.region ?_
  refine WL.r 2 rfl ?_
  refine WL.rG 12 rfl (fun j => ?_)
  refine WL.prop 18 rfl (bor (bor (bor (dd _) (dd _)) (dd _)) (dd _)) ?_
  refine WL.nil ?_
  refine WC.ifF rfl (decide_eq_false ((by omega))) ?_
  refine WC.skip ?_
  refine WC.seq ?_
  refine WC.region ?_
  refine WL.r 2 rfl ?_
  refine WL.nw 20 rfl (w64 (by omega)) ?_
  refine WL.r 2 rfl ?_
  refine WL.nw 22 rfl (w64 (by omega)) ?_
  refine WL.r 1 rfl ?_
  refine WL.nw 23 rfl (w64 (by omega)) ?_
  refine WL.r 1 rfl ?_
  refine WL.rG 9 rfl (fun j => ?_)
  refine WL.prop 32 rfl (band (dd _) (dd _)) ?_
  refine WL.nil ?_
  as_aux_lemma =>
    refine WC.ret ?_
    refine ⟨[.bool (bif (decide ((x + 1) ≤ (3 * (y + 1)))) then (decide ((IntKind.i64.wrap (y + 1)) ≤ (IntKind.i64.wrap (3 * (IntKind.i64.wrap (x + 1)))))) else false)], rfl, ?_⟩
    exact ⟨congrArg Value.bool (by rw [w64 (z := y + 1) (by omega), w64 (z := x + 1) (by omega), w64 (z := 3 * (x + 1)) (by omega), bif_and]), hS⟩
end Go.Proofs.Ytlnlnebibgdjdaa
