/-
  Insertion that copies the path, with its reservation.
  Conditions: counts are numbers of references; the tree is balanced and there are enough free slots.
-/
import Derived.Test.YtlnlnebibgdjdaaW5
namespace Go.Proofs.Ytlnlnebibgdjdaa
open Go Go.V

theorem TOp.held {A B : AM} {R : List Int} {i j : Int} {t : Tr} {c : Nat} (h : TOp (A.ret i) B R j t c) : TOp A B R j t c :=
  ⟨h.ref, h.is, (Kp.ret A i R).trans h.kp, by have := h.fr; rw [(AM.ret_same _ _).1] at this; exact this, by rw [h.cap, (AM.ret_same _ _).1]⟩
theorem get_of {k z : Int} {t : Tr} (h1 : (Tr.get k t).isSome = true) (h2 : (Tr.get k t).getD 0 = z) : Tr.get k t = some z := by
  cases hg : Tr.get k t with
  | none => rw [hg] at h1; cases h1
  | some y => rw [hg] at h2; rw [show y = z from h2]
set_option maxHeartbeats 1000000 in
set_option maxRecDepth 8192 in
theorem up_ins {g w : World} {L : List HP} (a : Nat) (A : AM) (R : List Int) (i k z : Int) (t : Tr) (hA : ARf A R) (hi : Is A t i) (hb : t.ok) (hn : t.n ≤ 65535) (hf : 4 * ((Tr.mxH (t.n + 1) : Int) + 2) ≤ A.s.free) (hz : R.length ≤ 500000000) (hS : St g (Arn a A :: L) w) :
    Sp Try.prog 19 [.pointer (some ⟨a, 0, none⟩), .int .u32 i, .agg #[.int .i64 k, .int .i64 z]] w (fun v w' => ∃ (A2 : AM) (j : Int), v = .tuple #[.int .u32 j, .int .i64 ((Tr.get k t).getD 0), .bool (Tr.get k t).isSome, .int .i64 0] ∧ St g (Arn a A2 :: L) w' ∧ (TOp A A2 R j (Tr.ins k z t) (4 * (Tr.mxH (t.n + 1) + 2)))) := by
  refine Sp.enter Try.func19 rfl (by kernel_rfl) (by kernel_rfl) ?_
  have _ := hz
  have _ := hf
  have _ := hn
  refine WC.seq ?_
  refine WC.region ?_
  refine WL.box rfl rfl #[.int .i64 k, .int .i64 z] hS rfl rfl (fun b1 w hS => ?_)
  refine WL.r 4 rfl ?_
  refine WL.nil ?_
  refine WC.seq ?_
  refine WC.region ?_
  refine WL.run 4 [.int .i64 k] rfl (by exact hS.ld 0 rfl rfl) ?_
  refine WL.call rfl rfl (lk_get (a := a) (A := A) (R := R) (i := i) (k := k) (t := t) (hA := hA) (hi := hi) (hS := (hS.sel 2 [1, 0] rfl))) rfl ?_
  clear hS; rintro _ w ⟨rfl, hS⟩
  replace hS : St g (Arn a A :: cel b1 #[.int .i64 k, .int .i64 z] 46 :: L) w := hS
  refine WL.r 5 rfl ?_
  refine WL.nil ?_
  refine WC.seq ?_
  refine WC.seq ?_
  refine WC.region ?_
  refine WL.r 1 rfl ?_
  refine WL.runG 6 [.int .i64 z] rfl (by exact (fun _ => hS.ld 1 rfl rfl)) (fun j => ?_)
  refine WL.prop 26 rfl (band (dv _) (dd _)) ?_
  refine WL.nil ?_
  refine WC.ifP rfl (fun hc => ?_) (fun hc => ?_)
  · refine WC.seq ?_
    refine WC.region ?_
    refine WL.r 2 rfl ?_
    refine WL.call rfl rfl (tw_hold (a := a) (A := A) (R := R) (i := i) (hA := hA) (hi := hi.ref) (hz := (by omega)) (hS := hS)) rfl ?_
    clear hS; rintro _ w ⟨rfl, hS, f1⟩
    replace hS : St g (Arn a (A.ret i) :: cel b1 #[.int .i64 k, .int .i64 z] 46 :: L) w := hS
    refine WL.r 5 rfl ?_
    refine WL.nil ?_
    as_aux_lemma =>
      refine WC.ret ?_
      refine ⟨[.int .u32 i, .int .i64 ((Tr.get k t).getD 0), .bool true, .int .i64 0], ⟨rfl, rfl, rfl, rfl⟩, ?_⟩
      replace hS := (hS.sel 2 [0] rfl)
      have hg := get_of hc.1 hc.2; exact ⟨_, _, by rw [hg]; rfl, hS, by rw [Tr.ins_same k z t hb hg]; exact (TOp.held (ARf.refl f1 (hi.ret i))).weak (Nat.zero_le _)⟩
  · refine WC.skip ?_
    refine WC.seq ?_
    refine WC.seq ?_
    refine WC.region ?_
    refine WL.r 3 rfl ?_
    refine WL.call rfl rfl (tr_size (a := a) (A := A) (R := R) (i := i) (t := t) (hA := hA) (hi := hi) (hS := hS)) rfl ?_
    clear hS; rintro _ w ⟨rfl, hS⟩
    replace hS : St g (Arn a A :: cel b1 #[.int .i64 k, .int .i64 z] 46 :: L) w := hS
    refine WL.call rfl rfl (rs_ins (n := t.n) (hn := (by omega)) (hS := hS)) rfl ?_
    clear hS; rintro _ w ⟨rfl, hS⟩
    replace hS : St g (Arn a A :: cel b1 #[.int .i64 k, .int .i64 z] 46 :: L) w := hS
    refine WL.call rfl rfl (tw_room (a := a) (A := A) (n := 4 * ((Tr.mxH (t.n + 1) : Int) + 2)) (hA := hA.toAWf) (hS := hS)) rfl ?_
    clear hS; rintro _ w ⟨rfl, hS⟩
    replace hS : St g (Arn a A :: cel b1 #[.int .i64 k, .int .i64 z] 46 :: L) w := hS
    refine WL.r 1 rfl ?_
    refine WL.prop 37 rfl (bnot (dd _)) ?_
    refine WL.nil ?_
    as_aux_lemma =>
      refine WC.ifF rfl (decide_eq_false ((by have := Tr.mxH_le (t.n + 1); simp; omega))) ?_
      refine WC.skip ?_
      refine WC.seq ?_
      refine WC.plan [([0, 1, 2, 4, 6, 7], some (3, [0, 4, 6, 7])), ([], some (5, [6, 7])), ([8, 9, 10, 11], none)] (by kernel_rfl) (by kernel_rfl) ?_
      refine WQ.r 3 rfl ?_
      refine WQ.ldF rfl rfl 1 hS rfl rfl ag_46 ?_
      refine WQ.r 2 rfl ?_
      refine WQ.nil ?_
      intro m1
      replace hS := hS.drewN m1; generalize hwm1 : World.drewN _ _ = w at *; clear hwm1
      refine WL.call rfl rfl (tw_hold (a := a) (A := A) (R := R) (i := i) (hA := hA) (hi := hi.ref) (hz := (by omega)) (hS := hS)) rfl ?_
      clear hS; rintro _ w ⟨rfl, hS, f1⟩
      replace hS : St g (Arn a (A.ret i) :: cel b1 #[.int .i64 k, .int .i64 z] 46 :: L) w := hS
      refine WL.nil ?_
      refine ⟨by exact ⟨RQ.pure rfl rfl rfl rfl, RQ.ldF rfl rfl 1 hS rfl rfl ag_46 rfl rfl, RQ.pure rfl rfl rfl rfl, RQ.pure rfl rfl rfl rfl⟩, ?_⟩
      refine WQ.nil ?_
      intro m2
      replace hS := hS.drewN m2; generalize hwm2 : World.drewN _ _ = w at *; clear hwm2
      refine WL.call rfl rfl (tw_ins (a := a) (A := A.ret i) (R := R) (i := i) (k := k) (z := z) (t := t) (hA := f1) (hi := hi.ret i) (hf := (by have := Tr.ic_res k z t hb (by omega); rw [(AM.ret_same _ _).1]; omega)) (hz := (by omega)) (hS := hS)) rfl ?_
      clear hS; rintro _ w ⟨A1, j1, rfl, hS, f2⟩
      replace hS : St g (Arn a A1 :: cel b1 #[.int .i64 k, .int .i64 z] 46 :: L) w := hS
      refine WL.nil ?_
      refine ⟨by exact ⟨RQ.pure rfl rfl rfl rfl, RQ.pure rfl rfl rfl rfl⟩, ?_⟩
      refine WQ.r 4 rfl ?_
      refine WQ.nil ?_
      intro m3
      replace hS := hS.drewN m3; generalize hwm3 : World.drewN _ _ = w at *; clear hwm3
      as_aux_lemma =>
        refine WC.ret ?_
        refine ⟨[.int .u32 j1, .int .i64 ((Tr.get k t).getD 0), .bool (Tr.get k t).isSome, .int .i64 0], ⟨rfl, rfl, rfl, rfl⟩, ?_⟩
        replace hS := (hS.sel 2 [0] rfl)
        exact ⟨_, _, rfl, hS, (TOp.held f2).weak (by have := Tr.ic_res k z t hb (by omega); omega)⟩
end Go.Proofs.Ytlnlnebibgdjdaa
