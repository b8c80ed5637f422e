/-
  Trees: Join.
  Conditions: counts are numbers of references; there are enough free slots.
-/
import Derived.Test.YtlnlnebibgdjdaaW2
namespace Go.Proofs.Ytlnlnebibgdjdaa
open Go Go.V

theorem join_bal {l r : Tr} {k v : Int} (h : Bal l.n r.n) : Tr.join l k v r = .node l k v r := by
  cases l with
  | nil =>
    cases r with
    | nil => rw [Tr.join]
    | node m a b s => rw [Tr.join, if_pos (by simpa [Tr.n] using h)]
  | node s a b m =>
    cases r with
    | nil => rw [Tr.join, if_pos (by simpa [Tr.n] using h)]
    | node m' a' b' s' => rw [Tr.join, if_pos (by simpa [Tr.n] using h)]
theorem join_gt {s m r : Tr} {fk fv k v : Int} (h : ¬ Bal (Tr.node s fk fv m).n r.n) (hg : r.n < (Tr.node s fk fv m).n) : Tr.join (.node s fk fv m) k v r = Tr.bal s fk fv (Tr.join m k v r) ∧ Tr.jc (.node s fk fv m) r = Tr.jc m r + 3 := by
  cases r with
  | nil => rw [Tr.join, if_neg (by simpa [Tr.n] using h), Tr.jc, if_neg (by simpa [Tr.n] using h)]; exact ⟨rfl, rfl⟩
  | node m' a' b' s' =>
    have h2 : m'.n + s'.n < s.n + m.n := by simp only [Tr.n] at hg; omega
    rw [Tr.join, if_neg (by simpa [Tr.n] using h), if_pos h2, Tr.jc, if_neg (by simpa [Tr.n] using h), if_pos h2]; exact ⟨rfl, rfl⟩
theorem join_lt {l m s : Tr} {fk fv k v : Int} (h : ¬ Bal l.n (Tr.node m fk fv s).n) (hg : ¬ (Tr.node m fk fv s).n < l.n) : Tr.join l k v (.node m fk fv s) = Tr.bal (Tr.join l k v m) fk fv s ∧ Tr.jc l (.node m fk fv s) = Tr.jc l m + 3 := by
  cases l with
  | nil => rw [Tr.join, if_neg (by simpa [Tr.n] using h), Tr.jc, if_neg (by simpa [Tr.n] using h)]; exact ⟨rfl, rfl⟩
  | node s' a' b' m' =>
    have h2 : ¬ m.n + s.n < s'.n + m'.n := by simp only [Tr.n] at hg; omega
    rw [Tr.join, if_neg (by simpa [Tr.n] using h), if_neg h2, Tr.jc, if_neg (by simpa [Tr.n] using h), if_neg h2]; exact ⟨rfl, rfl⟩
theorem jc_pos (l r : Tr) : 1 ≤ Tr.jc l r := by
  cases l <;> cases r <;> rw [Tr.jc] <;> (repeat' split) <;> omega
set_option maxHeartbeats 1000000 in
set_option maxRecDepth 8192 in
theorem tw_join_step (nM : Nat) (ih : ∀ mM : Nat, mM < nM → ∀ (g w : World) (L : List HP) (a : Nat) (A : AM) (R : List Int) (l r k z : Int) (tl tr : Tr), (ARf A (l :: r :: R)) → (Is A tl l) → (Is A tr r) → ((Tr.jc tl tr : Int) ≤ A.s.free) → (R.length + tl.n + tr.n ≤ 700000000) → tl.n + tr.n = mM → St g (Arn a A :: L) w → Sp Try.prog 96 [.pointer (some ⟨a, 0, none⟩), .int .u32 l, .agg #[.int .i64 k, .int .i64 z], .int .u32 r] w (fun v w' => ∃ (A2 : AM) (i : Int), v = .int .u32 i ∧ St g (Arn a A2 :: L) w' ∧ (TOp A A2 R i (Tr.join tl k z tr) (Tr.jc tl tr)))) {g w : World} {L : List HP} (a : Nat) (A : AM) (R : List Int) (l r k z : Int) (tl tr : Tr) (hA : ARf A (l :: r :: R)) (hl : Is A tl l) (hr : Is A tr r) (hf : (Tr.jc tl tr : Int) ≤ A.s.free) (hz : R.length + tl.n + tr.n ≤ 700000000) (hM : tl.n + tr.n = nM) (hS : St g (Arn a A :: L) w) :
    Sp Try.prog 96 [.pointer (some ⟨a, 0, none⟩), .int .u32 l, .agg #[.int .i64 k, .int .i64 z], .int .u32 r] w (fun v w' => ∃ (A2 : AM) (i : Int), v = .int .u32 i ∧ St g (Arn a A2 :: L) w' ∧ (TOp A A2 R i (Tr.join tl k z tr) (Tr.jc tl tr))) := by
  refine Sp.enter Try.func96 rfl (by kernel_rfl) (by kernel_rfl) ?_
  have _ := hz
  have _ := hf
  refine WC.seq ?_
  refine WC.region ?_
  refine WL.box rfl rfl #[.int .i64 k, .int .i64 z] hS rfl rfl (fun b1 w hS => ?_)
  refine WL.r 1 rfl ?_
  refine WL.nil ?_
  refine WC.seq ?_
  refine WC.region ?_
  have hjp := jc_pos tl tr
  refine WL.r 2 rfl ?_
  refine WL.call rfl rfl (tr_size (a := a) (A := A) (R := l :: r :: R) (i := l) (t := tl) (hA := hA) (hi := hl) (hS := (hS.sel 2 [1, 0] rfl))) rfl ?_
  clear hS; rintro _ w ⟨rfl, hS⟩
  replace hS : St g (Arn a A :: cel b1 #[.int .i64 k, .int .i64 z] 46 :: L) w := hS
  refine WL.r 2 rfl ?_
  refine WL.call rfl rfl (tr_size (a := a) (A := A) (R := l :: r :: R) (i := r) (t := tr) (hA := hA) (hi := hr) (hS := hS)) rfl ?_
  clear hS; rintro _ w ⟨rfl, hS⟩
  replace hS : St g (Arn a A :: cel b1 #[.int .i64 k, .int .i64 z] 46 :: L) w := hS
  refine WL.r 2 rfl ?_
  refine WL.nil ?_
  refine WC.seq ?_
  refine WC.block ?_
  refine WC.seq ?_
  refine WC.region ?_
  refine WL.r 2 rfl ?_
  refine WL.call rfl rfl (bal_spec (x := (tl.n : Int)) (y := (tr.n : Int)) (hx := (by omega)) (hy := (by omega)) (hS := hS)) rfl ?_
  clear hS; rintro _ w ⟨rfl, hS⟩
  replace hS : St g (Arn a A :: cel b1 #[.int .i64 k, .int .i64 z] 46 :: L) w := hS
  refine WL.r 1 rfl ?_
  refine WL.nil ?_
  as_aux_lemma =>
    refine WC.ifP rfl (fun hb => ?_) (fun hb => ?_)
    · refine WC.seq ?_
      refine WC.region ?_
      refine WL.r 2 rfl ?_
      refine WL.ldF rfl rfl 1 hS rfl rfl ag_46 ?_
      refine WL.r 1 rfl ?_
      refine WL.call rfl rfl (tw_node (a := a) (A := A) (R := R) (l := l) (r := r) (k := k) (z := z) (tl := tl) (tr := tr) (hA := hA) (hl := hl) (hr := hr) (hf := (by omega)) (hz := (by omega)) (hS := hS)) rfl ?_
      clear hS; rintro _ w ⟨A1, i1, rfl, hS, f1⟩
      replace hS : St g (Arn a A1 :: cel b1 #[.int .i64 k, .int .i64 z] 46 :: L) w := hS
      refine WL.r 1 rfl ?_
      refine WL.nil ?_
      refine WC.ret ?_
      refine ⟨[.int .u32 i1], rfl, ?_⟩
      replace hS := (hS.sel 2 [0] rfl)
      exact ⟨_, _, rfl, hS, by have h9 : Bal tl.n tr.n := (by unfold Bal; omega); rw [join_bal h9, Tr.jc_bal h9]; exact f1⟩
    · refine WC.seq ?_
      refine WC.region ?_
      refine WL.r 4 rfl ?_
      refine WL.nil ?_
      refine WC.ifP rfl (fun hlt => ?_) (fun hlt => ?_)
      · refine WC.seq ?_
        refine WC.region ?_
        have hbn : ¬ Bal tl.n tr.n := (by unfold Bal; omega); obtain ⟨ts, fk, fz, tm, htl⟩ := not_nil (t := tl) (by omega); have htn : tl.n = ts.n + tm.n + 1 := (by rw [htl]; rfl); have hl2 : Is A (.node ts fk fz tm) l := htl ▸ hl; have hj := join_gt (k := k) (v := z) (r := tr) (by rw [← htl]; exact hbn) (by rw [← htl]; omega); rw [← htl] at hj
        refine WL.r 2 rfl ?_
        refine WL.call rfl rfl (tw_open (a := a) (A := A) (R := r :: R) (i := l) (k := fk) (z := fz) (l := ts) (r := tm) (hA := hA) (hi := hl2) (hz := (by simp only [List.length_cons]; omega)) (hS := hS)) rfl ?_
        clear hS; rintro _ w ⟨A1, x1, y1, rfl, hS, f1⟩
        replace hS : St g (Arn a A1 :: cel b1 #[.int .i64 k, .int .i64 z] 46 :: L) w := hS
        refine WL.r 4 rfl ?_
        refine WL.new rfl rfl zv_46 hS (fun b2 w hS => ?_)
        refine WL.r 1 rfl ?_
        refine WL.stF rfl rfl rfl 0 hS rfl rfl rfl rfl rfl ag_46 (fun w hS => ?_)
        replace hS : St g (cel b2 #[.int .i64 fk, .int .i64 fz] 46 :: Arn a A1 :: cel b1 #[.int .i64 k, .int .i64 z] 46 :: L) w := hS
        refine WL.r 1 rfl ?_
        refine WL.nil ?_
        refine WC.seq ?_
        refine WC.plan [([0, 1, 2, 3, 4, 5, 6], some (7, [0, 1, 2])), ([], some (8, [])), ([9], none)] (by kernel_rfl) (by kernel_rfl) ?_
        have hr1 := f1.rng; have hr2 := f1.kp r (by simp) tr hr; have hfr1 := f1.fr
        refine WQ.r 2 rfl ?_
        refine WQ.ldF rfl rfl 0 hS rfl rfl ag_46 ?_
        refine WQ.r 2 rfl ?_
        refine WQ.ldF rfl rfl 2 hS rfl rfl ag_46 ?_
        refine WQ.r 1 rfl ?_
        refine WQ.nil ?_
        intro m1
        replace hS := hS.drewN m1; generalize hwm1 : World.drewN _ _ = w at *; clear hwm1
        refine WL.call rfl rfl (ih (tm.n + tr.n) (by omega) _ _ _ a A1 (x1 :: R) y1 r k z tm tr (f1.ref.r3.r3) (f1.ir) (hr2) ((by omega)) ((by simp only [List.length_cons]; omega)) rfl (hS.sel 2 [1, 0] rfl)) rfl ?_
        clear hS; rintro _ w ⟨A2, i1, rfl, hS, f2⟩
        replace hS : St g (Arn a A2 :: cel b2 #[.int .i64 fk, .int .i64 fz] 46 :: cel b1 #[.int .i64 k, .int .i64 z] 46 :: L) w := hS
        refine WL.nil ?_
        refine ⟨by exact ⟨RQ.pure rfl rfl rfl rfl, RQ.pure rfl rfl rfl rfl, RQ.ldF rfl rfl 1 hS rfl rfl ag_46 rfl rfl⟩, ?_⟩
        refine WQ.nil ?_
        intro m2
        replace hS := hS.drewN m2; generalize hwm2 : World.drewN _ _ = w at *; clear hwm2
        refine WL.call rfl rfl (tw_bal (a := a) (A := A2) (R := R) (l := x1) (r := i1) (k := fk) (z := fz) (tl := ts) (tr := Tr.join tm k z tr) (hA := f2.ref.sw) (hl := (f2.kp x1 (by simp) ts f1.il)) (hr := f2.is) (hf := (by have := f2.fr; omega)) (hz := (by rw [(Tr.join_n _ _ _ _).1]; omega)) (hS := hS)) rfl ?_
        clear hS; rintro _ w ⟨A3, i2, rfl, hS, f3⟩
        replace hS : St g (Arn a A3 :: cel b2 #[.int .i64 fk, .int .i64 fz] 46 :: cel b1 #[.int .i64 k, .int .i64 z] 46 :: L) w := hS
        refine WL.nil ?_
        refine ⟨by exact trivial, ?_⟩
        refine WQ.r 1 rfl ?_
        refine WQ.nil ?_
        intro m3
        replace hS := hS.drewN m3; generalize hwm3 : World.drewN _ _ = w at *; clear hwm3
        as_aux_lemma =>
          refine WC.ret ?_
          refine ⟨[.int .u32 i2], rfl, ?_⟩
          replace hS := (hS.sel 3 [0] rfl)
          exact ⟨_, _, rfl, hS, by rw [hj.1, hj.2]; exact f3.after (f1.ch.trans f2.ch sb1 sb1) sb0 (by omega)⟩
      · refine WC.skip ?_
        refine WC.seq ?_
        refine WC.region ?_
        have hbn : ¬ Bal tl.n tr.n := (by unfold Bal; omega); obtain ⟨tm, fk, fz, ts, htr⟩ := not_nil (t := tr) (by omega); have htn : tr.n = tm.n + ts.n + 1 := (by rw [htr]; rfl); have hr2 : Is A (.node tm fk fz ts) r := htr ▸ hr; have hj := join_lt (k := k) (v := z) (l := tl) (by rw [← htr]; exact hbn) (by rw [← htr]; omega); rw [← htr] at hj
        refine WL.r 2 rfl ?_
        refine WL.call rfl rfl (tw_open (a := a) (A := A) (R := l :: R) (i := r) (k := fk) (z := fz) (l := tm) (r := ts) (hA := hA.sw) (hi := hr2) (hz := (by simp only [List.length_cons]; omega)) (hS := hS)) rfl ?_
        clear hS; rintro _ w ⟨A1, x1, y1, rfl, hS, f1⟩
        replace hS : St g (Arn a A1 :: cel b1 #[.int .i64 k, .int .i64 z] 46 :: L) w := hS
        refine WL.r 4 rfl ?_
        refine WL.new rfl rfl zv_46 hS (fun b2 w hS => ?_)
        refine WL.r 1 rfl ?_
        refine WL.stF rfl rfl rfl 0 hS rfl rfl rfl rfl rfl ag_46 (fun w hS => ?_)
        replace hS : St g (cel b2 #[.int .i64 fk, .int .i64 fz] 46 :: Arn a A1 :: cel b1 #[.int .i64 k, .int .i64 z] 46 :: L) w := hS
        refine WL.r 1 rfl ?_
        refine WL.nil ?_
        refine WC.seq ?_
        refine WC.plan [([0, 1, 2, 3, 4, 6, 7], some (5, [0, 6, 7])), ([], some (8, [])), ([9], none)] (by kernel_rfl) (by kernel_rfl) ?_
        have hr1 := f1.rng; have hl2 := f1.kp l (by simp) tl hl; have hfr1 := f1.fr
        refine WQ.r 3 rfl ?_
        refine WQ.ldF rfl rfl 2 hS rfl rfl ag_46 ?_
        refine WQ.r 1 rfl ?_
        refine WQ.ldF rfl rfl 0 hS rfl rfl ag_46 ?_
        refine WQ.r 1 rfl ?_
        refine WQ.nil ?_
        intro m1
        replace hS := hS.drewN m1; generalize hwm1 : World.drewN _ _ = w at *; clear hwm1
        refine WL.call rfl rfl (ih (tl.n + tm.n) (by omega) _ _ _ a A1 (y1 :: R) l x1 k z tl tm (f1.ref.r3) (hl2) (f1.il) ((by omega)) ((by simp only [List.length_cons]; omega)) rfl (hS.sel 2 [1, 0] rfl)) rfl ?_
        clear hS; rintro _ w ⟨A2, i1, rfl, hS, f2⟩
        replace hS : St g (Arn a A2 :: cel b2 #[.int .i64 fk, .int .i64 fz] 46 :: cel b1 #[.int .i64 k, .int .i64 z] 46 :: L) w := hS
        refine WL.nil ?_
        refine ⟨by exact ⟨RQ.pure rfl rfl rfl rfl, RQ.ldF rfl rfl 1 hS rfl rfl ag_46 rfl rfl, RQ.pure rfl rfl rfl rfl⟩, ?_⟩
        refine WQ.nil ?_
        intro m2
        replace hS := hS.drewN m2; generalize hwm2 : World.drewN _ _ = w at *; clear hwm2
        refine WL.call rfl rfl (tw_bal (a := a) (A := A2) (R := R) (l := i1) (r := y1) (k := fk) (z := fz) (tl := Tr.join tl k z tm) (tr := ts) (hA := f2.ref) (hl := f2.is) (hr := (f2.kp y1 (by simp) ts f1.ir)) (hf := (by have := f2.fr; omega)) (hz := (by rw [(Tr.join_n _ _ _ _).1]; omega)) (hS := hS)) rfl ?_
        clear hS; rintro _ w ⟨A3, i2, rfl, hS, f3⟩
        replace hS : St g (Arn a A3 :: cel b2 #[.int .i64 fk, .int .i64 fz] 46 :: cel b1 #[.int .i64 k, .int .i64 z] 46 :: L) w := hS
        refine WL.nil ?_
        refine ⟨by exact trivial, ?_⟩
        refine WQ.r 1 rfl ?_
        refine WQ.nil ?_
        intro m3
        replace hS := hS.drewN m3; generalize hwm3 : World.drewN _ _ = w at *; clear hwm3
        as_aux_lemma =>
          refine WC.ret ?_
          refine ⟨[.int .u32 i2], rfl, ?_⟩
          replace hS := (hS.sel 3 [0] rfl)
          exact ⟨_, _, rfl, hS, by rw [hj.1, hj.2]; exact f3.after (f1.ch.trans f2.ch sb1 sb1) sb0 (by omega)⟩
theorem tw_join_all (nM : Nat) : ∀ (g w : World) (L : List HP) (a : Nat) (A : AM) (R : List Int) (l r k z : Int) (tl tr : Tr), (ARf A (l :: r :: R)) → (Is A tl l) → (Is A tr r) → ((Tr.jc tl tr : Int) ≤ A.s.free) → (R.length + tl.n + tr.n ≤ 700000000) → tl.n + tr.n = nM → St g (Arn a A :: L) w → Sp Try.prog 96 [.pointer (some ⟨a, 0, none⟩), .int .u32 l, .agg #[.int .i64 k, .int .i64 z], .int .u32 r] w (fun v w' => ∃ (A2 : AM) (i : Int), v = .int .u32 i ∧ St g (Arn a A2 :: L) w' ∧ (TOp A A2 R i (Tr.join tl k z tr) (Tr.jc tl tr))) := by
  induction nM using Nat.strongRecOn with
  | _ nM ih => intro g w L a A R l r k z tl tr hA hl hr hf hz hM hS; exact tw_join_step nM ih a A R l r k z tl tr hA hl hr hf hz hM hS
theorem tw_join {g w : World} {L : List HP} (a : Nat) (A : AM) (R : List Int) (l r k z : Int) (tl tr : Tr) (hA : ARf A (l :: r :: R)) (hl : Is A tl l) (hr : Is A tr r) (hf : (Tr.jc tl tr : Int) ≤ A.s.free) (hz : R.length + tl.n + tr.n ≤ 700000000) (hS : St g (Arn a A :: L) w) :
    Sp Try.prog 96 [.pointer (some ⟨a, 0, none⟩), .int .u32 l, .agg #[.int .i64 k, .int .i64 z], .int .u32 r] w (fun v w' => ∃ (A2 : AM) (i : Int), v = .int .u32 i ∧ St g (Arn a A2 :: L) w' ∧ (TOp A A2 R i (Tr.join tl k z tr) (Tr.jc tl tr))) := tw_join_all _ g w L a A R l r k z tl tr hA hl hr hf hz rfl hS
end Go.Proofs.Ytlnlnebibgdjdaa
