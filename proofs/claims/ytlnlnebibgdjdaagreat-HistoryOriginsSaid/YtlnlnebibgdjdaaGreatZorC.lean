/-
  What the proof of Jhor stands on, part 3.
  Conditions: none.
-/
import Derived.Test.YtlnlnebibgdjdaaGreatZorB
/-! ## W4 -/
namespace Go.Proofs.YtlnlnebibgdjdaaGreat
open Go Go.V
theorem pop_step {l r : Tr} {k v : Int} (h : r ≠ .nil) : Tr.pop (.node l k v r) = (Tr.join l k v (Tr.pop r).1, (Tr.pop r).2) ∧ Tr.pc (.node l k v r) = Tr.pc r + Tr.jc l (Tr.pop r).1 := by
  cases r with
  | nil => exact absurd rfl h
  | node a b c d => exact ⟨by rw [Tr.pop], by rw [Tr.pc]⟩
theorem cat_step {l r : Tr} (hl : l ≠ .nil) (hr : r ≠ .nil) : Tr.cat l r = Tr.join (Tr.pop l).1 (Tr.pop l).2.1 (Tr.pop l).2.2 r ∧ Tr.cc l r = Tr.pc l + Tr.jc (Tr.pop l).1 r := by
  cases l with
  | nil => exact absurd rfl hl
  | node a b c d =>
    cases r with
    | nil => exact absurd rfl hr
    | node a' b' c' d' => exact ⟨rfl, rfl⟩
theorem cat_nilR {l : Tr} : Tr.cat l .nil = l := by cases l <;> rfl
theorem nil_or {t : Tr} (h : t ≠ .nil) : ∃ l k v r, t = .node l k v r := by
  cases t with
  | nil => exact absurd rfl h
  | node l k v r => exact ⟨l, k, v, r, rfl⟩
set_option maxHeartbeats 1000000 in
set_option maxRecDepth 8192 in
theorem tw_pop_step (nM : Nat) (ih : ∀ mM : Nat, mM < nM → ∀ (g w : World) (L : List HP) (a : Nat) (A : AM) (R : List Int) (i : Int) (t : Tr), (ARf A (i :: R)) → (Is A t i) → (t ≠ .nil) → ((Tr.pc t : Int) ≤ A.s.free) → (R.length + t.n ≤ 650000000) → t.n = mM → St g (Arn a A :: L) w → Sp Tryz.prog 238 [.pointer (some ⟨a, 0, none⟩), .int .u32 i] w (fun v w' => ∃ (A2 : AM) (j : Int), v = .tuple #[.int .u32 j, .agg #[.int .i64 (Tr.pop t).2.1, .int .i64 (Tr.pop t).2.2]] ∧ St g (Arn a A2 :: L) w' ∧ (TOp A A2 R j (Tr.pop t).1 (Tr.pc t)))) {g w : World} {L : List HP} (a : Nat) (A : AM) (R : List Int) (i : Int) (t : Tr) (hA : ARf A (i :: R)) (hi : Is A t i) (hne : t ≠ .nil) (hf : (Tr.pc t : Int) ≤ A.s.free) (hz : R.length + t.n ≤ 650000000) (hM : t.n = nM) (hS : St g (Arn a A :: L) w) :
    Sp Tryz.prog 238 [.pointer (some ⟨a, 0, none⟩), .int .u32 i] w (fun v w' => ∃ (A2 : AM) (j : Int), v = .tuple #[.int .u32 j, .agg #[.int .i64 (Tr.pop t).2.1, .int .i64 (Tr.pop t).2.2]] ∧ St g (Arn a A2 :: L) w' ∧ (TOp A A2 R j (Tr.pop t).1 (Tr.pc t))) := by
  refine Sp.enter Tryz.func238 rfl (by kernel_rfl) (by kernel_rfl) ?_
  have _ := hz
  have _ := hf
  refine WC.seq ?_
  refine WC.region ?_
  refine WL.r 1 rfl ?_
  refine WL.new rfl rfl zv_77 hS (fun b1 w hS => ?_)
  refine WL.nil ?_
  refine WC.seq ?_
  refine WC.region ?_
  obtain ⟨tl, k, z, tr, ht⟩ := nil_or hne; have htn : t.n = tl.n + tr.n + 1 := (by rw [ht]; rfl); have hi2 : Is A (.node tl k z tr) i := ht ▸ hi
  refine WL.r 2 rfl ?_
  refine WL.call rfl rfl (tw_open (a := a) (A := A) (R := R) (i := i) (k := k) (z := z) (l := tl) (r := tr) (hA := hA) (hi := hi2) (hz := (by omega)) (hS := (hS.sel 2 [1, 0] rfl))) rfl ?_
  clear hS; rintro _ w ⟨A1, x1, y1, rfl, hS, f1⟩
  replace hS : St g (Arn a A1 :: cel b1 #[.int .i64 0, .int .i64 0] 77 :: L) w := hS
  refine WL.r 4 rfl ?_
  refine WL.new rfl rfl zv_77 hS (fun b2 w hS => ?_)
  refine WL.r 1 rfl ?_
  refine WL.stF rfl rfl rfl 0 hS rfl rfl rfl rfl rfl ag_77 (fun w hS => ?_)
  replace hS : St g (cel b2 #[.int .i64 k, .int .i64 z] 77 :: Arn a A1 :: cel b1 #[.int .i64 0, .int .i64 0] 77 :: L) w := hS
  refine WL.r 1 rfl ?_
  refine WL.nil ?_
  refine WC.seq ?_
  refine WC.seq ?_
  refine WC.region ?_
  have hr1 := f1.rng; have hx0 := Is.nil_iff f1.ir; have hfr1 := f1.fr
  refine WL.r 2 rfl ?_
  refine WL.nil ?_
  as_aux_lemma =>
    refine WC.ifP rfl (fun hy => ?_) (fun hy => ?_)
    · refine WC.seq ?_
      refine WC.plan [([0, 2], some (1, [0, 2])), ([], some (3, []))] (by kernel_rfl) (by kernel_rfl) ?_
      refine WQ.r 2 rfl ?_
      refine WQ.nil ?_
      intro m1
      replace hS := hS.drewN m1; generalize hwm1 : World.drewN _ _ = w at *; clear hwm1
      refine WL.ldF rfl rfl 0 hS rfl rfl ag_77 ?_
      refine WL.nil ?_
      refine ⟨by exact ⟨RQ.pure rfl rfl rfl rfl, RQ.pure rfl rfl rfl rfl⟩, ?_⟩
      refine WQ.nil ?_
      intro m2
      replace hS := hS.drewN m2; generalize hwm2 : World.drewN _ _ = w at *; clear hwm2
      refine WL.stF rfl rfl rfl 2 hS rfl rfl rfl rfl rfl ag_77 (fun w hS => ?_)
      replace hS : St g (cel b2 #[.int .i64 k, .int .i64 z] 77 :: Arn a A1 :: cel b1 #[.int .i64 k, .int .i64 z] 77 :: L) w := hS
      refine WL.nil ?_
      refine ⟨by exact trivial, ?_⟩
      intro m3
      replace hS := hS.drewN m3; generalize hwm3 : World.drewN _ _ = w at *; clear hwm3
      refine WC.ret ?_
      refine ⟨[.int .u32 x1, .agg #[.int .i64 k, .int .i64 z]], ⟨rfl, ⟨_, rfl, hS.lvF 2 rfl ag_77⟩, trivial⟩, ?_⟩
      replace hS := (hS.sel 3 [1] rfl)
      have hrn := hx0.1 hy; subst hrn; subst hy; subst ht; exact ⟨_, _, rfl, hS, ⟨f1.ref.sw.tail0, f1.il, f1.kp, by have := f1.fr; omega, f1.cap⟩⟩
    · refine WC.skip ?_
      refine WC.seq ?_
      refine WC.region ?_
      have hrn : tr ≠ .nil := (fun e => hy (hx0.2 e)); have hps := pop_step (l := tl) (k := k) (v := z) hrn; rw [← ht] at hps; have hpn := Tr.pop_n tr hrn
      refine WL.r 2 rfl ?_
      refine WL.call rfl rfl (ih (tr.n) (by omega) _ _ _ a A1 (x1 :: R) y1 tr (f1.swap) (f1.ir) (hrn) ((by omega)) ((by simp only [List.length_cons]; omega)) rfl (hS.sel 2 [1, 0] rfl)) rfl ?_
      clear hS; rintro _ w ⟨A2, j1, rfl, hS, f2⟩
      replace hS : St g (Arn a A2 :: cel b2 #[.int .i64 k, .int .i64 z] 77 :: cel b1 #[.int .i64 0, .int .i64 0] 77 :: L) w := hS
      refine WL.r 3 rfl ?_
      refine WL.new rfl rfl zv_77 hS (fun b3 w hS => ?_)
      refine WL.r 1 rfl ?_
      refine WL.stF rfl rfl rfl 0 hS rfl rfl rfl rfl rfl ag_77 (fun w hS => ?_)
      replace hS : St g (cel b3 #[.int .i64 (Tr.pop tr).2.1, .int .i64 (Tr.pop tr).2.2] 77 :: Arn a A2 :: cel b2 #[.int .i64 k, .int .i64 z] 77 :: cel b1 #[.int .i64 0, .int .i64 0] 77 :: L) w := hS
      refine WL.nil ?_
      refine WC.seq ?_
      refine WC.plan [([0, 1, 2, 3, 5], some (4, [5])), ([6], some (7, []))] (by kernel_rfl) (by kernel_rfl) ?_
      refine WQ.r 2 rfl ?_
      refine WQ.ldF rfl rfl 2 hS rfl rfl ag_77 ?_
      refine WQ.r 1 rfl ?_
      refine WQ.ldF rfl rfl 0 hS rfl rfl ag_77 ?_
      refine WQ.nil ?_
      intro m1
      replace hS := hS.drewN m1; generalize hwm1 : World.drewN _ _ = w at *; clear hwm1
      refine WL.call rfl rfl (tw_join (a := a) (A := A2) (R := R) (l := x1) (r := j1) (k := k) (z := z) (tl := tl) (tr := (Tr.pop tr).1) (hA := f2.ref.sw) (hl := (f2.kp x1 (by simp) tl f1.il)) (hr := f2.is) (hf := (by have := f2.fr; omega)) (hz := (by omega)) (hS := (hS.sel 2 [1, 0] rfl))) rfl ?_
      clear hS; rintro _ w ⟨A3, i1, rfl, hS, f3⟩
      replace hS : St g (Arn a A3 :: cel b3 #[.int .i64 (Tr.pop tr).2.1, .int .i64 (Tr.pop tr).2.2] 77 :: cel b2 #[.int .i64 k, .int .i64 z] 77 :: cel b1 #[.int .i64 0, .int .i64 0] 77 :: L) w := hS
      refine WL.nil ?_
      refine ⟨by exact RQ.ldF rfl rfl 1 hS rfl rfl ag_77 rfl rfl, ?_⟩
      refine WQ.r 1 rfl ?_
      refine WQ.nil ?_
      intro m2
      replace hS := hS.drewN m2; generalize hwm2 : World.drewN _ _ = w at *; clear hwm2
      refine WL.stF rfl rfl rfl 3 hS rfl rfl rfl rfl rfl ag_77 (fun w hS => ?_)
      replace hS : St g (Arn a A3 :: cel b3 #[.int .i64 (Tr.pop tr).2.1, .int .i64 (Tr.pop tr).2.2] 77 :: cel b2 #[.int .i64 k, .int .i64 z] 77 :: cel b1 #[.int .i64 (Tr.pop tr).2.1, .int .i64 (Tr.pop tr).2.2] 77 :: L) w := hS
      refine WL.nil ?_
      refine ⟨by exact trivial, ?_⟩
      intro m3
      replace hS := hS.drewN m3; generalize hwm3 : World.drewN _ _ = w at *; clear hwm3
      as_aux_lemma =>
        refine WC.ret ?_
        refine ⟨[.int .u32 i1, .agg #[.int .i64 (Tr.pop tr).2.1, .int .i64 (Tr.pop tr).2.2]], ⟨rfl, ⟨_, rfl, hS.lvF 3 rfl ag_77⟩, trivial⟩, ?_⟩
        replace hS := (hS.sel 4 [0] rfl)
        exact ⟨_, _, by rw [hps.1]; rfl, hS, by rw [hps.1, hps.2]; exact f3.after (f1.ch.trans f2.ch sb0 sb1) sb0 (by omega)⟩
theorem tw_pop_all (nM : Nat) : ∀ (g w : World) (L : List HP) (a : Nat) (A : AM) (R : List Int) (i : Int) (t : Tr), (ARf A (i :: R)) → (Is A t i) → (t ≠ .nil) → ((Tr.pc t : Int) ≤ A.s.free) → (R.length + t.n ≤ 650000000) → t.n = nM → St g (Arn a A :: L) w → Sp Tryz.prog 238 [.pointer (some ⟨a, 0, none⟩), .int .u32 i] w (fun v w' => ∃ (A2 : AM) (j : Int), v = .tuple #[.int .u32 j, .agg #[.int .i64 (Tr.pop t).2.1, .int .i64 (Tr.pop t).2.2]] ∧ St g (Arn a A2 :: L) w' ∧ (TOp A A2 R j (Tr.pop t).1 (Tr.pc t))) := by
  induction nM using Nat.strongRecOn with
  | _ nM ih => intro g w L a A R i t hA hi hne hf hz hM hS; exact tw_pop_step nM ih a A R i t hA hi hne hf hz hM hS
theorem tw_pop {g w : World} {L : List HP} (a : Nat) (A : AM) (R : List Int) (i : Int) (t : Tr) (hA : ARf A (i :: R)) (hi : Is A t i) (hne : t ≠ .nil) (hf : (Tr.pc t : Int) ≤ A.s.free) (hz : R.length + t.n ≤ 650000000) (hS : St g (Arn a A :: L) w) :
    Sp Tryz.prog 238 [.pointer (some ⟨a, 0, none⟩), .int .u32 i] w (fun v w' => ∃ (A2 : AM) (j : Int), v = .tuple #[.int .u32 j, .agg #[.int .i64 (Tr.pop t).2.1, .int .i64 (Tr.pop t).2.2]] ∧ St g (Arn a A2 :: L) w' ∧ (TOp A A2 R j (Tr.pop t).1 (Tr.pc t))) := tw_pop_all _ g w L a A R i t hA hi hne hf hz rfl hS
set_option maxRecDepth 8192 in
theorem tw_cat {g w : World} {L : List HP} (a : Nat) (A : AM) (R : List Int) (l r : Int) (tl tr : Tr) (hA : ARf A (l :: r :: R)) (hl : Is A tl l) (hr : Is A tr r) (hf : (Tr.cc tl tr : Int) ≤ A.s.free) (hz : R.length + tl.n + tr.n ≤ 600000000) (hS : St g (Arn a A :: L) w) :
    Sp Tryz.prog 198 [.pointer (some ⟨a, 0, none⟩), .int .u32 l, .int .u32 r] w (fun v w' => ∃ (A2 : AM) (i : Int), v = .int .u32 i ∧ St g (Arn a A2 :: L) w' ∧ (TOp A A2 R i (Tr.cat tl tr) (Tr.cc tl tr))) := by
  refine Sp.enter Tryz.func198 rfl (by kernel_rfl) (by kernel_rfl) ?_
  have _ := hz
  have _ := hf
  refine WC.seq ?_
  refine WC.region ?_
  refine WL.r 1 rfl ?_
  refine WL.nil ?_
  refine WC.seq ?_
  refine WC.seq ?_
  refine WC.region ?_
  have hl0 := Is.nil_iff hl; have hr0 := Is.nil_iff hr
  refine WL.r 2 rfl ?_
  refine WL.nil ?_
  refine WC.ifP rfl (fun hx => ?_) (fun hx => ?_)
  · refine WC.seq ?_
    refine WC.region ?_
    refine WL.r 2 rfl ?_
    refine WL.nil ?_
    refine WC.ret ?_
    refine ⟨[.int .u32 r], rfl, ?_⟩
    have h9 := hl0.1 hx; subst hx; subst h9; exact ⟨_, _, rfl, hS, ARf.refl hA.tail0 hr⟩
  · refine WC.skip ?_
    refine WC.seq ?_
    refine WC.seq ?_
    refine WC.region ?_
    refine WL.r 2 rfl ?_
    refine WL.nil ?_
    refine WC.ifP rfl (fun hy => ?_) (fun hy => ?_)
    · refine WC.seq ?_
      refine WC.region ?_
      refine WL.r 2 rfl ?_
      refine WL.nil ?_
      refine WC.ret ?_
      refine ⟨[.int .u32 l], rfl, ?_⟩
      have h9 := hr0.1 hy; subst hy; subst h9; exact ⟨_, _, rfl, hS, by rw [cat_nilR]; exact (ARf.refl hA.sw.tail0 hl).weak (Nat.zero_le _)⟩
    · refine WC.skip ?_
      refine WC.seq ?_
      refine WC.region ?_
      have hln : tl ≠ .nil := (fun e => hx (hl0.2 e)); have hcs := cat_step hln (fun e => hy (hr0.2 e)); have hpn := Tr.pop_n tl hln
      refine WL.r 2 rfl ?_
      refine WL.call rfl rfl (tw_pop (a := a) (A := A) (R := r :: R) (i := l) (t := tl) (hA := hA) (hi := hl) (hne := hln) (hf := (by omega)) (hz := (by simp only [List.length_cons]; omega)) (hS := hS)) rfl ?_
      clear hS; rintro _ w ⟨A1, j1, rfl, hS, f1⟩
      replace hS : St g (Arn a A1 :: L) w := hS
      refine WL.r 3 rfl ?_
      refine WL.new rfl rfl zv_77 hS (fun b1 w hS => ?_)
      refine WL.r 1 rfl ?_
      refine WL.stF rfl rfl rfl 0 hS rfl rfl rfl rfl rfl ag_77 (fun w hS => ?_)
      replace hS : St g (cel b1 #[.int .i64 (Tr.pop tl).2.1, .int .i64 (Tr.pop tl).2.2] 77 :: Arn a A1 :: L) w := hS
      refine WL.nil ?_
      as_aux_lemma =>
        refine WC.seq ?_
        refine WC.region ?_
        refine WL.r 2 rfl ?_
        refine WL.ldF rfl rfl 0 hS rfl rfl ag_77 ?_
        refine WL.r 1 rfl ?_
        refine WL.call rfl rfl (tw_join (a := a) (A := A1) (R := R) (l := j1) (r := r) (k := (Tr.pop tl).2.1) (z := (Tr.pop tl).2.2) (tl := (Tr.pop tl).1) (tr := tr) (hA := f1.ref) (hl := f1.is) (hr := (f1.kp r (by simp) tr hr)) (hf := (by have := f1.fr; omega)) (hz := (by omega)) (hS := (hS.sel 2 [1, 0] rfl))) rfl ?_
        clear hS; rintro _ w ⟨A2, i1, rfl, hS, f2⟩
        replace hS : St g (Arn a A2 :: cel b1 #[.int .i64 (Tr.pop tl).2.1, .int .i64 (Tr.pop tl).2.2] 77 :: L) w := hS
        refine WL.r 1 rfl ?_
        refine WL.nil ?_
        refine WC.ret ?_
        refine ⟨[.int .u32 i1], rfl, ?_⟩
        replace hS := (hS.sel 2 [0] rfl)
        exact ⟨_, _, rfl, hS, by rw [hcs.1, hcs.2]; exact f2.after f1.ch sb1 (by omega)⟩
set_option maxHeartbeats 1000000 in
set_option maxRecDepth 8192 in
theorem tw_ins_step (nM : Nat) (ih : ∀ mM : Nat, mM < nM → ∀ (g w : World) (L : List HP) (a : Nat) (A : AM) (R : List Int) (i k z : Int) (t : Tr), (ARf A (i :: R)) → (Is A t i) → ((Tr.ic k z t : Int) ≤ A.s.free) → (R.length + t.n ≤ 600000000) → t.n = mM → St g (Arn a A :: L) w → Sp Tryz.prog 129 [.pointer (some ⟨a, 0, none⟩), .int .u32 i, .agg #[.int .i64 k, .int .i64 z]] w (fun v w' => ∃ (A2 : AM) (j : Int), v = .int .u32 j ∧ St g (Arn a A2 :: L) w' ∧ (TOp A A2 R j (Tr.ins k z t) (Tr.ic k z t)))) {g w : World} {L : List HP} (a : Nat) (A : AM) (R : List Int) (i k z : Int) (t : Tr) (hA : ARf A (i :: R)) (hi : Is A t i) (hf : (Tr.ic k z t : Int) ≤ A.s.free) (hz : R.length + t.n ≤ 600000000) (hM : t.n = nM) (hS : St g (Arn a A :: L) w) :
    Sp Tryz.prog 129 [.pointer (some ⟨a, 0, none⟩), .int .u32 i, .agg #[.int .i64 k, .int .i64 z]] w (fun v w' => ∃ (A2 : AM) (j : Int), v = .int .u32 j ∧ St g (Arn a A2 :: L) w' ∧ (TOp A A2 R j (Tr.ins k z t) (Tr.ic k z t))) := by
  refine Sp.enter Tryz.func129 rfl (by kernel_rfl) (by kernel_rfl) ?_
  have _ := hz
  have _ := hf
  refine WC.seq ?_
  refine WC.region ?_
  refine WL.box rfl rfl #[.int .i64 k, .int .i64 z] hS rfl rfl (fun b1 w hS => ?_)
  refine WL.r 1 rfl ?_
  refine WL.nil ?_
  refine WC.seq ?_
  refine WC.seq ?_
  refine WC.region ?_
  have hx0 := Is.nil_iff hi
  refine WL.r 2 rfl ?_
  refine WL.nil ?_
  refine WC.ifP rfl (fun hx => ?_) (fun hx => ?_)
  · refine WC.seq ?_
    refine WC.region ?_
    have h9 := hx0.1 hx; subst h9; have hA0 : ARf A (0 :: 0 :: R) := (by rw [hx] at hA; exact hA.cons0 (by simp; omega)); have hf1 : Tr.ic k z .nil = 1 := rfl
    refine WL.r 1 rfl ?_
    refine WL.ldF rfl rfl 0 hS rfl rfl ag_77 ?_
    refine WL.call rfl rfl (tw_node (a := a) (A := A) (R := R) (l := 0) (r := 0) (k := k) (z := z) (tl := .nil) (tr := .nil) (hA := hA0) (hl := rfl) (hr := rfl) (hf := (by omega)) (hz := (by simp only [Tr.n]; omega)) (hS := (hS.sel 2 [1, 0] rfl))) rfl ?_
    clear hS; rintro _ w ⟨A1, i1, rfl, hS, f1⟩
    replace hS : St g (Arn a A1 :: cel b1 #[.int .i64 k, .int .i64 z] 77 :: L) w := hS
    refine WL.r 1 rfl ?_
    refine WL.nil ?_
    refine WC.ret ?_
    refine ⟨[.int .u32 i1], rfl, ?_⟩
    replace hS := (hS.sel 2 [0] rfl)
    exact ⟨_, _, rfl, hS, f1⟩
  · refine WC.skip ?_
    refine WC.seq ?_
    refine WC.region ?_
    obtain ⟨tl, fk, fz, tr, ht⟩ := nil_or (t := t) (fun e => hx (hx0.2 e)); have htn : t.n = tl.n + tr.n + 1 := (by rw [ht]; rfl); have hi2 : Is A (.node tl fk fz tr) i := ht ▸ hi
    refine WL.r 2 rfl ?_
    refine WL.call rfl rfl (tw_open (a := a) (A := A) (R := R) (i := i) (k := fk) (z := fz) (l := tl) (r := tr) (hA := hA) (hi := hi2) (hz := (by omega)) (hS := (hS.sel 2 [1, 0] rfl))) rfl ?_
    clear hS; rintro _ w ⟨A1, x1, y1, rfl, hS, f1⟩
    replace hS : St g (Arn a A1 :: cel b1 #[.int .i64 k, .int .i64 z] 77 :: L) w := hS
    refine WL.r 4 rfl ?_
    refine WL.new rfl rfl zv_77 hS (fun b2 w hS => ?_)
    refine WL.r 1 rfl ?_
    refine WL.stF rfl rfl rfl 0 hS rfl rfl rfl rfl rfl ag_77 (fun w hS => ?_)
    replace hS : St g (cel b2 #[.int .i64 fk, .int .i64 fz] 77 :: Arn a A1 :: cel b1 #[.int .i64 k, .int .i64 z] 77 :: L) w := hS
    refine WL.r 1 rfl ?_
    refine WL.nil ?_
    as_aux_lemma =>
      refine WC.seq ?_
      refine WC.block ?_
      refine WC.seq ?_
      refine WC.region ?_
      have hr1 := f1.rng; have hfr1 := f1.fr
      refine WL.run 6 [.int .i64 k, .int .i64 fk] rfl (by exact ⟨hS.ld 2 rfl rfl, hS.ld 0 rfl rfl⟩) ?_
      refine WL.nil ?_
      refine WC.ifP rfl (fun hlt => ?_) (fun hlt => ?_)
      · refine WC.seq ?_
        refine WC.plan [([0, 1, 2, 3, 5, 6], some (4, [0, 5, 6])), ([], some (7, [])), ([8], none)] (by kernel_rfl) (by kernel_rfl) ?_
        have hie : Tr.ic k z t = Tr.ic k z tl + Tr.jc (Tr.ins k z tl) tr := (by rw [ht, Tr.ic, if_pos hlt]); have hne : Tr.ins k z t = Tr.join (Tr.ins k z tl) fk fz tr := (by rw [ht, Tr.ins, if_pos hlt]); have hin := Tr.ins_n k z tl
        refine WQ.r 3 rfl ?_
        refine WQ.ldF rfl rfl 2 hS rfl rfl ag_77 ?_
        refine WQ.ldF rfl rfl 0 hS rfl rfl ag_77 ?_
        refine WQ.r 1 rfl ?_
        refine WQ.nil ?_
        intro m1
        replace hS := hS.drewN m1; generalize hwm1 : World.drewN _ _ = w at *; clear hwm1
        refine WL.call rfl rfl (ih (tl.n) (by omega) _ _ _ a A1 (y1 :: R) x1 k z tl (f1.ref) (f1.il) ((by omega)) ((by simp only [List.length_cons]; omega)) rfl (hS.sel 2 [1, 0] rfl)) rfl ?_
        clear hS; rintro _ w ⟨A2, j1, rfl, hS, f2⟩
        replace hS : St g (Arn a A2 :: cel b2 #[.int .i64 fk, .int .i64 fz] 77 :: cel b1 #[.int .i64 k, .int .i64 z] 77 :: L) w := hS
        refine WL.nil ?_
        refine ⟨by exact ⟨RQ.pure rfl rfl rfl rfl, RQ.ldF rfl rfl 1 hS rfl rfl ag_77 rfl rfl, RQ.pure rfl rfl rfl rfl⟩, ?_⟩
        refine WQ.nil ?_
        intro m2
        replace hS := hS.drewN m2; generalize hwm2 : World.drewN _ _ = w at *; clear hwm2
        refine WL.call rfl rfl (tw_join (a := a) (A := A2) (R := R) (l := j1) (r := y1) (k := fk) (z := fz) (tl := Tr.ins k z tl) (tr := tr) (hA := f2.ref) (hl := f2.is) (hr := (f2.kp y1 (by simp) tr f1.ir)) (hf := (by have := f2.fr; omega)) (hz := (by split at hin <;> omega)) (hS := hS)) rfl ?_
        clear hS; rintro _ w ⟨A3, i1, rfl, hS, f3⟩
        replace hS : St g (Arn a A3 :: cel b2 #[.int .i64 fk, .int .i64 fz] 77 :: cel b1 #[.int .i64 k, .int .i64 z] 77 :: L) w := hS
        refine WL.nil ?_
        refine ⟨by exact trivial, ?_⟩
        refine WQ.r 1 rfl ?_
        refine WQ.nil ?_
        intro m3
        replace hS := hS.drewN m3; generalize hwm3 : World.drewN _ _ = w at *; clear hwm3
        as_aux_lemma =>
          refine WC.ret ?_
          refine ⟨[.int .u32 i1], rfl, ?_⟩
          replace hS := (hS.sel 3 [0] rfl)
          exact ⟨_, _, rfl, hS, by rw [hne, hie]; exact f3.after (f1.ch.trans f2.ch sb0 sb1) sb0 (by omega)⟩
      · refine WC.seq ?_
        refine WC.region ?_
        refine WL.run 6 [.int .i64 k, .int .i64 fk] rfl (by exact ⟨hS.ld 2 rfl rfl, hS.ld 0 rfl rfl⟩) ?_
        refine WL.nil ?_
        refine WC.ifP rfl (fun hgt => ?_) (fun hgt => ?_)
        · refine WC.seq ?_
          refine WC.plan [([0, 1, 2, 3, 4, 5], some (6, [0, 1, 2])), ([], some (7, [])), ([8], none)] (by kernel_rfl) (by kernel_rfl) ?_
          have hie : Tr.ic k z t = Tr.ic k z tr + Tr.jc tl (Tr.ins k z tr) := (by rw [ht, Tr.ic, if_neg hlt, if_pos hgt]); have hne : Tr.ins k z t = Tr.join tl fk fz (Tr.ins k z tr) := (by rw [ht, Tr.ins, if_neg hlt, if_pos hgt]); have hin := Tr.ins_n k z tr
          refine WQ.r 2 rfl ?_
          refine WQ.ldF rfl rfl 0 hS rfl rfl ag_77 ?_
          refine WQ.r 2 rfl ?_
          refine WQ.ldF rfl rfl 2 hS rfl rfl ag_77 ?_
          refine WQ.nil ?_
          intro m1
          replace hS := hS.drewN m1; generalize hwm1 : World.drewN _ _ = w at *; clear hwm1
          refine WL.call rfl rfl (ih (tr.n) (by omega) _ _ _ a A1 (x1 :: R) y1 k z tr (f1.swap) (f1.ir) ((by omega)) ((by simp only [List.length_cons]; omega)) rfl (hS.sel 2 [1, 0] rfl)) rfl ?_
          clear hS; rintro _ w ⟨A2, j1, rfl, hS, f2⟩
          replace hS : St g (Arn a A2 :: cel b2 #[.int .i64 fk, .int .i64 fz] 77 :: cel b1 #[.int .i64 k, .int .i64 z] 77 :: L) w := hS
          refine WL.nil ?_
          refine ⟨by exact ⟨RQ.pure rfl rfl rfl rfl, RQ.pure rfl rfl rfl rfl, RQ.ldF rfl rfl 1 hS rfl rfl ag_77 rfl rfl⟩, ?_⟩
          refine WQ.nil ?_
          intro m2
          replace hS := hS.drewN m2; generalize hwm2 : World.drewN _ _ = w at *; clear hwm2
          refine WL.call rfl rfl (tw_join (a := a) (A := A2) (R := R) (l := x1) (r := j1) (k := fk) (z := fz) (tl := tl) (tr := Tr.ins k z tr) (hA := f2.ref.sw) (hl := (f2.kp x1 (by simp) tl f1.il)) (hr := f2.is) (hf := (by have := f2.fr; omega)) (hz := (by split at hin <;> omega)) (hS := hS)) rfl ?_
          clear hS; rintro _ w ⟨A3, i1, rfl, hS, f3⟩
          replace hS : St g (Arn a A3 :: cel b2 #[.int .i64 fk, .int .i64 fz] 77 :: cel b1 #[.int .i64 k, .int .i64 z] 77 :: L) w := hS
          refine WL.nil ?_
          refine ⟨by exact trivial, ?_⟩
          refine WQ.r 1 rfl ?_
          refine WQ.nil ?_
          intro m3
          replace hS := hS.drewN m3; generalize hwm3 : World.drewN _ _ = w at *; clear hwm3
          as_aux_lemma =>
            refine WC.ret ?_
            refine ⟨[.int .u32 i1], rfl, ?_⟩
            replace hS := (hS.sel 3 [0] rfl)
            exact ⟨_, _, rfl, hS, by rw [hne, hie]; exact f3.after (f1.ch.trans f2.ch sb0 sb1) sb0 (by omega)⟩
        · refine WC.skip ?_
          refine WC.seq ?_
          refine WC.region ?_
          have hie : Tr.ic k z t = 1 := (by rw [ht, Tr.ic, if_neg hlt, if_neg hgt]); have hne : Tr.ins k z t = .node tl k z tr := (by rw [ht, Tr.ins, if_neg hlt, if_neg hgt])
          refine WL.r 2 rfl ?_
          refine WL.ldF rfl rfl 2 hS rfl rfl ag_77 ?_
          refine WL.r 1 rfl ?_
          refine WL.call rfl rfl (tw_node (a := a) (A := A1) (R := R) (l := x1) (r := y1) (k := k) (z := z) (tl := tl) (tr := tr) (hA := f1.ref) (hl := f1.il) (hr := f1.ir) (hf := (by omega)) (hz := (by omega)) (hS := (hS.sel 2 [1, 0] rfl))) rfl ?_
          clear hS; rintro _ w ⟨A2, i1, rfl, hS, f2⟩
          replace hS : St g (Arn a A2 :: cel b2 #[.int .i64 fk, .int .i64 fz] 77 :: cel b1 #[.int .i64 k, .int .i64 z] 77 :: L) w := hS
          refine WL.r 1 rfl ?_
          refine WL.nil ?_
          as_aux_lemma =>
            refine WC.ret ?_
            refine ⟨[.int .u32 i1], rfl, ?_⟩
            replace hS := (hS.sel 3 [0] rfl)
            exact ⟨_, _, rfl, hS, by rw [hne, hie]; exact f2.after f1.ch sb0 (by omega)⟩
theorem tw_ins_all (nM : Nat) : ∀ (g w : World) (L : List HP) (a : Nat) (A : AM) (R : List Int) (i k z : Int) (t : Tr), (ARf A (i :: R)) → (Is A t i) → ((Tr.ic k z t : Int) ≤ A.s.free) → (R.length + t.n ≤ 600000000) → t.n = nM → St g (Arn a A :: L) w → Sp Tryz.prog 129 [.pointer (some ⟨a, 0, none⟩), .int .u32 i, .agg #[.int .i64 k, .int .i64 z]] w (fun v w' => ∃ (A2 : AM) (j : Int), v = .int .u32 j ∧ St g (Arn a A2 :: L) w' ∧ (TOp A A2 R j (Tr.ins k z t) (Tr.ic k z t))) := by
  induction nM using Nat.strongRecOn with
  | _ nM ih => intro g w L a A R i k z t hA hi hf hz hM hS; exact tw_ins_step nM ih a A R i k z t hA hi hf hz hM hS
theorem tw_ins {g w : World} {L : List HP} (a : Nat) (A : AM) (R : List Int) (i k z : Int) (t : Tr) (hA : ARf A (i :: R)) (hi : Is A t i) (hf : (Tr.ic k z t : Int) ≤ A.s.free) (hz : R.length + t.n ≤ 600000000) (hS : St g (Arn a A :: L) w) :
    Sp Tryz.prog 129 [.pointer (some ⟨a, 0, none⟩), .int .u32 i, .agg #[.int .i64 k, .int .i64 z]] w (fun v w' => ∃ (A2 : AM) (j : Int), v = .int .u32 j ∧ St g (Arn a A2 :: L) w' ∧ (TOp A A2 R j (Tr.ins k z t) (Tr.ic k z t))) := tw_ins_all _ g w L a A R i k z t hA hi hf hz rfl hS
set_option maxHeartbeats 1000000 in
set_option maxRecDepth 8192 in
theorem tw_del_step (nM : Nat) (ih : ∀ mM : Nat, mM < nM → ∀ (g w : World) (L : List HP) (a : Nat) (A : AM) (R : List Int) (i k : Int) (t : Tr), (ARf A (i :: R)) → (Is A t i) → ((Tr.dc k t : Int) ≤ A.s.free) → (R.length + t.n ≤ 550000000) → t.n = mM → St g (Arn a A :: L) w → Sp Tryz.prog 158 [.pointer (some ⟨a, 0, none⟩), .int .u32 i, .int .i64 k] w (fun v w' => ∃ (A2 : AM) (j : Int), v = .int .u32 j ∧ St g (Arn a A2 :: L) w' ∧ (TOp A A2 R j (Tr.del k t) (Tr.dc k t)))) {g w : World} {L : List HP} (a : Nat) (A : AM) (R : List Int) (i k : Int) (t : Tr) (hA : ARf A (i :: R)) (hi : Is A t i) (hf : (Tr.dc k t : Int) ≤ A.s.free) (hz : R.length + t.n ≤ 550000000) (hM : t.n = nM) (hS : St g (Arn a A :: L) w) :
    Sp Tryz.prog 158 [.pointer (some ⟨a, 0, none⟩), .int .u32 i, .int .i64 k] w (fun v w' => ∃ (A2 : AM) (j : Int), v = .int .u32 j ∧ St g (Arn a A2 :: L) w' ∧ (TOp A A2 R j (Tr.del k t) (Tr.dc k t))) := by
  refine Sp.enter Tryz.func158 rfl (by kernel_rfl) (by kernel_rfl) ?_
  have _ := hz
  have _ := hf
  refine WC.seq ?_
  refine WC.region ?_
  refine WL.r 1 rfl ?_
  refine WL.nil ?_
  refine WC.seq ?_
  refine WC.seq ?_
  refine WC.region ?_
  have hx0 := Is.nil_iff hi
  refine WL.r 2 rfl ?_
  refine WL.nil ?_
  refine WC.ifP rfl (fun hx => ?_) (fun hx => ?_)
  · refine WC.seq ?_
    refine WC.region ?_
    refine WL.r 1 rfl ?_
    refine WL.nil ?_
    refine WC.ret ?_
    refine ⟨[.int .u32 0], rfl, ?_⟩
    have h9 := hx0.1 hx; subst hx; subst h9; exact ⟨_, _, rfl, hS, ARf.refl hA hi⟩
  · refine WC.skip ?_
    refine WC.seq ?_
    refine WC.region ?_
    obtain ⟨tl, fk, fz, tr, ht⟩ := nil_or (t := t) (fun e => hx (hx0.2 e)); have htn : t.n = tl.n + tr.n + 1 := (by rw [ht]; rfl); have hi2 : Is A (.node tl fk fz tr) i := ht ▸ hi
    refine WL.r 2 rfl ?_
    refine WL.call rfl rfl (tw_open (a := a) (A := A) (R := R) (i := i) (k := fk) (z := fz) (l := tl) (r := tr) (hA := hA) (hi := hi2) (hz := (by omega)) (hS := hS)) rfl ?_
    clear hS; rintro _ w ⟨A1, x1, y1, rfl, hS, f1⟩
    replace hS : St g (Arn a A1 :: L) w := hS
    refine WL.r 4 rfl ?_
    refine WL.new rfl rfl zv_77 hS (fun b1 w hS => ?_)
    refine WL.r 1 rfl ?_
    refine WL.stF rfl rfl rfl 0 hS rfl rfl rfl rfl rfl ag_77 (fun w hS => ?_)
    replace hS : St g (cel b1 #[.int .i64 fk, .int .i64 fz] 77 :: Arn a A1 :: L) w := hS
    refine WL.r 1 rfl ?_
    refine WL.nil ?_
    as_aux_lemma =>
      refine WC.seq ?_
      refine WC.block ?_
      refine WC.seq ?_
      refine WC.region ?_
      have hr1 := f1.rng; have hfr1 := f1.fr
      refine WL.run 5 [.int .i64 fk] rfl (by exact hS.ld 0 rfl rfl) ?_
      refine WL.nil ?_
      refine WC.ifP rfl (fun hlt => ?_) (fun hlt => ?_)
      · refine WC.seq ?_
        refine WC.plan [([0, 1, 2, 3, 5, 6], some (4, [0, 5, 6])), ([], some (7, [])), ([8], none)] (by kernel_rfl) (by kernel_rfl) ?_
        have hie : Tr.dc k t = Tr.dc k tl + Tr.jc (Tr.del k tl) tr := (by rw [ht, Tr.dc, if_pos hlt]); have hne : Tr.del k t = Tr.join (Tr.del k tl) fk fz tr := (by rw [ht, Tr.del, if_pos hlt]); have hin := Tr.del_n k tl
        refine WQ.r 4 rfl ?_
        refine WQ.ldF rfl rfl 0 hS rfl rfl ag_77 ?_
        refine WQ.r 1 rfl ?_
        refine WQ.nil ?_
        intro m1
        replace hS := hS.drewN m1; generalize hwm1 : World.drewN _ _ = w at *; clear hwm1
        refine WL.call rfl rfl (ih (tl.n) (by omega) _ _ _ a A1 (y1 :: R) x1 k tl (f1.ref) (f1.il) ((by omega)) ((by simp only [List.length_cons]; omega)) rfl (hS.sel 2 [1, 0] rfl)) rfl ?_
        clear hS; rintro _ w ⟨A2, j1, rfl, hS, f2⟩
        replace hS : St g (Arn a A2 :: cel b1 #[.int .i64 fk, .int .i64 fz] 77 :: L) w := hS
        refine WL.nil ?_
        refine ⟨by exact ⟨RQ.pure rfl rfl rfl rfl, RQ.ldF rfl rfl 1 hS rfl rfl ag_77 rfl rfl, RQ.pure rfl rfl rfl rfl⟩, ?_⟩
        refine WQ.nil ?_
        intro m2
        replace hS := hS.drewN m2; generalize hwm2 : World.drewN _ _ = w at *; clear hwm2
        refine WL.call rfl rfl (tw_join (a := a) (A := A2) (R := R) (l := j1) (r := y1) (k := fk) (z := fz) (tl := Tr.del k tl) (tr := tr) (hA := f2.ref) (hl := f2.is) (hr := (f2.kp y1 (by simp) tr f1.ir)) (hf := (by have := f2.fr; omega)) (hz := (by split at hin <;> omega)) (hS := hS)) rfl ?_
        clear hS; rintro _ w ⟨A3, i1, rfl, hS, f3⟩
        replace hS : St g (Arn a A3 :: cel b1 #[.int .i64 fk, .int .i64 fz] 77 :: L) w := hS
        refine WL.nil ?_
        refine ⟨by exact trivial, ?_⟩
        refine WQ.r 1 rfl ?_
        refine WQ.nil ?_
        intro m3
        replace hS := hS.drewN m3; generalize hwm3 : World.drewN _ _ = w at *; clear hwm3
        as_aux_lemma =>
          refine WC.ret ?_
          refine ⟨[.int .u32 i1], rfl, ?_⟩
          replace hS := (hS.sel 2 [0] rfl)
          exact ⟨_, _, rfl, hS, by rw [hne, hie]; exact f3.after (f1.ch.trans f2.ch sb0 sb1) sb0 (by omega)⟩
      · refine WC.seq ?_
        refine WC.region ?_
        refine WL.run 5 [.int .i64 fk] rfl (by exact hS.ld 0 rfl rfl) ?_
        refine WL.nil ?_
        refine WC.ifP rfl (fun hgt => ?_) (fun hgt => ?_)
        · refine WC.seq ?_
          refine WC.plan [([0, 1, 2, 3, 4, 5], some (6, [0, 1, 2])), ([], some (7, [])), ([8], none)] (by kernel_rfl) (by kernel_rfl) ?_
          have hie : Tr.dc k t = Tr.dc k tr + Tr.jc tl (Tr.del k tr) := (by rw [ht, Tr.dc, if_neg hlt, if_pos hgt]); have hne : Tr.del k t = Tr.join tl fk fz (Tr.del k tr) := (by rw [ht, Tr.del, if_neg hlt, if_pos hgt]); have hin := Tr.del_n k tr
          refine WQ.r 2 rfl ?_
          refine WQ.ldF rfl rfl 0 hS rfl rfl ag_77 ?_
          refine WQ.r 3 rfl ?_
          refine WQ.nil ?_
          intro m1
          replace hS := hS.drewN m1; generalize hwm1 : World.drewN _ _ = w at *; clear hwm1
          refine WL.call rfl rfl (ih (tr.n) (by omega) _ _ _ a A1 (x1 :: R) y1 k tr (f1.swap) (f1.ir) ((by omega)) ((by simp only [List.length_cons]; omega)) rfl (hS.sel 2 [1, 0] rfl)) rfl ?_
          clear hS; rintro _ w ⟨A2, j1, rfl, hS, f2⟩
          replace hS : St g (Arn a A2 :: cel b1 #[.int .i64 fk, .int .i64 fz] 77 :: L) w := hS
          refine WL.nil ?_
          refine ⟨by exact ⟨RQ.pure rfl rfl rfl rfl, RQ.pure rfl rfl rfl rfl, RQ.ldF rfl rfl 1 hS rfl rfl ag_77 rfl rfl⟩, ?_⟩
          refine WQ.nil ?_
          intro m2
          replace hS := hS.drewN m2; generalize hwm2 : World.drewN _ _ = w at *; clear hwm2
          refine WL.call rfl rfl (tw_join (a := a) (A := A2) (R := R) (l := x1) (r := j1) (k := fk) (z := fz) (tl := tl) (tr := Tr.del k tr) (hA := f2.ref.sw) (hl := (f2.kp x1 (by simp) tl f1.il)) (hr := f2.is) (hf := (by have := f2.fr; omega)) (hz := (by split at hin <;> omega)) (hS := hS)) rfl ?_
          clear hS; rintro _ w ⟨A3, i1, rfl, hS, f3⟩
          replace hS : St g (Arn a A3 :: cel b1 #[.int .i64 fk, .int .i64 fz] 77 :: L) w := hS
          refine WL.nil ?_
          refine ⟨by exact trivial, ?_⟩
          refine WQ.r 1 rfl ?_
          refine WQ.nil ?_
          intro m3
          replace hS := hS.drewN m3; generalize hwm3 : World.drewN _ _ = w at *; clear hwm3
          as_aux_lemma =>
            refine WC.ret ?_
            refine ⟨[.int .u32 i1], rfl, ?_⟩
            replace hS := (hS.sel 2 [0] rfl)
            exact ⟨_, _, rfl, hS, by rw [hne, hie]; exact f3.after (f1.ch.trans f2.ch sb0 sb1) sb0 (by omega)⟩
        · refine WC.skip ?_
          refine WC.seq ?_
          refine WC.region ?_
          have hie : Tr.dc k t = Tr.cc tl tr := (by rw [ht, Tr.dc, if_neg hlt, if_neg hgt]); have hne : Tr.del k t = Tr.cat tl tr := (by rw [ht, Tr.del, if_neg hlt, if_neg hgt])
          refine WL.r 3 rfl ?_
          refine WL.call rfl rfl (tw_cat (a := a) (A := A1) (R := R) (l := x1) (r := y1) (tl := tl) (tr := tr) (hA := f1.ref) (hl := f1.il) (hr := f1.ir) (hf := (by omega)) (hz := (by omega)) (hS := (hS.sel 2 [1, 0] rfl))) rfl ?_
          clear hS; rintro _ w ⟨A2, i1, rfl, hS, f2⟩
          replace hS : St g (Arn a A2 :: cel b1 #[.int .i64 fk, .int .i64 fz] 77 :: L) w := hS
          refine WL.r 1 rfl ?_
          refine WL.nil ?_
          refine WC.ret ?_
          refine ⟨[.int .u32 i1], rfl, ?_⟩
          replace hS := (hS.sel 2 [0] rfl)
          exact ⟨_, _, rfl, hS, by rw [hne, hie]; exact f2.after f1.ch sb0 (by omega)⟩
theorem tw_del_all (nM : Nat) : ∀ (g w : World) (L : List HP) (a : Nat) (A : AM) (R : List Int) (i k : Int) (t : Tr), (ARf A (i :: R)) → (Is A t i) → ((Tr.dc k t : Int) ≤ A.s.free) → (R.length + t.n ≤ 550000000) → t.n = nM → St g (Arn a A :: L) w → Sp Tryz.prog 158 [.pointer (some ⟨a, 0, none⟩), .int .u32 i, .int .i64 k] w (fun v w' => ∃ (A2 : AM) (j : Int), v = .int .u32 j ∧ St g (Arn a A2 :: L) w' ∧ (TOp A A2 R j (Tr.del k t) (Tr.dc k t))) := by
  induction nM using Nat.strongRecOn with
  | _ nM ih => intro g w L a A R i k t hA hi hf hz hM hS; exact tw_del_step nM ih a A R i k t hA hi hf hz hM hS
theorem tw_del {g w : World} {L : List HP} (a : Nat) (A : AM) (R : List Int) (i k : Int) (t : Tr) (hA : ARf A (i :: R)) (hi : Is A t i) (hf : (Tr.dc k t : Int) ≤ A.s.free) (hz : R.length + t.n ≤ 550000000) (hS : St g (Arn a A :: L) w) :
    Sp Tryz.prog 158 [.pointer (some ⟨a, 0, none⟩), .int .u32 i, .int .i64 k] w (fun v w' => ∃ (A2 : AM) (j : Int), v = .int .u32 j ∧ St g (Arn a A2 :: L) w' ∧ (TOp A A2 R j (Tr.del k t) (Tr.dc k t))) := tw_del_all _ g w L a A R i k t hA hi hf hz rfl hS
set_option maxRecDepth 8192 in
theorem tw_hold {g w : World} {L : List HP} (a : Nat) (A : AM) (R : List Int) (i : Int) (hA : ARf A R) (hi : i = 0 ∨ (1 ≤ i ∧ A.s.ok i = true)) (hz : R.length ≤ 900000000) (hS : St g (Arn a A :: L) w) :
    Sp Tryz.prog 125 [.pointer (some ⟨a, 0, none⟩), .int .u32 i] w (fun v w' => v = .int .u32 i ∧ St g (Arn a (A.ret i) :: L) w' ∧ (ARf (A.ret i) (i :: R))) := by
  refine Sp.enter Tryz.func125 rfl (by kernel_rfl) (by kernel_rfl) ?_
  have _ := hz
  refine WC.seq ?_
  refine WC.region ?_
  refine WL.r 1 rfl ?_
  refine WL.nil ?_
  refine WC.seq ?_
  refine WC.region ?_
  have hri := hA.okrng hi
  refine WL.r 2 rfl ?_
  refine WL.call rfl rfl (ar_retain (a := a) (A := A) (i := i) (hA := hA.toAWf) (hi := (by omega)) (hS := hS)) rfl ?_
  clear hS; rintro _ w ⟨rfl, hS⟩
  replace hS : St g (Arn a (A.ret i) :: L) w := hS
  refine WL.nil ?_
  refine WC.seq ?_
  refine WC.region ?_
  refine WL.r 2 rfl ?_
  refine WL.nil ?_
  refine WC.ret ?_
  refine ⟨[.int .u32 i], rfl, ?_⟩
  exact ⟨rfl, hS, (AM.ret_eq hA hi (by omega)).1⟩
set_option maxRecDepth 8192 in
theorem tw_room {g w : World} {L : List HP} (a : Nat) (A : AM) (n : Int) (hA : AWf A) (hS : St g (Arn a A :: L) w) :
    Sp Tryz.prog 126 [.pointer (some ⟨a, 0, none⟩), .int .i64 n] w (fun v w' => v = .bool (decide (0 ≤ n ∧ n ≤ A.s.free)) ∧ St g (Arn a A :: L) w') := by
  refine Sp.enter Tryz.func126 rfl (by kernel_rfl) (by kernel_rfl) ?_
  refine WC.seq ?_
  refine WC.region ?_
  refine WL.r 1 rfl ?_
  refine WL.nil ?_
  refine WC.seq ?_
  refine WC.region ?_
  refine WL.r 3 rfl ?_
  by_cases cg1 : 0 ≤ n
  · refine WL.reb 7 (.bool true) (congrArg Value.bool (decide_eq_true cg1)) ?_
    refine WL.ung rfl rfl rfl ?_
    refine WL.r 1 rfl ?_
    refine WL.ung rfl rfl rfl ?_
    refine WL.call rfl rfl (ar_free (a := a) (A := A) (hA := hA) (hS := hS)) rfl ?_
    clear hS; rintro _ w ⟨rfl, hS⟩
    replace hS : St g (Arn a A :: L) w := hS
    refine WL.ung rfl rfl rfl ?_
    refine WL.r 1 rfl ?_
    refine WL.ung rfl rfl rfl ?_
    refine WL.r 3 rfl ?_
    refine WL.nil ?_
    refine WC.ret ?_
    refine ⟨[.bool (decide (n ≤ A.s.free))], rfl, ?_⟩
    first | exact ⟨congrArg Value.bool (dec_congr (by omega)), hS⟩ | exact ⟨congrArg Value.bool (decide_eq_false (by omega)).symm, hS⟩
  · refine WL.reb 7 (.bool false) (congrArg Value.bool (decide_eq_false cg1)) ?_
    refine WL.skp rfl rfl rfl rfl ?_
    refine WL.skp rfl rfl rfl rfl ?_
    refine WL.skp rfl rfl rfl rfl ?_
    refine WL.skp rfl rfl rfl rfl ?_
    refine WL.r 2 rfl ?_
    refine WL.nil ?_
    refine WC.ret ?_
    refine ⟨[.bool false], rfl, ?_⟩
    first | exact ⟨congrArg Value.bool (dec_congr (by omega)), hS⟩ | exact ⟨congrArg Value.bool (decide_eq_false (by omega)).symm, hS⟩
end Go.Proofs.YtlnlnebibgdjdaaGreat
/-! ## W5 -/
namespace Go.Proofs.YtlnlnebibgdjdaaGreat
open Go Go.V
set_option maxRecDepth 8192 in
theorem lk_get {g w : World} {L : List HP} (a : Nat) (A : AM) (R : List Int) (i k : Int) (t : Tr) (hA : ARf A R) (hi : Is A t i) (hS : St g (Arn a A :: L) w) :
    Sp Tryz.prog 98 [.pointer (some ⟨a, 0, none⟩), .int .u32 i, .int .i64 k] w (fun v w' => v = .tuple #[.int .i64 ((Tr.get k t).getD 0), .bool (Tr.get k t).isSome] ∧ St g (Arn a A :: L) w') := by
  refine Sp.enter Tryz.func98 rfl (by kernel_rfl) (by kernel_rfl) ?_
  refine WC.seq ?_
  refine WC.region ?_
  refine WL.r 2 rfl ?_
  refine WL.nil ?_
  refine WC.seq ?_
  refine WC.seq ?_
  refine WC.region ?_
  refine WL.r 2 rfl ?_
  refine WL.nil ?_
  refine WC.block ?_
  refine WC.loop [0, 2, 8] (fun kM vs w => ∃ (j : Int) (u : Tr), vs = [.pointer (some ⟨a, 0, none⟩), .int .i64 k, .int .u32 j] ∧ St g (Arn a A :: L) w ∧ (Is A u j) ∧ (Tr.get k u = Tr.get k t) ∧ (u.n) = kM) (t.n) ⟨i, t, rfl, hS, (hi), (rfl), rfl⟩ ?_
  clear hS; rintro _ _ w j ⟨j, u, rfl, hS, hu, hg, rfl⟩
  refine WC.seq ?_
  refine WC.seq ?_
  refine WC.region ?_
  refine WL.r 2 rfl ?_
  refine WL.nil ?_
  refine WC.ifP rfl (fun cd1 => ?_) (fun cd1 => ?_)
  · refine WC.skip ?_
    refine WC.block ?_
    refine WC.seq ?_
    refine WC.region ?_
    obtain ⟨ul, uk, uz, ur, hue⟩ := nil_or (t := u) (fun e => cd1 ((Is.nil_iff hu).2 e)); have hu2 : Is A (.node ul uk uz ur) j := hue ▸ hu; have hrj := hA.okrng hu.ref; have hlr := hA.okrng hu2.2.2.2.2.1.ref; have hrr := hA.okrng hu2.2.2.2.2.2.ref; have hun : u.n = ul.n + ur.n + 1 := (by rw [hue]; rfl)
    refine WL.r 2 rfl ?_
    refine WL.call rfl rfl (ar_node (a := a) (A := A) (i := j) (hA := hA.toAWf) (hi := (by omega)) (hio := hu2.2.1) (hS := hS)) rfl ?_
    clear hS; rintro _ w ⟨rfl, hS⟩
    replace hS : St g (Arn a A :: L) w := hS
    refine WL.r 3 rfl ?_
    refine WL.new rfl rfl zv_165 hS (fun b1 w hS => ?_)
    refine WL.stF rfl rfl rfl 0 hS rfl rfl rfl rfl rfl ag_165 (fun w hS => ?_)
    replace hS : St g (cel b1 #[.int .i64 (A.nd j).key, .int .i64 (A.nd j).val, .int .u32 (A.nd j).lf, .int .u32 (A.nd j).rg, .int .i64 (A.nd j).size, .int .i64 (A.nd j).sum, .int .i64 (A.nd j).mn, .int .i64 (A.nd j).mx] 165 :: Arn a A :: L) w := hS
    refine WL.r 1 rfl ?_
    refine WL.nil ?_
    as_aux_lemma =>
      refine WC.block ?_
      refine WC.seq ?_
      refine WC.region ?_
      refine WL.r 3 rfl ?_
      refine WL.nil ?_
      refine WC.ifF rfl rfl ?_
      refine WC.seq ?_
      refine WC.region ?_
      refine WL.run 5 [.int .i64 (A.nd j).key] rfl (by exact hS.ld 0 rfl rfl) ?_
      refine WL.nil ?_
      refine WC.ifP rfl (fun hlt => ?_) (fun hlt => ?_)
      · refine WC.region ?_
        refine WL.run 3 [.int .u32 (A.nd j).lf] rfl (by exact hS.ld 0 rfl rfl) ?_
        refine WL.nil ?_
        exact ⟨_, by omega, (A.nd j).lf, ul, rfl, (hS.sel 1 [] rfl), (hu2.2.2.2.2.1), (by rw [← hg, hue, Tr.get, if_pos (by rw [← hu2.2.2.1]; exact hlt)]), rfl⟩
      · refine WC.seq ?_
        refine WC.region ?_
        refine WL.run 5 [.int .i64 (A.nd j).key] rfl (by exact hS.ld 0 rfl rfl) ?_
        refine WL.nil ?_
        refine WC.ifP rfl (fun hgt => ?_) (fun hgt => ?_)
        · refine WC.region ?_
          refine WL.run 3 [.int .u32 (A.nd j).rg] rfl (by exact hS.ld 0 rfl rfl) ?_
          refine WL.nil ?_
          exact ⟨_, by omega, (A.nd j).rg, ur, rfl, (hS.sel 1 [] rfl), (hu2.2.2.2.2.2), (by rw [← hg, hue, Tr.get, if_neg (by rw [← hu2.2.2.1]; exact hlt), if_pos (by rw [← hu2.2.2.1]; exact hgt)]), rfl⟩
        · refine WC.seq ?_
          refine WC.region ?_
          refine WL.run 4 [.int .i64 (A.nd j).val] rfl (by exact hS.ld 0 rfl rfl) ?_
          refine WL.nil ?_
          refine WC.ret ?_
          refine ⟨[.int .i64 (A.nd j).val, .bool true], ⟨rfl, rfl⟩, ?_⟩
          replace hS := (hS.sel 1 [] rfl)
          have hgv : Tr.get k t = some (A.nd j).val := (by rw [← hg, hue, Tr.get, if_neg (by rw [← hu2.2.2.1]; exact hlt), if_neg (by rw [← hu2.2.2.1]; exact hgt), hu2.2.2.2.1]); exact ⟨by rw [hgv]; rfl, hS⟩
  · refine WC.exit ?_
    refine WC.seq ?_
    refine WC.region ?_
    refine WL.r 2 rfl ?_
    refine WL.nil ?_
    refine WC.ret ?_
    refine ⟨[.int .i64 0, .bool false], ⟨rfl, rfl⟩, ?_⟩
    have hgv : Tr.get k t = none := (by rw [← hg, (Is.nil_iff hu).1 (Classical.not_not.1 cd1)]; rfl); exact ⟨by rw [hgv]; rfl, hS⟩
theorem wt_step {h : Nat} (hw : Tr.wt h ≤ 2147483648) : IntKind.i64.wrap ((Tr.wt h : Int) + ((Tr.wt h : Int) + 2) / 3) = (Tr.wt (h + 1) : Int) := by
  rw [w64 (by omega), show Tr.wt (h + 1) = Tr.wt h + (Tr.wt h + 2) / 3 from rfl]; omega
theorem mxA_stop {keys h : Nat} (hh : h < 80) (hs : keys + 1 < Tr.wt (h + 1)) : Tr.mxA keys (80 - h) h = h := by
  rw [show 80 - h = (80 - (h + 1)) + 1 by omega, Tr.mxA, if_pos hs]
theorem mxA_go {keys h : Nat} (hh : h < 80) (hs : ¬ keys + 1 < Tr.wt (h + 1)) : Tr.mxA keys (80 - (h + 1)) (h + 1) = Tr.mxA keys (80 - h) h := by
  rw [show 80 - h = (80 - (h + 1)) + 1 by omega, Tr.mxA, if_neg hs]
theorem wt_small {h : Nat} (hw : Tr.wt h ≤ 2147483648) : Tr.wt (h + 1) ≤ 3000000000 := by
  rw [show Tr.wt (h + 1) = Tr.wt h + (Tr.wt h + 2) / 3 from rfl]; omega
set_option maxRecDepth 8192 in
theorem mx_height {g w : World} {L : List HP} (keys : Nat) (hk : keys ≤ 2147483647) (hS : St g (L) w) :
    Sp Tryz.prog 220 [.int .i64 (keys : Int)] w (fun v w' => v = .int .i64 (Tr.mxH keys : Int) ∧ St g (L) w') := by
  refine Sp.enter Tryz.func220 rfl (by kernel_rfl) (by kernel_rfl) ?_
  have _ := hk
  refine WC.seq ?_
  refine WC.region ?_
  refine WL.r 1 rfl ?_
  refine WL.nil ?_
  refine WC.seq ?_
  refine WC.seq ?_
  refine WC.region ?_
  refine WL.r 2 rfl ?_
  refine WL.rG 4 rfl (fun j => ?_)
  refine WL.prop 10 rfl (bor (dd _) (dd _)) ?_
  refine WL.nil ?_
  refine WC.ifF rfl (decide_eq_false ((by omega))) ?_
  refine WC.skip ?_
  refine WC.seq ?_
  refine WC.region ?_
  refine WL.r 2 rfl ?_
  refine WL.nil ?_
  refine WC.seq ?_
  refine WC.block ?_
  refine WC.loop [0, 2, 3, 4] (fun kM vs w => ∃ (h : Nat), vs = [.int .i64 (keys : Int), .int .i64 0, .int .i64 (h : Int), .int .i64 (Tr.wt h : Int)] ∧ St g (L) w ∧ (h ≤ 80) ∧ (Tr.wt h ≤ keys + 1) ∧ (Tr.mxA keys (80 - h) h = Tr.mxH keys) ∧ (80 - h) = kM) (80 - 0) ⟨0, rfl, hS, (by omega), (by simp [Tr.wt]), (rfl), rfl⟩ ?_
  clear hS; rintro _ _ w j ⟨h, rfl, hS, hh, hw, hm, rfl⟩
  refine WC.seq ?_
  refine WC.seq ?_
  refine WC.region ?_
  refine WL.r 2 rfl ?_
  refine WL.nil ?_
  as_aux_lemma =>
    refine WC.ifP rfl (fun cd1 => ?_) (fun cd1 => ?_)
    · refine WC.skip ?_
      refine WC.block ?_
      refine WC.seq ?_
      refine WC.region ?_
      have hws := wt_small (h := h) (by omega)
      refine WL.r 3 rfl ?_
      refine WL.nw 15 rfl (w64 (by omega)) ?_
      refine WL.r 1 rfl ?_
      refine WL.reb 16 (.int .i64 (((Tr.wt h : Int) + 2) / 3)) (congrArg (Value.int .i64) (quo_i64 (p := (Tr.wt h : Int) + 2) (q := 3) (by omega))) ?_
      refine WL.r 1 rfl ?_
      refine WL.reb 17 (.int .i64 (Tr.wt (h + 1) : Int)) (congrArg (Value.int .i64) (by exact wt_step (by omega))) ?_
      refine WL.r 1 rfl ?_
      refine WL.nil ?_
      refine WC.seq ?_
      refine WC.seq ?_
      refine WC.region ?_
      refine WL.r 2 rfl ?_
      refine WL.nw 19 rfl (w64 (by omega)) ?_
      refine WL.r 2 rfl ?_
      refine WL.nil ?_
      refine WC.ifP rfl (fun cd2 => ?_) (fun cd2 => ?_)
      · refine WC.exit ?_
        refine WC.seq ?_
        refine WC.region ?_
        refine WL.r 2 rfl ?_
        refine WL.nil ?_
        as_aux_lemma =>
          refine WC.ret ?_
          refine ⟨[.int .i64 (h : Int)], rfl, ?_⟩
          exact ⟨congrArg (fun n : Nat => Value.int .i64 n) ((mxA_stop (keys := keys) (by omega) (by omega)).symm.trans hm), hS⟩
      · refine WC.skip ?_
        refine WC.region ?_
        refine WL.r 2 rfl ?_
        refine WL.nw 23 rfl (w64 (by omega)) ?_
        refine WL.r 1 rfl ?_
        refine WL.nil ?_
        exact ⟨_, by omega, h + 1, rfl, hS, (by omega), (by omega), (by rw [mxA_go (by omega) (by omega)]; exact hm), rfl⟩
    · refine WC.exit ?_
      refine WC.seq ?_
      refine WC.region ?_
      refine WL.r 2 rfl ?_
      refine WL.nil ?_
      refine WC.ret ?_
      refine ⟨[.int .i64 (h : Int)], rfl, ?_⟩
      exact ⟨congrArg (fun n : Nat => Value.int .i64 n) (by rw [← hm, show 80 - h = 0 by omega]; rfl), hS⟩
set_option maxRecDepth 8192 in
theorem rs_valid {g w : World} {L : List HP} (l : List Int) (b : Option Addr) (c : Nat) (hl : l.length ≤ 10) (hS : St g (Sh 3 1 (i64s l) b c :: L) w) :
    Sp Tryz.prog 184 [.slice b (List.length (i64s l)) c] w (fun v w' => v = .bool (l.all fun n => decide (0 ≤ n ∧ n ≤ 65536)) ∧ St g (Sh 3 1 (i64s l) b c :: L) w') := by
  refine Sp.enter Tryz.func184 rfl (by kernel_rfl) (by kernel_rfl) ?_
  have _ := hl
  refine WC.seq ?_
  refine WC.region ?_
  refine WL.r 1 rfl ?_
  refine WL.nil ?_
  refine WC.seq ?_
  refine WC.seq ?_
  refine WC.region ?_
  have hll := i64s_len l
  refine WL.r 3 rfl ?_
  refine WL.nil ?_
  refine WC.block ?_
  refine WC.loop [5, 6, 7] (fun kM vs w => ∃ (k : Nat), vs = [.slice b (List.length (i64s l)) c, .int .i64 (List.length (i64s l) : Int), .int .i64 (k : Int)] ∧ St g (Sh 3 1 (i64s l) b c :: L) w ∧ (k ≤ l.length) ∧ (∀ x ∈ l.take k, 0 ≤ x ∧ x ≤ 65536) ∧ (l.length - k) = kM) ((List.length l) - 0) ⟨0, rfl, hS, (Nat.zero_le _), (by simp), rfl⟩ ?_
  clear hS; rintro _ _ w j ⟨k, rfl, hS, hk, ha, rfl⟩
  refine WC.seq ?_
  refine WC.region ?_
  have hll := i64s_len l
  refine WL.r 1 rfl ?_
  refine WL.nil ?_
  refine WC.seq ?_
  refine WC.ifP rfl (fun cd1 => ?_) (fun cd1 => ?_)
  · refine WC.skip ?_
    refine WC.seq ?_
    refine WC.block ?_
    refine WC.seq ?_
    refine WC.region ?_
    obtain ⟨x, hx⟩ : ∃ x, l[k]? = some x := ⟨_, List.getElem?_eq_getElem (by omega)⟩
    refine WL.ix rfl rfl (i := (k : Int)) (k) el_56 rfl rfl (by omega) (by omega) (hS.rdS 0 rfl (i64s_at hx)).1 ?_
    refine WL.run 2 [.int .i64 x] rfl (by exact (hS.rdS 0 rfl (i64s_at hx)).2 0 _ rfl) ?_
    refine WL.nil ?_
    as_aux_lemma =>
      refine WC.seq ?_
      refine WC.region ?_
      refine WL.r 2 rfl ?_
      refine WL.rG 4 rfl (fun j => ?_)
      refine WL.prop 16 rfl (bor (dd _) (dd _)) ?_
      refine WL.nil ?_
      refine WC.ifP rfl (fun cd2 => ?_) (fun cd2 => ?_)
      · refine WC.seq ?_
        refine WC.region ?_
        refine WL.r 1 rfl ?_
        refine WL.nil ?_
        refine WC.ret ?_
        refine ⟨[.bool false], rfl, ?_⟩
        exact ⟨congrArg Value.bool (by rw [Eq.comm, List.all_eq_false]; exact ⟨x, List.mem_of_getElem? hx, by simp; omega⟩), hS⟩
      · refine WC.skip ?_
        refine WC.region ?_
        refine WL.r 1 rfl ?_
        refine WL.nw 17 rfl (w64 (by omega)) ?_
        refine WL.r 1 rfl ?_
        refine WL.nil ?_
        exact ⟨_, by omega, k + 1, rfl, hS, (by omega), (by rw [List.take_add_one, hx]; intro y hy; rcases List.mem_append.1 hy with hy | hy; exact ha y hy; simp at hy; subst hy; omega), rfl⟩
  · refine WC.exit ?_
    refine WC.seq ?_
    refine WC.region ?_
    refine WL.r 1 rfl ?_
    refine WL.nil ?_
    as_aux_lemma =>
      refine WC.ret ?_
      refine ⟨[.bool true], rfl, ?_⟩
      exact ⟨congrArg Value.bool (by rw [Eq.comm, List.all_eq_true]; intro y hy; rw [List.take_of_length_le (by omega)] at ha; exact decide_eq_true (ha y hy)), hS⟩
theorem mul_rng {f x : Int} (hf : 0 ≤ f ∧ f ≤ 100) (hx : 0 ≤ x ∧ x ≤ 1000) : -9223372036854775808 ≤ f * x ∧ f * x ≤ 9223372036854775807 := by
  have h1 : 0 ≤ f * x := Int.mul_nonneg hf.1 hx.1
  have h2 : f * x ≤ 100 * 1000 := Int.mul_le_mul hf.2 hx.2 hx.1 (by omega)
  omega
set_option maxRecDepth 8192 in
theorem rs_path {g w : World} {L : List HP} (f : Int) (n : Nat) (hf : 0 ≤ f ∧ f ≤ 100) (hn : n ≤ 2147483647) (hS : St g (L) w) :
    Sp Tryz.prog 185 [.int .i64 f, .int .i64 (n : Int)] w (fun v w' => v = .int .i64 (f * ((Tr.mxH n : Int) + 2)) ∧ St g (L) w') := by
  refine Sp.enter Tryz.func185 rfl (by kernel_rfl) (by kernel_rfl) ?_
  refine WC.seq ?_
  refine WC.region ?_
  refine WL.r 1 rfl ?_
  refine WL.nil ?_
  refine WC.seq ?_
  refine WC.region ?_
  refine WL.r 2 rfl ?_
  refine WL.call rfl rfl (mx_height (keys := n) (hk := hn) (hS := hS)) rfl ?_
  clear hS; rintro _ w ⟨rfl, hS⟩
  replace hS : St g (L) w := hS
  refine WL.r 1 rfl ?_
  refine WL.reb 8 (.int .i64 ((Tr.mxH n : Int) + 2)) (congrArg (Value.int .i64) (by have := Tr.mxH_le n; rw [w64 (by omega)])) ?_
  refine WL.r 1 rfl ?_
  refine WL.reb 9 (.int .i64 (f * ((Tr.mxH n : Int) + 2))) (congrArg (Value.int .i64) (by have := Tr.mxH_le n; exact w64 (mul_rng hf (by omega)))) ?_
  refine WL.r 1 rfl ?_
  refine WL.nil ?_
  refine WC.ret ?_
  refine ⟨[.int .i64 (f * ((Tr.mxH n : Int) + 2))], rfl, ?_⟩
  exact ⟨rfl, hS⟩
set_option maxRecDepth 8192 in
theorem rs_ins {g w : World} {L : List HP} (n : Nat) (hn : n ≤ 65536) (hS : St g (L) w) :
    Sp Tryz.prog 127 [.int .i64 (n : Int)] w (fun v w' => v = .int .i64 (4 * ((Tr.mxH (n + 1) : Int) + 2)) ∧ St g (L) w') := by
  refine Sp.enter Tryz.func127 rfl (by kernel_rfl) (by kernel_rfl) ?_
  have _ := hn
  refine WC.seq ?_
  refine WC.region ?_
  refine WL.r 1 rfl ?_
  refine WL.nil ?_
  refine WC.seq ?_
  refine WC.seq ?_
  refine WC.region ?_
  refine WL.r 1 rfl ?_
  refine WL.lit rfl rfl (i64s [(n : Int)]) el_56 hS (by exact ⟨rfl, rfl⟩) (i64s_ok _) rfl (by decide) (fun b1 w hS => ?_)
  replace hS := (hS.at_ 0 rfl).share
  replace hS : St g (Sh 3 1 (i64s [(n : Int)]) (some ⟨b1, 0, none⟩) (List.length (i64s [(n : Int)])) :: L) w := hS
  refine WL.call rfl rfl (rs_valid (l := [(n : Int)]) (b := some ⟨b1, 0, none⟩) (c := List.length (i64s [(n : Int)])) (hl := (by simp)) (hS := hS)) rfl ?_
  clear hS; rintro _ w ⟨rfl, hS⟩
  replace hS : St g (Sh 3 1 (i64s [(n : Int)]) (some ⟨b1, 0, none⟩) (List.length (i64s [(n : Int)])) :: L) w := hS
  refine WL.r 1 rfl ?_
  refine WL.nil ?_
  refine WC.ifF rfl (by simp; omega) ?_
  refine WC.skip ?_
  refine WC.seq ?_
  refine WC.region ?_
  refine WL.r 2 rfl ?_
  refine WL.reb 8 (.int .i64 ((n + 1 : Nat) : Int)) (congrArg (Value.int .i64) (by rw [w64 (by omega)]; omega)) ?_
  refine WL.call rfl rfl (rs_path (f := 4) (n := (n + 1 : Nat)) (hf := (by omega)) (hn := (by omega)) (hS := hS)) rfl ?_
  clear hS; rintro _ w ⟨rfl, hS⟩
  replace hS : St g (Sh 3 1 (i64s [(n : Int)]) (some ⟨b1, 0, none⟩) (List.length (i64s [(n : Int)])) :: L) w := hS
  refine WL.r 1 rfl ?_
  refine WL.nil ?_
  as_aux_lemma =>
    refine WC.ret ?_
    refine ⟨[.int .i64 (4 * ((Tr.mxH (n + 1 : Nat) : Int) + 2))], rfl, ?_⟩
    replace hS := (hS.sel 1 [] rfl)
    exact ⟨rfl, hS⟩
end Go.Proofs.YtlnlnebibgdjdaaGreat
/-! ## Arw -/
namespace Go.V
open Go Go.RowKit
def sz1 (P : Program) (e : TypeId) : Bool := match P.info? e with
  | some i => i.size == 1
  | none => false
theorem sz1_ex {P : Program} {e : TypeId} (h : sz1 P e = true) : ∃ i, P.info? e = some i ∧ i.size = 1 := by
  unfold sz1 at h
  cases hi : P.info? e with
  | none => rw [hi] at h; cases h
  | some i => rw [hi] at h; exact ⟨i, rfl, by simpa using h⟩
structure ArP (P : Program) (t : TypeId) (m : Nat) (e : TypeId) : Prop where
  und : P.underlying t = some (.array m e)
  one1 : sz1 P e = true
theorem ArP.one {P : Program} {t e : TypeId} {m : Nat} (h : ArP P t m e) : ∃ i, P.info? e = some i ∧ i.size = 1 := sz1_ex h.one1
section
variable {P : Program} {T : Tab} [hT : TabOk P T] {n : Nat} {os l : List Oper} {K : Kt} {F : Fm} {w : World} {t e : TypeId} {m : Nat}
theorem WL.ixP {o : Oper} {x y : Operand} {b : Nat} {kk : IntKind} {i : Int} (hg : o.guard = none) (ho : o.op = .indexAddr t x y) (k : Nat) (hE : ArP P t m e) (hx : ev F x = .pointer (some ⟨b, 0, none⟩)) (hy : ev F y = .int kk i) (hik : i = k) (hlt : k < m)
    (hk : WL P n os l K (updo F o.dst (.pointer (some ⟨b, k, none⟩))) w) : WL P n os (o :: l) K F w := by
  refine WL.val hg (fun hok => ?_) hk
  have e1 := okX_at (F := F) hok (x := x) (by simp [ho, Op.operands])
  have e2 := okX_at (F := F) hok (x := y) (by simp [ho, Op.operands])
  subst hik
  have hr : (0 : Int) ≤ k ∧ (k : Int) < m := by omega
  have hadd : (⟨b, 0, none⟩ : Addr).add k = ⟨b, k, none⟩ := by unfold Addr.add; split <;> simp_all
  simp only [execOp, ho, e1, hx, e2, hy, Instr.indexAt, Instr.sureAddr, asIntOf, Sem.run_bind, Sem.run_pure, Result.andThen_ok, run_underlying hE.und, hr, and_self, if_true, run_sizeOf w hE.one, Int.toNat_natCast, Nat.mul_one, hadd]
theorem RQ.ixP {o : Oper} {x y : Operand} {b : Nat} {kk : IntKind} {i : Int} (hg : o.guard = none) (ho : o.op = .indexAddr t x y) (k : Nat) (hE : ArP P t m e) (hx : ev F x = .pointer (some ⟨b, 0, none⟩)) (hy : ev F y = .int kk i) (hik : i = k) (hlt : k < m)
    {d : Nat} (hd : o.dst = some d) (hfd : F d = (.pointer (some ⟨b, k, none⟩))) : RQ P n os w F o := by
  refine RQ.val hg (fun hok mm => ?_) hd hfd
  generalize hw0 : w.drewN mm = w0
  clear hw0
  have e1 := okX_at (F := F) hok (x := x) (by simp [ho, Op.operands])
  have e2 := okX_at (F := F) hok (x := y) (by simp [ho, Op.operands])
  subst hik
  have hr : (0 : Int) ≤ k ∧ (k : Int) < m := by omega
  have hadd : (⟨b, 0, none⟩ : Addr).add k = ⟨b, k, none⟩ := by unfold Addr.add; split <;> simp_all
  simp only [execOp, ho, e1, hx, e2, hy, Instr.indexAt, Instr.sureAddr, asIntOf, Sem.run_bind, Sem.run_pure, Result.andThen_ok, run_underlying hE.und, hr, and_self, if_true, run_sizeOf w0 hE.one, Int.toNat_natCast, Nat.mul_one, hadd]
theorem WQ.ixP {K : Fm → Prop} {o : Oper} {x y : Operand} {b : Nat} {kk : IntKind} {i : Int} (hg : o.guard = none) (ho : o.op = .indexAddr t x y) (k : Nat) (hE : ArP P t m e) (hx : ev F x = .pointer (some ⟨b, 0, none⟩)) (hy : ev F y = .int kk i) (hik : i = k) (hlt : k < m)
    (hk : WQ P n os l w K (updo F o.dst (.pointer (some ⟨b, k, none⟩)))) : WQ P n os (o :: l) w K F := by
  refine WQ.val hg (fun hok mm => ?_) hk
  generalize hw0 : w.drewN mm = w0
  clear hw0
  have e1 := okX_at (F := F) hok (x := x) (by simp [ho, Op.operands])
  have e2 := okX_at (F := F) hok (x := y) (by simp [ho, Op.operands])
  subst hik
  have hr : (0 : Int) ≤ k ∧ (k : Int) < m := by omega
  have hadd : (⟨b, 0, none⟩ : Addr).add k = ⟨b, k, none⟩ := by unfold Addr.add; split <;> simp_all
  simp only [execOp, ho, e1, hx, e2, hy, Instr.indexAt, Instr.sureAddr, asIntOf, Sem.run_bind, Sem.run_pure, Result.andThen_ok, run_underlying hE.und, hr, and_self, if_true, run_sizeOf w0 hE.one, Int.toNat_natCast, Nat.mul_one, hadd]
end
theorem RdE.sub {w : World} {size k : Nat} {a : Option Addr} {cs : List Value} (h : RdE w size a k cs) (d : Nat) (sub : List Value) (hs : (cs.drop d).take sub.length = sub) (j : Nat) (u : Value) (hj : sub[j]? = some u) : w.cell? ⟨bo a, oo a + k * size + d + j, none⟩ = some u := by
  have hlt := (List.getElem?_eq_some_iff.1 hj).1
  rw [← hs, List.getElem?_take, if_pos hlt, List.getElem?_drop] at hj
  rw [Nat.add_assoc]
  exact h (d + j) u hj
def wtA (h : Nat) : Array Value := ((List.range 81).map fun i : Nat => Value.int .i64 (if i < h then (Tr.wt i : Int) else 0)).toArray
theorem wtA_size (h : Nat) : (wtA h).size = 81 := by simp [wtA]
theorem wtA_at {h k : Nat} (hk : k < h) (hh : h ≤ 81) : (wtA h)[k]? = some (.int .i64 (Tr.wt k : Int)) := by
  unfold wtA
  rw [List.getElem?_toArray, List.getElem?_map, List.getElem?_range (by omega)]
  simp [hk]
theorem wtA_set {h : Nat} (hh : h < 81) : (wtA h).setIfInBounds h (.int .i64 (Tr.wt h : Int)) = wtA (h + 1) := by
  apply Array.ext_getElem?
  intro i
  rw [Array.getElem?_setIfInBounds]
  by_cases hi : h = i
  · subst hi
    rw [if_pos rfl, if_pos (by rw [wtA_size]; exact hh), wtA_at (by omega) (by omega)]
  · rw [if_neg hi]
    unfold wtA
    rw [List.getElem?_toArray, List.getElem?_toArray, List.getElem?_map, List.getElem?_map]
    by_cases h2 : i < 81
    · rw [List.getElem?_range h2]
      simp only [Option.map_some]
      by_cases h3 : i < h
      · rw [if_pos h3, if_pos (by omega)]
      · rw [if_neg h3, if_neg (by omega)]
    · rw [List.getElem?_eq_none (by simp; omega)]; rfl
theorem wt_big : ∀ h, h ≤ 81 → Tr.wt h ≤ 500000000000000 := by decide
end Go.V
/-! ## H1 -/
namespace Go.Proofs.YtlnlnebibgdjdaaGreat
open Go Go.V Go.RowKit
theorem ap_326 : ArP Tryz.prog 326 81 3 := ⟨by kernel_rfl, by kernel_rfl⟩
theorem wt_step2 {h : Nat} (hh : h < 81) : IntKind.i64.wrap ((Tr.wt h : Int) + ((Tr.wt h : Int) + 2) / 3) = (Tr.wt (h + 1) : Int) := by
  have := wt_big h (by omega)
  rw [w64 (by omega), show Tr.wt (h + 1) = Tr.wt h + (Tr.wt h + 2) / 3 from rfl]; omega
set_option maxRecDepth 8192 in
theorem r7_weights {g w : World} {L : List HP} (hS : St g (L) w) :
    Sp Tryz.prog 237 [] w (fun v w' => v = .agg (wtA 81) ∧ St g (L) w') := by
  refine Sp.enter Tryz.func237 rfl (by kernel_rfl) (by kernel_rfl) ?_
  refine WC.seq ?_
  refine WC.region ?_
  refine WL.new rfl rfl zv_326 hS (fun b1 w hS => ?_)
  refine WL.nil ?_
  refine WC.seq ?_
  refine WC.region ?_
  replace hS : St g (cel b1 (wtA 0) 326 :: L) w := hS
  refine WL.new rfl rfl zv_326 hS (fun b2 w hS => ?_)
  refine WL.nil ?_
  refine WC.seq ?_
  refine WC.region ?_
  replace hS : St g (cel b2 (wtA 0) 326 :: cel b1 (wtA 0) 326 :: L) w := hS
  refine WL.ixP rfl rfl (0) ap_326 rfl rfl (by omega) (by omega) ?_
  refine WL.st rfl rfl rfl 0 hS rfl rfl rfl rfl (by rw [wtA_size]; rfl) rfl (fun w hS => ?_)
  replace hS : St g (cel b2 (Array.setIfInBounds (wtA 0) 0 (.int .i64 1)) 326 :: cel b1 (wtA 0) 326 :: L) w := hS
  rw [(show Array.setIfInBounds (wtA 0) 0 (.int .i64 1) = wtA 1 from wtA_set (by omega))] at hS
  refine WL.nil ?_
  refine WC.seq ?_
  refine WC.seq ?_
  refine WC.region ?_
  refine WL.r 1 rfl ?_
  refine WL.nil ?_
  refine WC.block ?_
  refine WC.loop [0, 1, 2] (fun kM vs w => ∃ (h : Nat), vs = [.pointer (some ⟨b1, 0, none⟩), .pointer (some ⟨b2, 0, none⟩), .int .i64 ((h : Int) + 1)] ∧ St g (cel b2 (wtA (h + 1)) 326 :: cel b1 (wtA 0) 326 :: L) w ∧ (h ≤ 80) ∧ (80 - h) = kM) (80 - 0) ⟨0, rfl, hS, (by omega), rfl⟩ ?_
  clear hS; rintro _ _ w j ⟨h, rfl, hS, hh, rfl⟩
  refine WC.seq ?_
  refine WC.seq ?_
  refine WC.region ?_
  refine WL.r 2 rfl ?_
  refine WL.nil ?_
  as_aux_lemma =>
    refine WC.ifP rfl (fun cd1 => ?_) (fun cd1 => ?_)
    · refine WC.skip ?_
      refine WC.seq ?_
      refine WC.block ?_
      refine WC.plan [([0, 1, 5, 2, 6, 3, 7, 4, 8, 9, 10, 11, 12], some (13, []))] (by kernel_rfl) (by kernel_rfl) ?_
      have hbg := wt_big h (by omega)
      refine WQ.r 4 rfl ?_
      refine WQ.nw 10 rfl (w64 (by omega)) ?_
      refine WQ.r 1 rfl ?_
      refine WQ.nw 14 rfl (w64 (by omega)) ?_
      refine WQ.ixP rfl rfl (h) ap_326 rfl rfl (by omega) (by omega) ?_
      refine WQ.ixP rfl rfl (h) ap_326 rfl rfl (by omega) (by omega) ?_
      refine WQ.run 3 [.int .i64 (Tr.wt h : Int), .int .i64 (Tr.wt h : Int)] rfl (by exact ⟨hS.ld 0 rfl (wtA_at (by omega) (by omega)), hS.ld 0 rfl (wtA_at (by omega) (by omega))⟩) ?_
      refine WQ.nw 17 rfl (w64 (by omega)) ?_
      refine WQ.r 1 rfl ?_
      refine WQ.reb 18 (.int .i64 (((Tr.wt h : Int) + 2) / 3)) (congrArg (Value.int .i64) (quo_i64 (p := (Tr.wt h : Int) + 2) (q := 3) (by omega))) ?_
      refine WQ.r 1 rfl ?_
      refine WQ.reb 19 (.int .i64 (Tr.wt (h + 1) : Int)) (congrArg (Value.int .i64) (by exact wt_step2 (by omega))) ?_
      refine WQ.ixP rfl rfl (h + 1) ap_326 rfl rfl (by omega) (by omega) ?_
      refine WQ.nil ?_
      intro m1
      replace hS := hS.drewN m1; generalize hwm1 : World.drewN _ _ = w at *; clear hwm1
      refine WL.st rfl rfl rfl 0 hS rfl rfl rfl rfl (by rw [wtA_size]; exact blt_iff.2 (by omega)) rfl (fun w hS => ?_)
      replace hS : St g (cel b2 (Array.setIfInBounds (wtA (h + 1)) (h + 1) (.int .i64 (Tr.wt (h + 1) : Int))) 326 :: cel b1 (wtA 0) 326 :: L) w := hS
      rw [(show Array.setIfInBounds (wtA (h + 1)) (h + 1) (.int .i64 (Tr.wt (h + 1) : Int)) = wtA (h + 1 + 1) from wtA_set (by omega))] at hS
      refine WL.nil ?_
      refine ⟨by exact trivial, ?_⟩
      intro m2
      replace hS := hS.drewN m2; generalize hwm2 : World.drewN _ _ = w at *; clear hwm2
      as_aux_lemma =>
        refine WC.region ?_
        refine WL.r 2 rfl ?_
        refine WL.nw 7 rfl (w64 (by omega)) ?_
        refine WL.r 1 rfl ?_
        refine WL.nil ?_
        exact ⟨_, by omega, h + 1, rfl, hS, (by omega), rfl⟩
    · refine WC.exit ?_
      refine WC.seq ?_
      refine WC.region ?_
      refine WL.ldF rfl rfl 0 hS rfl rfl ag_326 ?_
      refine WL.stF rfl rfl rfl 1 hS rfl rfl rfl rfl rfl ag_326 (fun w hS => ?_)
      replace hS : St g (cel b2 (wtA (h + 1)) 326 :: cel b1 (wtA (h + 1)) 326 :: L) w := hS
      refine WL.nil ?_
      refine WC.ret ?_
      refine ⟨[.agg (wtA (h + 1))], ⟨⟨_, rfl, hS.lvF 1 rfl ag_326⟩, trivial⟩, ?_⟩
      replace hS := (hS.sel 2 [] rfl)
      have hh9 : h = 80 := (by omega); subst hh9; exact ⟨rfl, hS⟩
set_option maxRecDepth 8192 in
theorem r7_height {g w : World} {L : List HP} (keys : Nat) (hk : keys ≤ 2147483647) (hS : St g (L) w) :
    Sp Tryz.prog 197 [.int .i64 (keys : Int)] w (fun v w' => v = .int .i64 (Tr.mxH keys : Int) ∧ St g (L) w') := by
  refine Sp.enter Tryz.func197 rfl (by kernel_rfl) (by kernel_rfl) ?_
  have _ := hk
  refine WC.seq ?_
  refine WC.region ?_
  refine WL.r 1 rfl ?_
  refine WL.nil ?_
  refine WC.seq ?_
  refine WC.seq ?_
  refine WC.region ?_
  refine WL.r 2 rfl ?_
  refine WL.rG 4 rfl (fun j => ?_)
  refine WL.prop 10 rfl (bor (dd _) (dd _)) ?_
  refine WL.nil ?_
  refine WC.ifF rfl (decide_eq_false ((by omega))) ?_
  refine WC.skip ?_
  refine WC.seq ?_
  refine WC.region ?_
  refine WL.call rfl rfl (r7_weights   (hS := hS)) rfl ?_
  clear hS; rintro _ w ⟨rfl, hS⟩
  replace hS : St g (L) w := hS
  refine WL.new rfl rfl zv_326 hS (fun b1 w hS => ?_)
  refine WL.stF rfl rfl rfl 0 hS rfl rfl rfl rfl rfl ag_326 (fun w hS => ?_)
  replace hS : St g (cel b1 (wtA 81) 326 :: L) w := hS
  refine WL.nil ?_
  refine WC.seq ?_
  refine WC.region ?_
  refine WL.r 1 rfl ?_
  refine WL.nil ?_
  as_aux_lemma =>
    refine WC.seq ?_
    refine WC.block ?_
    refine WC.loop [0, 2, 3, 4] (fun kM vs w => ∃ (h : Nat), vs = [.int .i64 (keys : Int), .int .i64 0, .pointer (some ⟨b1, 0, none⟩), .int .i64 (h : Int)] ∧ St g (cel b1 (wtA 81) 326 :: L) w ∧ (h ≤ 80) ∧ (Tr.mxA keys (80 - h) h = Tr.mxH keys) ∧ (80 - h) = kM) (80 - 0) ⟨0, rfl, hS, (by omega), (rfl), rfl⟩ ?_
    clear hS; rintro _ _ w j ⟨h, rfl, hS, hh, hm, rfl⟩
    refine WC.seq ?_
    refine WC.seq ?_
    refine WC.region ?_
    refine WL.r 3 rfl ?_
    by_cases cg1 : (h : Int) < 80
    · refine WL.reb 14 (.bool true) (congrArg Value.bool (decide_eq_true cg1)) ?_
      refine WL.ung rfl rfl rfl ?_
      refine WL.r 1 rfl ?_
      refine WL.ung rfl rfl rfl ?_
      refine WL.r 1 rfl ?_
      refine WL.nw 16 rfl (w64 (by omega)) ?_
      refine WL.ung rfl rfl rfl ?_
      refine WL.ixP rfl rfl (h + 1) ap_326 rfl rfl (by omega) (by omega) ?_
      refine WL.ung rfl rfl rfl ?_
      refine WL.run 1 [.int .i64 (Tr.wt (h + 1) : Int)] rfl (by exact hS.ld 0 rfl (wtA_at (by omega) (by omega))) ?_
      refine WL.ung rfl rfl rfl ?_
      refine WL.r 1 rfl ?_
      refine WL.nw 19 rfl (w64 (by have hbg := wt_big (h + 1) (by omega); omega)) ?_
      refine WL.ung rfl rfl rfl ?_
      refine WL.r 1 rfl ?_
      refine WL.ung rfl rfl rfl ?_
      refine WL.r 2 rfl ?_
      refine WL.nil ?_
      as_aux_lemma =>
        refine WC.ifP rfl (fun cd1 => ?_) (fun cd1 => ?_)
        · refine WC.skip ?_
          refine WC.block ?_
          refine WC.region ?_
          refine WL.r 2 rfl ?_
          refine WL.nw 24 rfl (w64 (by omega)) ?_
          refine WL.r 1 rfl ?_
          refine WL.nil ?_
          exact ⟨_, by omega, h + 1, rfl, hS, (by omega), (by rw [mxA_go (by omega) (by omega)]; exact hm), rfl⟩
        · refine WC.exit ?_
          refine WC.seq ?_
          refine WC.region ?_
          refine WL.r 2 rfl ?_
          refine WL.nil ?_
          refine WC.ret ?_
          refine ⟨[.int .i64 (h : Int)], rfl, ?_⟩
          replace hS := (hS.sel 1 [] rfl)
          exact ⟨congrArg (fun n : Nat => Value.int .i64 n) ((mxA_stop (keys := keys) (by omega) (by omega)).symm.trans hm), hS⟩
    · refine WL.reb 14 (.bool false) (congrArg Value.bool (decide_eq_false cg1)) ?_
      refine WL.skp rfl rfl rfl rfl ?_
      refine WL.skp rfl rfl rfl rfl ?_
      refine WL.skp rfl rfl rfl rfl ?_
      refine WL.skp rfl rfl rfl rfl ?_
      refine WL.skp rfl rfl rfl rfl ?_
      refine WL.skp rfl rfl rfl rfl ?_
      refine WL.skp rfl rfl rfl rfl ?_
      refine WL.r 1 rfl ?_
      refine WL.nil ?_
      refine WC.ifF rfl rfl ?_
      refine WC.exit ?_
      refine WC.seq ?_
      refine WC.region ?_
      refine WL.r 2 rfl ?_
      refine WL.nil ?_
      as_aux_lemma =>
        refine WC.ret ?_
        refine ⟨[.int .i64 (h : Int)], rfl, ?_⟩
        replace hS := (hS.sel 1 [] rfl)
        exact ⟨congrArg (fun n : Nat => Value.int .i64 n) (by rw [← hm, show 80 - h = 0 by omega]; rfl), hS⟩
set_option maxRecDepth 8192 in
theorem r8_need {g w : World} {L : List HP} (n : Nat) (hn : n ≤ 65536) (hS : St g (L) w) :
    Sp Tryz.prog 156 [.int .i64 (n : Int), .int .i64 0, .int .i64 0, .int .i64 1, .int .i64 0, .int .i64 4] w (fun v w' => v = .int .i64 (4 * ((Tr.mxH (n + 1) : Int) + 2)) ∧ St g (L) w') := by
  refine Sp.enter Tryz.func156 rfl (by kernel_rfl) (by kernel_rfl) ?_
  have _ := hn
  refine WC.seq ?_
  refine WC.region ?_
  refine WL.r 1 rfl ?_
  refine WL.nil ?_
  refine WC.seq ?_
  refine WC.seq ?_
  refine WC.region ?_
  refine WL.r 2 rfl ?_
  refine WL.rG 20 rfl (fun j => ?_)
  refine WL.prop 34 rfl (bor (bor (bor (bor (bor (dd _) (dd _)) (dd _)) (dd _)) (dd _)) (dd _)) ?_
  refine WL.nil ?_
  refine WC.ifF rfl (decide_eq_false ((by omega))) ?_
  refine WC.skip ?_
  refine WC.seq ?_
  refine WC.region ?_
  have hmx := Tr.mxH_le (n + 1)
  refine WL.r 5 rfl ?_
  refine WL.nw 39 rfl (w64 (by omega)) ?_
  refine WL.r 2 rfl ?_
  refine WL.nw 41 rfl (w64 (by omega)) ?_
  refine WL.r 2 rfl ?_
  refine WL.reb 43 (.int .i64 ((n + 1 : Nat) : Int)) (congrArg (Value.int .i64) (by rw [w64 (by omega)]; omega)) ?_
  refine WL.call rfl rfl (r7_height (keys := (n + 1 : Nat)) (hk := (by omega)) (hS := hS)) rfl ?_
  clear hS; rintro _ w ⟨rfl, hS⟩
  replace hS : St g (L) w := hS
  refine WL.r 1 rfl ?_
  refine WL.nw 45 rfl (w64 (by omega)) ?_
  refine WL.r 1 rfl ?_
  refine WL.nw 46 rfl (w64 (by omega)) ?_
  refine WL.r 1 rfl ?_
  refine WL.nw 47 rfl (w64 (by omega)) ?_
  refine WL.r 1 rfl ?_
  refine WL.nil ?_
  as_aux_lemma =>
    refine WC.ret ?_
    refine ⟨[.int .i64 (0 + (4 * ((Tr.mxH (n + 1 : Nat) : Int) + 2)))], rfl, ?_⟩
    exact ⟨congrArg (Value.int .i64) (by omega), hS⟩
set_option maxRecDepth 8192 in
theorem r8_ins {g w : World} {L : List HP} (n : Nat) (hn : n ≤ 65536) (hS : St g (L) w) :
    Sp Tryz.prog 91 [.int .i64 (n : Int)] w (fun v w' => v = .int .i64 (4 * ((Tr.mxH (n + 1) : Int) + 2)) ∧ St g (L) w') := by
  refine Sp.enter Tryz.func91 rfl (by kernel_rfl) (by kernel_rfl) ?_
  refine WC.seq ?_
  refine WC.region ?_
  refine WL.r 1 rfl ?_
  refine WL.nil ?_
  refine WC.seq ?_
  refine WC.region ?_
  refine WL.r 1 rfl ?_
  refine WL.call rfl rfl (r8_need (n := n) (hn := hn) (hS := hS)) rfl ?_
  clear hS; rintro _ w ⟨rfl, hS⟩
  replace hS : St g (L) w := hS
  refine WL.r 1 rfl ?_
  refine WL.nil ?_
  refine WC.ret ?_
  refine ⟨[.int .i64 (4 * ((Tr.mxH (n + 1) : Int) + 2))], rfl, ?_⟩
  exact ⟨rfl, hS⟩
end Go.Proofs.YtlnlnebibgdjdaaGreat
/-! ## W6 -/
namespace Go.Proofs.YtlnlnebibgdjdaaGreat
open Go Go.V
theorem TOp.held {A B : AM} {R : List Int} {i j : Int} {t : Tr} {c : Nat} (h : TOp (A.ret i) B R j t c) : TOp A B R j t c :=
  ⟨h.ref, h.is, (Kp.ret A i R).trans h.kp, by have := h.fr; rw [(AM.ret_same _ _).1] at this; exact this, by rw [h.cap, (AM.ret_same _ _).1]⟩
theorem get_of {k z : Int} {t : Tr} (h1 : (Tr.get k t).isSome = true) (h2 : (Tr.get k t).getD 0 = z) : Tr.get k t = some z := by
  cases hg : Tr.get k t with
  | none => rw [hg] at h1; cases h1
  | some y => rw [hg] at h2; rw [show y = z from h2]
set_option maxHeartbeats 1000000 in
set_option maxRecDepth 8192 in
theorem up_ins {g w : World} {L : List HP} (a : Nat) (A : AM) (R : List Int) (i k z : Int) (t : Tr) (hA : ARf A R) (hi : Is A t i) (hb : t.ok) (hn : t.n ≤ 65535) (hf : 4 * ((Tr.mxH (t.n + 1) : Int) + 2) ≤ A.s.free) (hz : R.length ≤ 500000000) (hS : St g (Arn a A :: L) w) :
    Sp Tryz.prog 65 [.pointer (some ⟨a, 0, none⟩), .int .u32 i, .agg #[.int .i64 k, .int .i64 z]] w (fun v w' => ∃ (A2 : AM) (j : Int), v = .tuple #[.int .u32 j, .int .i64 ((Tr.get k t).getD 0), .bool (Tr.get k t).isSome, .int .i64 0] ∧ St g (Arn a A2 :: L) w' ∧ (TOp A A2 R j (Tr.ins k z t) (4 * (Tr.mxH (t.n + 1) + 2)))) := by
  refine Sp.enter Tryz.func65 rfl (by kernel_rfl) (by kernel_rfl) ?_
  have _ := hz
  have _ := hf
  have _ := hn
  refine WC.seq ?_
  refine WC.region ?_
  refine WL.box rfl rfl #[.int .i64 k, .int .i64 z] hS rfl rfl (fun b1 w hS => ?_)
  refine WL.r 4 rfl ?_
  refine WL.nil ?_
  refine WC.seq ?_
  refine WC.region ?_
  refine WL.run 4 [.int .i64 k] rfl (by exact hS.ld 0 rfl rfl) ?_
  refine WL.call rfl rfl (lk_get (a := a) (A := A) (R := R) (i := i) (k := k) (t := t) (hA := hA) (hi := hi) (hS := (hS.sel 2 [1, 0] rfl))) rfl ?_
  clear hS; rintro _ w ⟨rfl, hS⟩
  replace hS : St g (Arn a A :: cel b1 #[.int .i64 k, .int .i64 z] 77 :: L) w := hS
  refine WL.r 5 rfl ?_
  refine WL.nil ?_
  refine WC.seq ?_
  refine WC.seq ?_
  refine WC.region ?_
  refine WL.r 1 rfl ?_
  refine WL.runG 6 [.int .i64 z] rfl (by exact (fun _ => hS.ld 1 rfl rfl)) (fun j => ?_)
  refine WL.prop 26 rfl (band (dv _) (dd _)) ?_
  refine WL.nil ?_
  refine WC.ifP rfl (fun hc => ?_) (fun hc => ?_)
  · refine WC.seq ?_
    refine WC.region ?_
    refine WL.r 2 rfl ?_
    refine WL.call rfl rfl (tw_hold (a := a) (A := A) (R := R) (i := i) (hA := hA) (hi := hi.ref) (hz := (by omega)) (hS := hS)) rfl ?_
    clear hS; rintro _ w ⟨rfl, hS, f1⟩
    replace hS : St g (Arn a (A.ret i) :: cel b1 #[.int .i64 k, .int .i64 z] 77 :: L) w := hS
    refine WL.r 5 rfl ?_
    refine WL.nil ?_
    as_aux_lemma =>
      refine WC.ret ?_
      refine ⟨[.int .u32 i, .int .i64 ((Tr.get k t).getD 0), .bool true, .int .i64 0], ⟨rfl, rfl, rfl, rfl⟩, ?_⟩
      replace hS := (hS.sel 2 [0] rfl)
      have hg := get_of hc.1 hc.2; exact ⟨_, _, by rw [hg]; rfl, hS, by rw [Tr.ins_same k z t hb hg]; exact (TOp.held (ARf.refl f1 (hi.ret i))).weak (Nat.zero_le _)⟩
  · refine WC.skip ?_
    refine WC.seq ?_
    refine WC.seq ?_
    refine WC.region ?_
    refine WL.r 3 rfl ?_
    refine WL.call rfl rfl (tr_size (a := a) (A := A) (R := R) (i := i) (t := t) (hA := hA) (hi := hi) (hS := hS)) rfl ?_
    clear hS; rintro _ w ⟨rfl, hS⟩
    replace hS : St g (Arn a A :: cel b1 #[.int .i64 k, .int .i64 z] 77 :: L) w := hS
    refine WL.call rfl rfl (rs_ins (n := t.n) (hn := (by omega)) (hS := hS)) rfl ?_
    clear hS; rintro _ w ⟨rfl, hS⟩
    replace hS : St g (Arn a A :: cel b1 #[.int .i64 k, .int .i64 z] 77 :: L) w := hS
    refine WL.call rfl rfl (tw_room (a := a) (A := A) (n := 4 * ((Tr.mxH (t.n + 1) : Int) + 2)) (hA := hA.toAWf) (hS := hS)) rfl ?_
    clear hS; rintro _ w ⟨rfl, hS⟩
    replace hS : St g (Arn a A :: cel b1 #[.int .i64 k, .int .i64 z] 77 :: L) w := hS
    refine WL.r 1 rfl ?_
    refine WL.prop 37 rfl (bnot (dd _)) ?_
    refine WL.nil ?_
    as_aux_lemma =>
      refine WC.ifF rfl (decide_eq_false ((by have := Tr.mxH_le (t.n + 1); simp; omega))) ?_
      refine WC.skip ?_
      refine WC.seq ?_
      refine WC.plan [([0, 1, 2, 4, 6, 7], some (3, [0, 4, 6, 7])), ([], some (5, [6, 7])), ([8, 9, 10, 11], none)] (by kernel_rfl) (by kernel_rfl) ?_
      refine WQ.r 3 rfl ?_
      refine WQ.ldF rfl rfl 1 hS rfl rfl ag_77 ?_
      refine WQ.r 2 rfl ?_
      refine WQ.nil ?_
      intro m1
      replace hS := hS.drewN m1; generalize hwm1 : World.drewN _ _ = w at *; clear hwm1
      refine WL.call rfl rfl (tw_hold (a := a) (A := A) (R := R) (i := i) (hA := hA) (hi := hi.ref) (hz := (by omega)) (hS := hS)) rfl ?_
      clear hS; rintro _ w ⟨rfl, hS, f1⟩
      replace hS : St g (Arn a (A.ret i) :: cel b1 #[.int .i64 k, .int .i64 z] 77 :: L) w := hS
      refine WL.nil ?_
      refine ⟨by exact ⟨RQ.pure rfl rfl rfl rfl, RQ.ldF rfl rfl 1 hS rfl rfl ag_77 rfl rfl, RQ.pure rfl rfl rfl rfl, RQ.pure rfl rfl rfl rfl⟩, ?_⟩
      refine WQ.nil ?_
      intro m2
      replace hS := hS.drewN m2; generalize hwm2 : World.drewN _ _ = w at *; clear hwm2
      refine WL.call rfl rfl (tw_ins (a := a) (A := A.ret i) (R := R) (i := i) (k := k) (z := z) (t := t) (hA := f1) (hi := hi.ret i) (hf := (by have := Tr.ic_res k z t hb (by omega); rw [(AM.ret_same _ _).1]; omega)) (hz := (by omega)) (hS := hS)) rfl ?_
      clear hS; rintro _ w ⟨A1, j1, rfl, hS, f2⟩
      replace hS : St g (Arn a A1 :: cel b1 #[.int .i64 k, .int .i64 z] 77 :: L) w := hS
      refine WL.nil ?_
      refine ⟨by exact ⟨RQ.pure rfl rfl rfl rfl, RQ.pure rfl rfl rfl rfl⟩, ?_⟩
      refine WQ.r 4 rfl ?_
      refine WQ.nil ?_
      intro m3
      replace hS := hS.drewN m3; generalize hwm3 : World.drewN _ _ = w at *; clear hwm3
      as_aux_lemma =>
        refine WC.ret ?_
        refine ⟨[.int .u32 j1, .int .i64 ((Tr.get k t).getD 0), .bool (Tr.get k t).isSome, .int .i64 0], ⟨rfl, rfl, rfl, rfl⟩, ?_⟩
        replace hS := (hS.sel 2 [0] rfl)
        exact ⟨_, _, rfl, hS, (TOp.held f2).weak (by have := Tr.ic_res k z t hb (by omega); omega)⟩
end Go.Proofs.YtlnlnebibgdjdaaGreat
/-! ## H2 -/
namespace Go.Proofs.YtlnlnebibgdjdaaGreat
open Go Go.V
set_option maxRecDepth 8192 in
theorem rs_del {g w : World} {L : List HP} (n : Nat) (hn : n ≤ 65536) (hS : St g (L) w) :
    Sp Tryz.prog 157 [.int .i64 (n : Int)] w (fun v w' => v = .int .i64 (4 * ((Tr.mxH n : Int) + 2)) ∧ St g (L) w') := by
  refine Sp.enter Tryz.func157 rfl (by kernel_rfl) (by kernel_rfl) ?_
  have _ := hn
  refine WC.seq ?_
  refine WC.region ?_
  refine WL.r 1 rfl ?_
  refine WL.nil ?_
  refine WC.seq ?_
  refine WC.seq ?_
  refine WC.region ?_
  refine WL.r 1 rfl ?_
  refine WL.lit rfl rfl (i64s [(n : Int)]) el_56 hS (by exact ⟨rfl, rfl⟩) (i64s_ok _) rfl (by decide) (fun b1 w hS => ?_)
  replace hS := (hS.at_ 0 rfl).share
  replace hS : St g (Sh 3 1 (i64s [(n : Int)]) (some ⟨b1, 0, none⟩) (List.length (i64s [(n : Int)])) :: L) w := hS
  refine WL.call rfl rfl (rs_valid (l := [(n : Int)]) (b := some ⟨b1, 0, none⟩) (c := List.length (i64s [(n : Int)])) (hl := (by simp)) (hS := hS)) rfl ?_
  clear hS; rintro _ w ⟨rfl, hS⟩
  replace hS : St g (Sh 3 1 (i64s [(n : Int)]) (some ⟨b1, 0, none⟩) (List.length (i64s [(n : Int)])) :: L) w := hS
  refine WL.r 1 rfl ?_
  refine WL.nil ?_
  refine WC.ifF rfl (by simp; omega) ?_
  refine WC.skip ?_
  refine WC.seq ?_
  refine WC.region ?_
  refine WL.r 1 rfl ?_
  refine WL.call rfl rfl (rs_path (f := 4) (n := n) (hf := (by omega)) (hn := (by omega)) (hS := hS)) rfl ?_
  clear hS; rintro _ w ⟨rfl, hS⟩
  replace hS : St g (Sh 3 1 (i64s [(n : Int)]) (some ⟨b1, 0, none⟩) (List.length (i64s [(n : Int)])) :: L) w := hS
  refine WL.r 1 rfl ?_
  refine WL.nil ?_
  as_aux_lemma =>
    refine WC.ret ?_
    refine ⟨[.int .i64 (4 * ((Tr.mxH n : Int) + 2))], rfl, ?_⟩
    replace hS := (hS.sel 1 [] rfl)
    exact ⟨rfl, hS⟩
set_option maxHeartbeats 1000000 in
set_option maxRecDepth 8192 in
theorem up_del {g w : World} {L : List HP} (a : Nat) (A : AM) (R : List Int) (i k : Int) (t : Tr) (hA : ARf A R) (hi : Is A t i) (hb : t.ok) (hg : (Tr.get k t).isSome = true) (hn : t.n ≤ 65535) (hf : 4 * ((Tr.mxH t.n : Int) + 2) ≤ A.s.free) (hz : R.length ≤ 500000000) (hS : St g (Arn a A :: L) w) :
    Sp Tryz.prog 92 [.pointer (some ⟨a, 0, none⟩), .int .u32 i, .int .i64 k] w (fun v w' => ∃ (A2 : AM) (j : Int), v = .tuple #[.int .u32 j, .int .i64 ((Tr.get k t).getD 0), .int .i64 0] ∧ St g (Arn a A2 :: L) w' ∧ (TOp A A2 R j (Tr.del k t) (4 * (Tr.mxH t.n + 2)))) := by
  refine Sp.enter Tryz.func92 rfl (by kernel_rfl) (by kernel_rfl) ?_
  have _ := hz
  have _ := hf
  have _ := hn
  refine WC.seq ?_
  refine WC.region ?_
  refine WL.r 3 rfl ?_
  refine WL.nil ?_
  refine WC.seq ?_
  refine WC.region ?_
  refine WL.r 3 rfl ?_
  refine WL.call rfl rfl (lk_get (a := a) (A := A) (R := R) (i := i) (k := k) (t := t) (hA := hA) (hi := hi) (hS := hS)) rfl ?_
  clear hS; rintro _ w ⟨rfl, hS⟩
  replace hS : St g (Arn a A :: L) w := hS
  refine WL.r 5 rfl ?_
  refine WL.nil ?_
  refine WC.seq ?_
  refine WC.seq ?_
  refine WC.region ?_
  refine WL.r 2 rfl ?_
  refine WL.nil ?_
  refine WC.ifF rfl (by rw [hg]; decide) ?_
  refine WC.skip ?_
  refine WC.seq ?_
  refine WC.seq ?_
  refine WC.region ?_
  refine WL.r 3 rfl ?_
  refine WL.call rfl rfl (tr_size (a := a) (A := A) (R := R) (i := i) (t := t) (hA := hA) (hi := hi) (hS := hS)) rfl ?_
  clear hS; rintro _ w ⟨rfl, hS⟩
  replace hS : St g (Arn a A :: L) w := hS
  refine WL.call rfl rfl (rs_del (n := t.n) (hn := (by omega)) (hS := hS)) rfl ?_
  clear hS; rintro _ w ⟨rfl, hS⟩
  replace hS : St g (Arn a A :: L) w := hS
  refine WL.call rfl rfl (tw_room (a := a) (A := A) (n := 4 * ((Tr.mxH t.n : Int) + 2)) (hA := hA.toAWf) (hS := hS)) rfl ?_
  clear hS; rintro _ w ⟨rfl, hS⟩
  replace hS : St g (Arn a A :: L) w := hS
  refine WL.r 1 rfl ?_
  refine WL.prop 26 rfl (bnot (dd _)) ?_
  refine WL.nil ?_
  as_aux_lemma =>
    refine WC.ifF rfl (decide_eq_false ((by have := Tr.mxH_le t.n; simp; omega))) ?_
    refine WC.skip ?_
    refine WC.seq ?_
    refine WC.region ?_
    refine WL.r 3 rfl ?_
    refine WL.call rfl rfl (tw_hold (a := a) (A := A) (R := R) (i := i) (hA := hA) (hi := hi.ref) (hz := (by omega)) (hS := hS)) rfl ?_
    clear hS; rintro _ w ⟨rfl, hS, f1⟩
    replace hS : St g (Arn a (A.ret i) :: L) w := hS
    refine WL.r 1 rfl ?_
    refine WL.call rfl rfl (tw_del (a := a) (A := A.ret i) (R := R) (i := i) (k := k) (t := t) (hA := f1) (hi := hi.ret i) (hf := (by have := Tr.dc_res k t hb (by omega); rw [(AM.ret_same _ _).1]; omega)) (hz := (by omega)) (hS := hS)) rfl ?_
    clear hS; rintro _ w ⟨A1, j1, rfl, hS, f2⟩
    replace hS : St g (Arn a A1 :: L) w := hS
    refine WL.r 4 rfl ?_
    refine WL.nil ?_
    refine WC.ret ?_
    refine ⟨[.int .u32 j1, .int .i64 ((Tr.get k t).getD 0), .int .i64 0], ⟨rfl, rfl, rfl⟩, ?_⟩
    exact ⟨_, _, rfl, hS, (TOp.held f2).weak (by have := Tr.dc_res k t hb (by omega); omega)⟩
def outP (lo hi : Int) (e : Int × Int) : Bool := decide (e.1 < lo ∨ hi < e.1)
theorem out_in {l : Kvs} {j : Nat} {e : Int × Int} {lo hi : Int} (he : l[j]? = some e) (h : e.1 < lo ∨ hi < e.1) : (l.take (j + 1)).filter (outP lo hi) = (l.take j).filter (outP lo hi) ++ [e] := by
  have : outP lo hi e = true := decide_eq_true h
  rw [List.take_add_one, he, List.filter_append]; simp [this]
theorem out_no {l : Kvs} {j : Nat} {e : Int × Int} {lo hi : Int} (he : l[j]? = some e) (h : ¬ (e.1 < lo ∨ hi < e.1)) : (l.take (j + 1)).filter (outP lo hi) = (l.take j).filter (outP lo hi) := by
  have : outP lo hi e = false := decide_eq_false h
  rw [List.take_add_one, he, List.filter_append]; simp [this]
set_option maxRecDepth 8192 in
theorem ref_out {g w : World} {L : List HP} (l : Kvs) (u : Option Addr) (d : Nat) (lo hi : Int) (hl : l.length ≤ 1000000) (hS : St g (Sh 77 2 (en2 l) u d :: L) w) :
    Sp Tryz.prog 159 [.slice u (List.length (en2 l)) d, .int .i64 lo, .int .i64 hi] w (fun v w' => ∃ (a2 : Option Addr) (c2 : Nat), v = .slice a2 (List.length (en2 (l.filter (outP lo hi)))) c2 ∧ St g (Own 77 2 (en2 (l.filter (outP lo hi))) a2 c2 :: Sh 77 2 (en2 l) u d :: L) w') := by
  refine Sp.enter Tryz.func159 rfl (by kernel_rfl) (by kernel_rfl) ?_
  have _ := hl
  refine WC.seq ?_
  refine WC.region ?_
  refine WL.r 1 rfl ?_
  refine WL.nil ?_
  refine WC.seq ?_
  refine WC.region ?_
  have hll := en2_len l
  refine WL.r 1 rfl ?_
  refine WL.nil ?_
  refine WC.seq ?_
  refine WC.seq ?_
  refine WC.region ?_
  refine WL.r 1 rfl ?_
  refine WL.nil ?_
  refine WC.block ?_
  replace hS := hS.nil_ 77 2
  refine WC.loop [0, 1, 2, 6, 7, 8] (fun kM vs w => ∃ (j : Nat) (out : Kvs) (ua : Option Addr) (uc : Nat), vs = [.slice u (List.length (en2 l)) d, .int .i64 lo, .int .i64 hi, .slice none 0 0, .slice ua (List.length (en2 out)) uc, .int .i64 (j : Int)] ∧ St g (Own 77 2 (en2 out) ua uc :: Sh 77 2 (en2 l) u d :: L) w ∧ (j ≤ l.length) ∧ (out = (l.take j).filter (outP lo hi)) ∧ (l.length - j) = kM) ((List.length l) - 0) ⟨0, [], none, 0, rfl, hS, (Nat.zero_le _), (rfl), rfl⟩ ?_
  clear hS; rintro _ _ w j ⟨j, out, ua, uc, rfl, hS, hj, hP, rfl⟩
  refine WC.seq ?_
  refine WC.seq ?_
  refine WC.region ?_
  refine WL.r 4 rfl ?_
  refine WL.nil ?_
  refine WC.ifP rfl (fun cd1 => ?_) (fun cd1 => ?_)
  · refine WC.skip ?_
    as_aux_lemma =>
      refine WC.seq ?_
      refine WC.block ?_
      refine WC.seq ?_
      refine WC.region ?_
      obtain ⟨e, he⟩ : ∃ e, l[j]? = some e := ⟨_, List.getElem?_eq_getElem (by omega)⟩; have hol : out.length ≤ l.length := (by rw [hP]; exact Nat.le_trans (List.length_filter_le _ _) (by simp; omega)); have hoe := en2_len out
      refine WL.r 2 rfl ?_
      refine WL.ix rfl rfl (i := (j : Int)) (j) el_49 rfl rfl (by omega) (by omega) (hS.rdS 1 rfl (en2_at he)).1 ?_
      refine WL.run 5 [.int .i64 e.1] rfl (by exact (hS.rdS 1 rfl (en2_at he)).2 0 _ rfl) ?_
      by_cases cg1 : e.1 < lo
      · refine WL.reb 22 (.bool true) (congrArg Value.bool (decide_eq_true cg1)) ?_
        refine WL.skp rfl rfl rfl rfl ?_
        refine WL.skp rfl rfl rfl rfl ?_
        refine WL.skp rfl rfl rfl rfl ?_
        refine WL.skp rfl rfl rfl rfl ?_
        refine WL.skp rfl rfl rfl rfl ?_
        refine WL.skp rfl rfl rfl rfl ?_
        refine WL.skp rfl rfl rfl rfl ?_
        refine WL.r 1 rfl ?_
        refine WL.nil ?_
        refine WC.ifT rfl rfl ?_
        refine WC.region ?_
        refine WL.r 3 rfl ?_
        refine WL.ix rfl rfl (i := (j : Int)) (j) el_49 rfl rfl (by omega) (by omega) (hS.rdS 1 rfl (en2_at he)).1 ?_
        refine WL.ldC rfl rfl [.int .i64 e.1, .int .i64 e.2] ag_77 rfl (hS.rdS 1 rfl (en2_at he)).2 ?_
        refine WL.lit rfl rfl (en2 [(e.1, e.2)]) el_49 hS (by exact ⟨rfl, rfl⟩) (en2_ok _) rfl (by decide) (fun b1 w hS => ?_)
        refine WL.app rfl rfl 1 (en2 (out ++ [(e.1, e.2)])) el_49 hS rfl (hS.srcO 0 rfl) (en2_app _ _).symm (Rm.of (by first | omega | (simp <;> omega)) (by decide)) rfl rfl (fun a1 c1 w hS => ?_)
        replace hS : St g (Own 77 2 (en2 [(e.1, e.2)]) (some ⟨b1, 0, none⟩) (List.length (en2 [(e.1, e.2)])) :: Own 77 2 (en2 (out ++ [(e.1, e.2)])) a1 c1 :: Sh 77 2 (en2 l) u d :: L) w := hS
        refine WL.r 1 rfl ?_
        refine WL.nil ?_
        as_aux_lemma =>
          refine WC.region ?_
          refine WL.r 2 rfl ?_
          refine WL.nw 14 rfl (w64 (by omega)) ?_
          refine WL.r 1 rfl ?_
          refine WL.nil ?_
          exact ⟨_, by omega, j + 1, out ++ [(e.1, e.2)], a1, c1, rfl, (hS.sel 1 [] rfl), (by omega), (by rw [hP]; exact (out_in he (by omega)).symm), rfl⟩
      · refine WL.reb 22 (.bool false) (congrArg Value.bool (decide_eq_false cg1)) ?_
        refine WL.ung rfl rfl rfl ?_
        refine WL.r 1 rfl ?_
        refine WL.ung rfl rfl rfl ?_
        refine WL.r 1 rfl ?_
        refine WL.ung rfl rfl rfl ?_
        refine WL.ix rfl rfl (i := (j : Int)) (j) el_49 rfl rfl (by omega) (by omega) (hS.rdS 1 rfl (en2_at he)).1 ?_
        refine WL.ung rfl rfl rfl ?_
        refine WL.r 1 rfl ?_
        refine WL.ung rfl rfl rfl ?_
        refine WL.run 1 [.int .i64 e.1] rfl (by exact (hS.rdS 1 rfl (en2_at he)).2 0 _ rfl) ?_
        refine WL.ung rfl rfl rfl ?_
        refine WL.r 1 rfl ?_
        refine WL.ung rfl rfl rfl ?_
        refine WL.r 2 rfl ?_
        refine WL.nil ?_
        as_aux_lemma =>
          refine WC.ifP rfl (fun cd2 => ?_) (fun cd2 => ?_)
          · refine WC.region ?_
            refine WL.r 3 rfl ?_
            refine WL.ix rfl rfl (i := (j : Int)) (j) el_49 rfl rfl (by omega) (by omega) (hS.rdS 1 rfl (en2_at he)).1 ?_
            refine WL.ldC rfl rfl [.int .i64 e.1, .int .i64 e.2] ag_77 rfl (hS.rdS 1 rfl (en2_at he)).2 ?_
            refine WL.lit rfl rfl (en2 [(e.1, e.2)]) el_49 hS (by exact ⟨rfl, rfl⟩) (en2_ok _) rfl (by decide) (fun b1 w hS => ?_)
            refine WL.app rfl rfl 1 (en2 (out ++ [(e.1, e.2)])) el_49 hS rfl (hS.srcO 0 rfl) (en2_app _ _).symm (Rm.of (by first | omega | (simp <;> omega)) (by decide)) rfl rfl (fun a1 c1 w hS => ?_)
            replace hS : St g (Own 77 2 (en2 [(e.1, e.2)]) (some ⟨b1, 0, none⟩) (List.length (en2 [(e.1, e.2)])) :: Own 77 2 (en2 (out ++ [(e.1, e.2)])) a1 c1 :: Sh 77 2 (en2 l) u d :: L) w := hS
            refine WL.r 1 rfl ?_
            refine WL.nil ?_
            refine WC.region ?_
            refine WL.r 2 rfl ?_
            refine WL.nw 14 rfl (w64 (by omega)) ?_
            refine WL.r 1 rfl ?_
            refine WL.nil ?_
            exact ⟨_, by omega, j + 1, out ++ [(e.1, e.2)], a1, c1, rfl, (hS.sel 1 [] rfl), (by omega), (by rw [hP]; exact (out_in he (by omega)).symm), rfl⟩
          · refine WC.skip ?_
            refine WC.region ?_
            refine WL.r 2 rfl ?_
            refine WL.nw 14 rfl (w64 (by omega)) ?_
            refine WL.r 1 rfl ?_
            refine WL.nil ?_
            exact ⟨_, by omega, j + 1, out, ua, uc, rfl, hS, (by omega), (by rw [hP]; exact (out_no he (by omega)).symm), rfl⟩
  · refine WC.exit ?_
    as_aux_lemma =>
      refine WC.seq ?_
      refine WC.region ?_
      refine WL.r 2 rfl ?_
      refine WL.nil ?_
      refine WC.ret ?_
      refine ⟨[.slice ua (List.length (en2 out)) uc], rfl, ?_⟩
      have e9 : out = l.filter (outP lo hi) := (by rw [hP, List.take_of_length_le (by omega)]); rw [e9] at hS ⊢; exact ⟨_, _, rfl, hS⟩
theorem out_del (k : Int) (l : Kvs) : l.filter (outP k k) = ldel k l := by
  unfold ldel
  refine List.filter_congr fun x _ => ?_
  unfold outP
  exact decide_eq_decide.2 ⟨fun h => by omega, fun h => by omega⟩
set_option maxRecDepth 8192 in
theorem ref_del {g w : World} {L : List HP} (l : Kvs) (u : Option Addr) (d : Nat) (k : Int) (hl : l.length ≤ 1000000) (hS : St g (Sh 77 2 (en2 l) u d :: L) w) :
    Sp Tryz.prog 93 [.slice u (List.length (en2 l)) d, .int .i64 k] w (fun v w' => ∃ (a2 : Option Addr) (c2 : Nat), v = .slice a2 (List.length (en2 (ldel k l))) c2 ∧ St g (Own 77 2 (en2 (ldel k l)) a2 c2 :: Sh 77 2 (en2 l) u d :: L) w') := by
  refine Sp.enter Tryz.func93 rfl (by kernel_rfl) (by kernel_rfl) ?_
  refine WC.seq ?_
  refine WC.region ?_
  refine WL.r 1 rfl ?_
  refine WL.nil ?_
  refine WC.seq ?_
  refine WC.region ?_
  refine WL.r 3 rfl ?_
  refine WL.call rfl rfl (ref_out (l := l) (u := u) (d := d) (lo := k) (hi := k) (hl := hl) (hS := hS)) rfl ?_
  clear hS; rintro _ w ⟨a1, c1, rfl, hS⟩
  replace hS : St g (Own 77 2 (en2 (l.filter (outP k k))) a1 c1 :: Sh 77 2 (en2 l) u d :: L) w := hS
  refine WL.r 1 rfl ?_
  refine WL.nil ?_
  refine WC.ret ?_
  refine ⟨[.slice a1 (List.length (en2 (l.filter (outP k k)))) c1], rfl, ?_⟩
  rw [out_del] at hS ⊢; exact ⟨_, _, rfl, hS⟩
end Go.Proofs.YtlnlnebibgdjdaaGreat
/-! ## K1 -/
namespace Go.Proofs.YtlnlnebibgdjdaaGreat
open Go Go.V
set_option maxRecDepth 8192 in
theorem kb_bal {g w : World} {L : List HP} (x y : Int) (hx : 0 ≤ x ∧ x ≤ 2000000000) (hy : 0 ≤ y ∧ y ≤ 2000000000) (hS : St g (L) w) :
    Sp Tryz.prog 195 [.int .i64 x, .int .i64 y] w (fun v w' => v = .bool (decide (x + 1 ≤ 3 * (y + 1) ∧ y + 1 ≤ 3 * (x + 1))) ∧ St g (L) w') := by
  refine Sp.enter Tryz.func195 rfl (by kernel_rfl) (by kernel_rfl) ?_
  have _ := hy
  have _ := hx
  refine WC.seq ?_
  refine WC.region ?_
  refine WL.r 1 rfl ?_
  refine WL.nil ?_
  refine WC.seq ?_
  refine WC.seq ?_
  refine WC.region ?_
  refine WL.r 2 rfl ?_
  refine WL.rG 12 rfl (fun j => ?_)
  refine WL.prop 18 rfl (bor (bor (bor (dd _) (dd _)) (dd _)) (dd _)) ?_
  refine WL.nil ?_
  refine WC.ifF rfl (decide_eq_false ((by omega))) ?_
  refine WC.skip ?_
  refine WC.seq ?_
  refine WC.region ?_
  refine WL.r 2 rfl ?_
  refine WL.nw 20 rfl (w64 (by omega)) ?_
  refine WL.r 2 rfl ?_
  refine WL.nw 22 rfl (w64 (by omega)) ?_
  refine WL.r 1 rfl ?_
  refine WL.nw 23 rfl (w64 (by omega)) ?_
  refine WL.r 1 rfl ?_
  refine WL.rG 9 rfl (fun j => ?_)
  refine WL.prop 32 rfl (band (dd _) (dd _)) ?_
  refine WL.nil ?_
  as_aux_lemma =>
    refine WC.ret ?_
    refine ⟨[.bool (bif (decide ((x + 1) ≤ (3 * (y + 1)))) then (decide ((IntKind.i64.wrap (y + 1)) ≤ (IntKind.i64.wrap (3 * (IntKind.i64.wrap (x + 1)))))) else false)], rfl, ?_⟩
    exact ⟨congrArg Value.bool (by rw [w64 (z := y + 1) (by omega), w64 (z := x + 1) (by omega), w64 (z := 3 * (x + 1)) (by omega), bif_and]), hS⟩
set_option maxRecDepth 8192 in
theorem kt_least {g w : World} {L : List HP} (n : Nat) (hn : n ≤ 1000000) (hS : St g (L) w) :
    Sp Tryz.prog 199 [.int .i64 (n : Int)] w (fun v w' => v = .int .i64 ((n : Int) / 4) ∧ St g (L) w') := by
  refine Sp.enter Tryz.func199 rfl (by kernel_rfl) (by kernel_rfl) ?_
  have _ := hn
  refine WC.seq ?_
  refine WC.region ?_
  refine WL.r 1 rfl ?_
  refine WL.nil ?_
  refine WC.seq ?_
  refine WC.region ?_
  refine WL.r 3 rfl ?_
  refine WL.reb 5 (.int .i64 ((max 0 (n : Int)) / 4)) (congrArg (Value.int .i64) (quo_i64 (p := max 0 (n : Int)) (q := 4) (by omega))) ?_
  refine WL.r 1 rfl ?_
  refine WL.nil ?_
  refine WC.ret ?_
  refine ⟨[.int .i64 ((max 0 (n : Int)) / 4)], rfl, ?_⟩
  exact ⟨congrArg (Value.int .i64) (by omega), hS⟩
set_option maxRecDepth 8192 in
theorem kt_pivot {g w : World} {L : List HP} (n : Nat) (q : Int) (hn : 1 ≤ n ∧ n ≤ 1000000) (hq : 0 ≤ q ∧ q < 18446744073709551616) (hS : St g (L) w) :
    Sp Tryz.prog 160 [.int .i64 (n : Int), .int .u64 q] w (fun v w' => ∃ (p : Nat), v = .int .i64 (p : Int) ∧ St g (L) w' ∧ (p < n) ∧ (Bal p (n - 1 - p))) := by
  refine Sp.enter Tryz.func160 rfl (by kernel_rfl) (by kernel_rfl) ?_
  have _ := hq
  have _ := hn
  refine WC.seq ?_
  refine WC.region ?_
  refine WL.r 1 rfl ?_
  refine WL.nil ?_
  refine WC.seq ?_
  refine WC.region ?_
  refine WL.r 1 rfl ?_
  refine WL.call rfl rfl (kt_least (n := n) (hn := (by omega)) (hS := hS)) rfl ?_
  clear hS; rintro _ w ⟨rfl, hS⟩
  replace hS : St g (L) w := hS
  refine WL.r 1 rfl ?_
  refine WL.nil ?_
  refine WC.seq ?_
  refine WC.block ?_
  refine WC.loop [0, 1, 4, 5] (fun kM vs w => ∃ (j : Int), vs = [.int .i64 (n : Int), .int .u64 q, .int .i64 0, .int .i64 j] ∧ St g (L) w ∧ (0 ≤ j ∧ j < n) ∧ (j.toNat) = kM) (((n : Int) / 4).toNat) ⟨(n : Int) / 4, rfl, hS, (by omega), rfl⟩ ?_
  clear hS; rintro _ _ w j ⟨j, rfl, hS, hj, rfl⟩
  refine WC.seq ?_
  refine WC.seq ?_
  refine WC.region ?_
  refine WL.r 3 rfl ?_
  by_cases cg1 : 0 < j
  · refine WL.reb 11 (.bool true) (congrArg Value.bool (decide_eq_true cg1)) ?_
    refine WL.ung rfl rfl rfl ?_
    refine WL.r 1 rfl ?_
    refine WL.ung rfl rfl rfl ?_
    refine WL.r 1 rfl ?_
    refine WL.nw 13 rfl (w64 (by omega)) ?_
    refine WL.ung rfl rfl rfl ?_
    refine WL.r 1 rfl ?_
    refine WL.ung rfl rfl rfl ?_
    refine WL.r 1 rfl ?_
    refine WL.ung rfl rfl rfl ?_
    refine WL.r 1 rfl ?_
    refine WL.nw 16 rfl (w64 (by omega)) ?_
    refine WL.ung rfl rfl rfl ?_
    refine WL.call rfl rfl (kb_bal (x := j - 1) (y := (n : Int) - j) (hx := (by omega)) (hy := (by omega)) (hS := hS)) rfl ?_
    clear hS; rintro _ w ⟨rfl, hS⟩
    replace hS : St g (L) w := hS
    refine WL.r 1 rfl ?_
    refine WL.nil ?_
    as_aux_lemma =>
      refine WC.ifP rfl (fun cd1 => ?_) (fun cd1 => ?_)
      · refine WC.skip ?_
        refine WC.block ?_
        refine WC.region ?_
        refine WL.r 2 rfl ?_
        refine WL.nw 20 rfl (w64 (by omega)) ?_
        refine WL.r 1 rfl ?_
        refine WL.nil ?_
        exact ⟨_, by omega, j - 1, rfl, hS, (by omega), rfl⟩
      · refine WC.exit ?_
        refine WC.seq ?_
        refine WC.block ?_
        refine WC.loop [0, 1, 4, 5] (fun kM vs w => ∃ (k : Int), vs = [.int .i64 (n : Int), .int .u64 q, .int .i64 0, .int .i64 k] ∧ St g (L) w ∧ (0 ≤ k ∧ k < n) ∧ ((n - k).toNat) = kM) ((n - j).toNat) ⟨j, rfl, hS, (hj), rfl⟩ ?_
        clear hS; rintro _ _ w j ⟨k, rfl, hS, hk, rfl⟩
        refine WC.seq ?_
        refine WC.seq ?_
        refine WC.region ?_
        refine WL.r 3 rfl ?_
        refine WL.nw 23 rfl (w64 (by omega)) ?_
        refine WL.r 2 rfl ?_
        by_cases cg2 : k < ((n : Int) - 1)
        · refine WL.reb 25 (.bool true) (congrArg Value.bool (decide_eq_true cg2)) ?_
          refine WL.ung rfl rfl rfl ?_
          refine WL.r 1 rfl ?_
          refine WL.ung rfl rfl rfl ?_
          refine WL.r 1 rfl ?_
          refine WL.ung rfl rfl rfl ?_
          refine WL.r 1 rfl ?_
          refine WL.nw 28 rfl (w64 (by omega)) ?_
          refine WL.ung rfl rfl rfl ?_
          refine WL.r 1 rfl ?_
          refine WL.ung rfl rfl rfl ?_
          refine WL.r 1 rfl ?_
          refine WL.nw 30 rfl (w64 (by omega)) ?_
          refine WL.ung rfl rfl rfl ?_
          refine WL.call rfl rfl (kb_bal (x := k) (y := ((n : Int) - 1) - k) (hx := (by omega)) (hy := (by omega)) (hS := hS)) rfl ?_
          clear hS; rintro _ w ⟨rfl, hS⟩
          replace hS : St g (L) w := hS
          refine WL.ung rfl rfl rfl ?_
          refine WL.r 1 rfl ?_
          refine WL.prop 32 rfl (bnot (dd _)) ?_
          refine WL.r 1 rfl ?_
          refine WL.nil ?_
          as_aux_lemma =>
            refine WC.ifP rfl (fun cd2 => ?_) (fun cd2 => ?_)
            · refine WC.skip ?_
              refine WC.block ?_
              refine WC.region ?_
              refine WL.r 2 rfl ?_
              refine WL.nw 35 rfl (w64 (by omega)) ?_
              refine WL.r 1 rfl ?_
              refine WL.nil ?_
              exact ⟨_, by omega, k + 1, rfl, hS, (by omega), rfl⟩
            · refine WC.exit ?_
              refine WC.seq ?_
              refine WC.region ?_
              refine WL.r 2 rfl ?_
              refine WL.nw 37 rfl (w64 (by omega)) ?_
              refine WL.r 2 rfl ?_
              refine WL.nw 39 rfl (w64 (by omega)) ?_
              refine WL.r 1 rfl ?_
              refine WL.nil ?_
              refine WC.seq ?_
              refine WC.seq ?_
              refine WC.region ?_
              refine WL.r 3 rfl ?_
              refine WL.nil ?_
              refine WC.ifP rfl (fun cd3 => ?_) (fun cd3 => ?_)
              · refine WC.seq ?_
                refine WC.region ?_
                refine WL.r 2 rfl ?_
                refine WL.reb 44 (.int .i64 ((n : Int) / 2)) (congrArg (Value.int .i64) (quo_i64 (p := (n : Int)) (q := 2) (by omega))) ?_
                refine WL.r 1 rfl ?_
                refine WL.nil ?_
                refine WC.ret ?_
                refine ⟨[.int .i64 ((n : Int) / 2)], rfl, ?_⟩
                exact ⟨n / 2, congrArg (Value.int .i64) (by omega), hS, by omega, by constructor <;> omega⟩
              · refine WC.skip ?_
                refine WC.seq ?_
                refine WC.region ?_
                obtain ⟨m, hm⟩ : ∃ m : Nat, (n : Int) - 1 - k - k + 1 = Int.ofNat (m + 1) := ⟨((n : Int) - 1 - k - k).toNat, by simp; omega⟩; have hm1 := Int.emod_nonneg q (b := Int.ofNat (m + 1)) (by first | (simp; done) | (simp; omega)); have hm2 := Int.emod_lt_of_pos q (b := Int.ofNat (m + 1)) (by first | (simp; done) | (simp; omega))
                refine WL.r 5 rfl ?_
                refine WL.nw 49 rfl (w64 (by omega)) ?_
                refine WL.r 1 rfl ?_
                refine WL.nw 50 rfl (w64 (by omega)) ?_
                refine WL.r 1 rfl ?_
                refine WL.reb 51 (.int .u64 (Int.ofNat (m + 1))) (congrArg (Value.int .u64) (by rw [wu64 (by omega)]; exact hm)) ?_
                refine WL.r 1 rfl ?_
                refine WL.reb 52 (.int .u64 (q % (Int.ofNat (m + 1)))) (congrArg (Value.int .u64) (Int.tmod_eq_emod_of_nonneg (a := q) (by omega))) ?_
                refine WL.r 1 rfl ?_
                refine WL.nw 53 rfl (w64 (by omega)) ?_
                refine WL.r 1 rfl ?_
                refine WL.nw 54 rfl (w64 (by omega)) ?_
                refine WL.r 1 rfl ?_
                refine WL.nil ?_
                as_aux_lemma =>
                  refine WC.ret ?_
                  refine ⟨[.int .i64 (k + (q % (Int.ofNat (m + 1))))], rfl, ?_⟩
                  exact ⟨(k + q % Int.ofNat (m + 1)).toNat, congrArg (Value.int .i64) (by omega), hS, by omega, by constructor <;> omega⟩
        · refine WL.reb 25 (.bool false) (congrArg Value.bool (decide_eq_false cg2)) ?_
          refine WL.skp rfl rfl rfl rfl ?_
          refine WL.skp rfl rfl rfl rfl ?_
          refine WL.skp rfl rfl rfl rfl ?_
          refine WL.skp rfl rfl rfl rfl ?_
          refine WL.skp rfl rfl rfl rfl ?_
          refine WL.skp rfl rfl rfl rfl ?_
          refine WL.skp rfl rfl rfl rfl ?_
          refine WL.r 1 rfl ?_
          refine WL.nil ?_
          refine WC.ifF rfl rfl ?_
          refine WC.exit ?_
          as_aux_lemma =>
            refine WC.seq ?_
            refine WC.region ?_
            refine WL.r 2 rfl ?_
            refine WL.nw 37 rfl (w64 (by omega)) ?_
            refine WL.r 2 rfl ?_
            refine WL.nw 39 rfl (w64 (by omega)) ?_
            refine WL.r 1 rfl ?_
            refine WL.nil ?_
            refine WC.seq ?_
            refine WC.seq ?_
            refine WC.region ?_
            refine WL.r 3 rfl ?_
            refine WL.nil ?_
            refine WC.ifP rfl (fun cd2 => ?_) (fun cd2 => ?_)
            · refine WC.seq ?_
              refine WC.region ?_
              refine WL.r 2 rfl ?_
              refine WL.reb 44 (.int .i64 ((n : Int) / 2)) (congrArg (Value.int .i64) (quo_i64 (p := (n : Int)) (q := 2) (by omega))) ?_
              refine WL.r 1 rfl ?_
              refine WL.nil ?_
              refine WC.ret ?_
              refine ⟨[.int .i64 ((n : Int) / 2)], rfl, ?_⟩
              exact ⟨n / 2, congrArg (Value.int .i64) (by omega), hS, by omega, by constructor <;> omega⟩
            · refine WC.skip ?_
              refine WC.seq ?_
              refine WC.region ?_
              obtain ⟨m, hm⟩ : ∃ m : Nat, (n : Int) - 1 - k - k + 1 = Int.ofNat (m + 1) := ⟨((n : Int) - 1 - k - k).toNat, by simp; omega⟩; have hm1 := Int.emod_nonneg q (b := Int.ofNat (m + 1)) (by first | (simp; done) | (simp; omega)); have hm2 := Int.emod_lt_of_pos q (b := Int.ofNat (m + 1)) (by first | (simp; done) | (simp; omega))
              refine WL.r 5 rfl ?_
              refine WL.nw 49 rfl (w64 (by omega)) ?_
              refine WL.r 1 rfl ?_
              refine WL.nw 50 rfl (w64 (by omega)) ?_
              refine WL.r 1 rfl ?_
              refine WL.reb 51 (.int .u64 (Int.ofNat (m + 1))) (congrArg (Value.int .u64) (by rw [wu64 (by omega)]; exact hm)) ?_
              refine WL.r 1 rfl ?_
              refine WL.reb 52 (.int .u64 (q % (Int.ofNat (m + 1)))) (congrArg (Value.int .u64) (Int.tmod_eq_emod_of_nonneg (a := q) (by omega))) ?_
              refine WL.r 1 rfl ?_
              refine WL.nw 53 rfl (w64 (by omega)) ?_
              refine WL.r 1 rfl ?_
              refine WL.nw 54 rfl (w64 (by omega)) ?_
              refine WL.r 1 rfl ?_
              refine WL.nil ?_
              as_aux_lemma =>
                refine WC.ret ?_
                refine ⟨[.int .i64 (k + (q % (Int.ofNat (m + 1))))], rfl, ?_⟩
                exact ⟨(k + q % Int.ofNat (m + 1)).toNat, congrArg (Value.int .i64) (by omega), hS, by omega, by constructor <;> omega⟩
  · refine WL.reb 11 (.bool false) (congrArg Value.bool (decide_eq_false cg1)) ?_
    refine WL.skp rfl rfl rfl rfl ?_
    refine WL.skp rfl rfl rfl rfl ?_
    refine WL.skp rfl rfl rfl rfl ?_
    refine WL.skp rfl rfl rfl rfl ?_
    refine WL.skp rfl rfl rfl rfl ?_
    refine WL.skp rfl rfl rfl rfl ?_
    refine WL.r 1 rfl ?_
    refine WL.nil ?_
    as_aux_lemma =>
      refine WC.ifF rfl rfl ?_
      refine WC.exit ?_
      refine WC.seq ?_
      refine WC.block ?_
      refine WC.loop [0, 1, 4, 5] (fun kM vs w => ∃ (k : Int), vs = [.int .i64 (n : Int), .int .u64 q, .int .i64 0, .int .i64 k] ∧ St g (L) w ∧ (0 ≤ k ∧ k < n) ∧ ((n - k).toNat) = kM) ((n - j).toNat) ⟨j, rfl, hS, (hj), rfl⟩ ?_
      clear hS; rintro _ _ w j ⟨k, rfl, hS, hk, rfl⟩
      refine WC.seq ?_
      refine WC.seq ?_
      refine WC.region ?_
      refine WL.r 3 rfl ?_
      refine WL.nw 23 rfl (w64 (by omega)) ?_
      refine WL.r 2 rfl ?_
      by_cases cg2 : k < ((n : Int) - 1)
      · refine WL.reb 25 (.bool true) (congrArg Value.bool (decide_eq_true cg2)) ?_
        refine WL.ung rfl rfl rfl ?_
        refine WL.r 1 rfl ?_
        refine WL.ung rfl rfl rfl ?_
        refine WL.r 1 rfl ?_
        refine WL.ung rfl rfl rfl ?_
        refine WL.r 1 rfl ?_
        refine WL.nw 28 rfl (w64 (by omega)) ?_
        refine WL.ung rfl rfl rfl ?_
        refine WL.r 1 rfl ?_
        refine WL.ung rfl rfl rfl ?_
        refine WL.r 1 rfl ?_
        refine WL.nw 30 rfl (w64 (by omega)) ?_
        refine WL.ung rfl rfl rfl ?_
        refine WL.call rfl rfl (kb_bal (x := k) (y := ((n : Int) - 1) - k) (hx := (by omega)) (hy := (by omega)) (hS := hS)) rfl ?_
        clear hS; rintro _ w ⟨rfl, hS⟩
        replace hS : St g (L) w := hS
        refine WL.ung rfl rfl rfl ?_
        refine WL.r 1 rfl ?_
        refine WL.prop 32 rfl (bnot (dd _)) ?_
        refine WL.r 1 rfl ?_
        refine WL.nil ?_
        as_aux_lemma =>
          refine WC.ifP rfl (fun cd1 => ?_) (fun cd1 => ?_)
          · refine WC.skip ?_
            refine WC.block ?_
            refine WC.region ?_
            refine WL.r 2 rfl ?_
            refine WL.nw 35 rfl (w64 (by omega)) ?_
            refine WL.r 1 rfl ?_
            refine WL.nil ?_
            exact ⟨_, by omega, k + 1, rfl, hS, (by omega), rfl⟩
          · refine WC.exit ?_
            refine WC.seq ?_
            refine WC.region ?_
            refine WL.r 2 rfl ?_
            refine WL.nw 37 rfl (w64 (by omega)) ?_
            refine WL.r 2 rfl ?_
            refine WL.nw 39 rfl (w64 (by omega)) ?_
            refine WL.r 1 rfl ?_
            refine WL.nil ?_
            refine WC.seq ?_
            refine WC.seq ?_
            refine WC.region ?_
            refine WL.r 3 rfl ?_
            refine WL.nil ?_
            refine WC.ifP rfl (fun cd2 => ?_) (fun cd2 => ?_)
            · refine WC.seq ?_
              refine WC.region ?_
              refine WL.r 2 rfl ?_
              refine WL.reb 44 (.int .i64 ((n : Int) / 2)) (congrArg (Value.int .i64) (quo_i64 (p := (n : Int)) (q := 2) (by omega))) ?_
              refine WL.r 1 rfl ?_
              refine WL.nil ?_
              refine WC.ret ?_
              refine ⟨[.int .i64 ((n : Int) / 2)], rfl, ?_⟩
              exact ⟨n / 2, congrArg (Value.int .i64) (by omega), hS, by omega, by constructor <;> omega⟩
            · refine WC.skip ?_
              refine WC.seq ?_
              refine WC.region ?_
              obtain ⟨m, hm⟩ : ∃ m : Nat, (n : Int) - 1 - k - k + 1 = Int.ofNat (m + 1) := ⟨((n : Int) - 1 - k - k).toNat, by simp; omega⟩; have hm1 := Int.emod_nonneg q (b := Int.ofNat (m + 1)) (by first | (simp; done) | (simp; omega)); have hm2 := Int.emod_lt_of_pos q (b := Int.ofNat (m + 1)) (by first | (simp; done) | (simp; omega))
              refine WL.r 5 rfl ?_
              refine WL.nw 49 rfl (w64 (by omega)) ?_
              refine WL.r 1 rfl ?_
              refine WL.nw 50 rfl (w64 (by omega)) ?_
              refine WL.r 1 rfl ?_
              refine WL.reb 51 (.int .u64 (Int.ofNat (m + 1))) (congrArg (Value.int .u64) (by rw [wu64 (by omega)]; exact hm)) ?_
              refine WL.r 1 rfl ?_
              refine WL.reb 52 (.int .u64 (q % (Int.ofNat (m + 1)))) (congrArg (Value.int .u64) (Int.tmod_eq_emod_of_nonneg (a := q) (by omega))) ?_
              refine WL.r 1 rfl ?_
              refine WL.nw 53 rfl (w64 (by omega)) ?_
              refine WL.r 1 rfl ?_
              refine WL.nw 54 rfl (w64 (by omega)) ?_
              refine WL.r 1 rfl ?_
              refine WL.nil ?_
              as_aux_lemma =>
                refine WC.ret ?_
                refine ⟨[.int .i64 (k + (q % (Int.ofNat (m + 1))))], rfl, ?_⟩
                exact ⟨(k + q % Int.ofNat (m + 1)).toNat, congrArg (Value.int .i64) (by omega), hS, by omega, by constructor <;> omega⟩
      · refine WL.reb 25 (.bool false) (congrArg Value.bool (decide_eq_false cg2)) ?_
        refine WL.skp rfl rfl rfl rfl ?_
        refine WL.skp rfl rfl rfl rfl ?_
        refine WL.skp rfl rfl rfl rfl ?_
        refine WL.skp rfl rfl rfl rfl ?_
        refine WL.skp rfl rfl rfl rfl ?_
        refine WL.skp rfl rfl rfl rfl ?_
        refine WL.skp rfl rfl rfl rfl ?_
        refine WL.r 1 rfl ?_
        refine WL.nil ?_
        refine WC.ifF rfl rfl ?_
        refine WC.exit ?_
        as_aux_lemma =>
          refine WC.seq ?_
          refine WC.region ?_
          refine WL.r 2 rfl ?_
          refine WL.nw 37 rfl (w64 (by omega)) ?_
          refine WL.r 2 rfl ?_
          refine WL.nw 39 rfl (w64 (by omega)) ?_
          refine WL.r 1 rfl ?_
          refine WL.nil ?_
          refine WC.seq ?_
          refine WC.seq ?_
          refine WC.region ?_
          refine WL.r 3 rfl ?_
          refine WL.nil ?_
          refine WC.ifP rfl (fun cd1 => ?_) (fun cd1 => ?_)
          · refine WC.seq ?_
            refine WC.region ?_
            refine WL.r 2 rfl ?_
            refine WL.reb 44 (.int .i64 ((n : Int) / 2)) (congrArg (Value.int .i64) (quo_i64 (p := (n : Int)) (q := 2) (by omega))) ?_
            refine WL.r 1 rfl ?_
            refine WL.nil ?_
            refine WC.ret ?_
            refine ⟨[.int .i64 ((n : Int) / 2)], rfl, ?_⟩
            exact ⟨n / 2, congrArg (Value.int .i64) (by omega), hS, by omega, by constructor <;> omega⟩
          · refine WC.skip ?_
            refine WC.seq ?_
            refine WC.region ?_
            obtain ⟨m, hm⟩ : ∃ m : Nat, (n : Int) - 1 - k - k + 1 = Int.ofNat (m + 1) := ⟨((n : Int) - 1 - k - k).toNat, by simp; omega⟩; have hm1 := Int.emod_nonneg q (b := Int.ofNat (m + 1)) (by first | (simp; done) | (simp; omega)); have hm2 := Int.emod_lt_of_pos q (b := Int.ofNat (m + 1)) (by first | (simp; done) | (simp; omega))
            refine WL.r 5 rfl ?_
            refine WL.nw 49 rfl (w64 (by omega)) ?_
            refine WL.r 1 rfl ?_
            refine WL.nw 50 rfl (w64 (by omega)) ?_
            refine WL.r 1 rfl ?_
            refine WL.reb 51 (.int .u64 (Int.ofNat (m + 1))) (congrArg (Value.int .u64) (by rw [wu64 (by omega)]; exact hm)) ?_
            refine WL.r 1 rfl ?_
            refine WL.reb 52 (.int .u64 (q % (Int.ofNat (m + 1)))) (congrArg (Value.int .u64) (Int.tmod_eq_emod_of_nonneg (a := q) (by omega))) ?_
            refine WL.r 1 rfl ?_
            refine WL.nw 53 rfl (w64 (by omega)) ?_
            refine WL.r 1 rfl ?_
            refine WL.nw 54 rfl (w64 (by omega)) ?_
            refine WL.r 1 rfl ?_
            refine WL.nil ?_
            as_aux_lemma =>
              refine WC.ret ?_
              refine ⟨[.int .i64 (k + (q % (Int.ofNat (m + 1))))], rfl, ?_⟩
              exact ⟨(k + q % Int.ofNat (m + 1)).toNat, congrArg (Value.int .i64) (by omega), hS, by omega, by constructor <;> omega⟩
theorem u64_rng (z : Int) : 0 ≤ IntKind.u64.wrap z ∧ IntKind.u64.wrap z < 18446744073709551616 := by
  have h : IntKind.u64.wrap z = z % 18446744073709551616 := rfl
  rw [h]; omega
theorem split_at {l : Kvs} {p : Nat} {e : Int × Int} (he : l[p]? = some e) : l.take p ++ e :: l.drop (p + 1) = l := by
  obtain ⟨h, rfl⟩ := List.getElem?_eq_some_iff.1 he
  rw [← List.drop_eq_getElem_cons h, List.take_append_drop]
set_option maxHeartbeats 1000000 in
set_option maxRecDepth 8192 in
theorem kt_plant_step (nM : Nat) (ih : ∀ mM : Nat, mM < nM → ∀ (g w : World) (L : List HP) (a : Nat) (A : AM) (R : List Int) (l : Kvs) (u : Option Addr) (d : Nat) (q : Int), (ARf A R) → ((l.length : Int) ≤ A.s.free) → (l.length ≤ 100000) → (R.length + l.length ≤ 800000000) → (0 ≤ q ∧ q < 18446744073709551616) → l.length = mM → St g (Arn a A :: Sh 77 2 (en2 l) u d :: L) w → Sp Tryz.prog 94 [.pointer (some ⟨a, 0, none⟩), .slice u (List.length (en2 l)) d, .int .u64 q] w (fun v w' => ∃ (A2 : AM) (i : Int) (t : Tr), v = .tuple #[.int .u32 i, .bool true] ∧ St g (Arn a A2 :: Sh 77 2 (en2 l) u d :: L) w' ∧ (TOp A A2 R i t l.length) ∧ (t.ok) ∧ (t.ls = l))) {g w : World} {L : List HP} (a : Nat) (A : AM) (R : List Int) (l : Kvs) (u : Option Addr) (d : Nat) (q : Int) (hA : ARf A R) (hf : (l.length : Int) ≤ A.s.free) (hl : l.length ≤ 100000) (hz : R.length + l.length ≤ 800000000) (hq : 0 ≤ q ∧ q < 18446744073709551616) (hM : l.length = nM) (hS : St g (Arn a A :: Sh 77 2 (en2 l) u d :: L) w) :
    Sp Tryz.prog 94 [.pointer (some ⟨a, 0, none⟩), .slice u (List.length (en2 l)) d, .int .u64 q] w (fun v w' => ∃ (A2 : AM) (i : Int) (t : Tr), v = .tuple #[.int .u32 i, .bool true] ∧ St g (Arn a A2 :: Sh 77 2 (en2 l) u d :: L) w' ∧ (TOp A A2 R i t l.length) ∧ (t.ok) ∧ (t.ls = l)) := by
  refine Sp.enter Tryz.func94 rfl (by kernel_rfl) (by kernel_rfl) ?_
  have _ := hz
  have _ := hl
  have _ := hf
  refine WC.seq ?_
  refine WC.region ?_
  refine WL.r 2 rfl ?_
  refine WL.nil ?_
  refine WC.seq ?_
  refine WC.seq ?_
  refine WC.region ?_
  have hll := en2_len l
  refine WL.r 3 rfl ?_
  refine WL.nil ?_
  refine WC.ifP rfl (fun he => ?_) (fun he => ?_)
  · refine WC.seq ?_
    refine WC.region ?_
    refine WL.r 2 rfl ?_
    refine WL.nil ?_
    refine WC.ret ?_
    refine ⟨[.int .u32 0, .bool true], ⟨rfl, rfl⟩, ?_⟩
    have hn : l = [] := List.length_eq_zero_iff.1 (by omega); subst hn; exact ⟨A, 0, .nil, rfl, hS, ARf.refl (hA.cons0 (by omega)) rfl, trivial, rfl⟩
  · refine WC.skip ?_
    refine WC.seq ?_
    refine WC.region ?_
    refine WL.r 3 rfl ?_
    refine WL.call rfl rfl (kt_pivot (n := List.length (en2 l)) (q := q) (hn := (by omega)) (hq := hq) (hS := hS)) rfl ?_
    clear hS; rintro _ w ⟨p1, rfl, hS, f1, f2⟩
    replace hS : St g (Arn a A :: Sh 77 2 (en2 l) u d :: L) w := hS
    refine WL.r 1 rfl ?_
    refine WL.nil ?_
    refine WC.seq ?_
    refine WC.region ?_
    rw [hll] at f1 f2; obtain ⟨e, hee⟩ : ∃ e, l[p1]? = some e := ⟨_, List.getElem?_eq_getElem f1⟩; have hsp := split_at hee; have htl : (l.take p1).length = p1 := (by rw [List.length_take]; omega); have hdl : (l.drop (p1 + 1)).length = l.length - (p1 + 1) := List.length_drop
    refine WL.r 3 rfl ?_
    refine WL.slHi rfl rfl (v := (p1 : Int)) 1 (p1) (en2 (l.take p1)) el_49 hS rfl rfl rfl (by omega) (by omega) (en2_take _ _) (fun a1 hS => ?_)
    replace hS : St g (Sh 77 2 (en2 (l.take p1)) a1 d :: Arn a A :: Sh 77 2 (en2 l) u d :: L) w := hS
    refine WL.r 2 rfl ?_
    refine WL.reb 32 (.int .u64 (q / 5)) (congrArg (Value.int .u64) (quo_u64 (p := q) (q := 5) (by omega))) ?_
    refine WL.r 2 rfl ?_
    refine WL.r 1 rfl ?_
    refine WL.call rfl rfl (ih (List.length (l.take p1)) (by omega) _ _ _ a A R (l.take p1) a1 d (IntKind.u64.wrap ((q / 5) + (IntKind.u64.wrap (q * 3)))) (hA) ((by omega)) ((by omega)) ((by omega)) ((u64_rng _)) rfl (hS.sel 2 [1, 0] rfl)) rfl ?_
    clear hS; rintro _ w ⟨A1, i1, t1, rfl, hS, f3, f4, f5⟩
    replace hS : St g (Arn a A1 :: Sh 77 2 (en2 (l.take p1)) a1 d :: Sh 77 2 (en2 l) u d :: L) w := hS
    refine WL.r 5 rfl ?_
    refine WL.nil ?_
    as_aux_lemma =>
      refine WC.seq ?_
      refine WC.seq ?_
      refine WC.region ?_
      refine WL.r 2 rfl ?_
      refine WL.nil ?_
      refine WC.ifF rfl rfl ?_
      refine WC.skip ?_
      refine WC.seq ?_
      refine WC.region ?_
      have hfr1 := f3.fr
      refine WL.r 4 rfl ?_
      refine WL.reb 45 (.int .i64 ((p1 + 1 : Nat) : Int)) (congrArg (Value.int .i64) (by rw [w64 (by omega)]; omega)) ?_
      refine WL.slLo rfl rfl (v := ((p1 + 1 : Nat) : Int)) 2 (p1 + 1) (en2 (l.drop (p1 + 1))) el_49 hS rfl rfl rfl (by omega) (by omega) (en2_drop _ _) (fun a2 hS => ?_)
      replace hS : St g (Sh 77 2 (en2 (l.drop (p1 + 1))) a2 (d - (p1 + 1)) :: Arn a A1 :: Sh 77 2 (en2 (l.take p1)) a1 d :: Sh 77 2 (en2 l) u d :: L) w := hS
      refine WL.r 2 rfl ?_
      refine WL.reb 48 (.int .u64 (q / 7)) (congrArg (Value.int .u64) (quo_u64 (p := q) (q := 7) (by omega))) ?_
      refine WL.r 2 rfl ?_
      refine WL.r 1 rfl ?_
      refine WL.r 1 rfl ?_
      refine WL.call rfl rfl (ih (List.length (l.drop (p1 + 1))) (by omega) _ _ _ a A1 (i1 :: R) (l.drop (p1 + 1)) a2 (d - (p1 + 1)) (IntKind.u64.wrap ((IntKind.u64.wrap ((q / 7) + (IntKind.u64.wrap (q * 5)))) + 1)) (f3.ref) ((by omega)) ((by omega)) ((by simp only [List.length_cons]; omega)) ((u64_rng _)) rfl (hS.sel 2 [1, 0] rfl)) rfl ?_
      clear hS; rintro _ w ⟨A2, i2, t2, rfl, hS, f6, f7, f8⟩
      replace hS : St g (Arn a A2 :: Sh 77 2 (en2 (l.drop (p1 + 1))) a2 (d - (p1 + 1)) :: Sh 77 2 (en2 (l.take p1)) a1 d :: Sh 77 2 (en2 l) u d :: L) w := hS
      refine WL.r 5 rfl ?_
      refine WL.nil ?_
      refine WC.seq ?_
      refine WC.seq ?_
      refine WC.region ?_
      refine WL.r 2 rfl ?_
      refine WL.nil ?_
      as_aux_lemma =>
        refine WC.ifF rfl rfl ?_
        refine WC.skip ?_
        refine WC.seq ?_
        refine WC.plan [([0, 1, 2, 6, 7, 11, 12, 3, 8, 4, 9, 5, 10], some (13, [])), ([14, 15, 16, 17, 18], none)] (by kernel_rfl) (by kernel_rfl) ?_
        have hfr2 := f6.fr; have hn1 := Tr.ls_len t1; have hn2 := Tr.ls_len t2; rw [f5] at hn1; rw [f8] at hn2; have hM := Mk.of (k := e.1) (v := e.2) f6.ref.sw (f6.kp i1 (by simp) t1 f3.is) f6.is (by omega) (by omega) (by omega); have hrl := f6.ref.rng (r := i1) (by simp); have hrr := f6.ref.rng (r := i2) (by simp); have hnx := hM.is.1
        refine WQ.r 7 rfl ?_
        refine WQ.ix rfl rfl (i := (p1 : Int)) (p1) el_49 rfl rfl (by omega) (by omega) (hS.rdS 3 rfl (en2_at hee)).1 ?_
        refine WQ.ix rfl rfl (i := (p1 : Int)) (p1) el_49 rfl rfl (by omega) (by omega) (hS.rdS 3 rfl (en2_at hee)).1 ?_
        refine WQ.run 4 [.int .i64 e.1, .int .i64 e.2] rfl (by exact ⟨(hS.rdS 3 rfl (en2_at hee)).2 0 _ rfl, (hS.rdS 3 rfl (en2_at hee)).2 1 _ rfl⟩) ?_
        refine WQ.nil ?_
        intro m1
        replace hS := hS.drewN m1; generalize hwm1 : World.drewN _ _ = w at *; clear hwm1
        refine WL.call rfl rfl (ar_make (a := a) (A := A2) (key := e.1) (val := e.2) (l := i1) (r := i2) (hA := f6.ref.toAWf) (hK := hM.kd) (hf := (by omega)) (hS := hS)) rfl ?_
        clear hS; rintro _ w ⟨rfl, hS⟩
        replace hS : St g (Arn a (A2.make (A2.nodeOf e.1 e.2 i1 i2)) :: Sh 77 2 (en2 (l.drop (p1 + 1))) a2 (d - (p1 + 1)) :: Sh 77 2 (en2 (l.take p1)) a1 d :: Sh 77 2 (en2 l) u d :: L) w := hS
        refine WL.nil ?_
        refine ⟨by exact trivial, ?_⟩
        refine WQ.r 5 rfl ?_
        refine WQ.nil ?_
        intro m2
        replace hS := hS.drewN m2; generalize hwm2 : World.drewN _ _ = w at *; clear hwm2
        refine WC.seq ?_
        refine WC.region ?_
        refine WL.r 2 rfl ?_
        refine WL.call rfl rfl (tr_rel (a := a) (A := A2.make (A2.nodeOf e.1 e.2 i1 i2)) (R := A2.s.next :: i2 :: R) (i := i1) (hA := hM.p1) (hR := (by simp only [List.length_cons]; omega)) (hS := hS)) rfl ?_
        clear hS; rintro _ w ⟨A3, f9, rfl, hS, f10, f11⟩
        replace hS : St g (Arn a A3 :: Sh 77 2 (en2 (l.drop (p1 + 1))) a2 (d - (p1 + 1)) :: Sh 77 2 (en2 (l.take p1)) a1 d :: Sh 77 2 (en2 l) u d :: L) w := hS
        refine WL.r 5 rfl ?_
        refine WL.nil ?_
        as_aux_lemma =>
          refine WC.seq ?_
          refine WC.region ?_
          refine WL.r 2 rfl ?_
          refine WL.call rfl rfl (tr_rel (a := a) (A := A3) (R := A2.s.next :: R) (i := i2) (hA := f10.p1) (hR := (by simp only [List.length_cons]; omega)) (hS := hS)) rfl ?_
          clear hS; rintro _ w ⟨A4, f12, rfl, hS, f13, f14⟩
          replace hS : St g (Arn a A4 :: Sh 77 2 (en2 (l.drop (p1 + 1))) a2 (d - (p1 + 1)) :: Sh 77 2 (en2 (l.take p1)) a1 d :: Sh 77 2 (en2 l) u d :: L) w := hS
          refine WL.r 5 rfl ?_
          refine WL.nil ?_
          refine WC.seq ?_
          refine WC.region ?_
          refine WL.r 3 rfl ?_
          refine WL.rG 14 rfl (fun j => ?_)
          refine WL.prop 101 rfl (band (band (band (dd _) (dd _)) (dd _)) (dd _)) ?_
          refine WL.nil ?_
          refine WC.ret ?_
          refine ⟨[.int .u32 A2.s.next, .bool (bif (bif (bif (decide (0 = 0)) then (decide (0 = 0)) else false) then (decide (0 = 0)) else false) then (decide (A2.s.next ≠ 0)) else false)], ⟨rfl, rfl⟩, ?_⟩
          replace hS := (hS.sel 3 [0] rfl)
          exact ⟨A4, A2.s.next, .node t1 e.1 e.2 t2, by rw [decide_eq_true (show A2.s.next ≠ 0 by omega)]; rfl, hS, (hM.op f10 f13).after (f3.ch.trans f6.ch sb0 sb1) sb0 (by omega), ⟨by unfold Bal at f2 ⊢; omega, f4, f7⟩, by rw [Tr.ls, f5, f8]; exact hsp⟩
theorem kt_plant_all (nM : Nat) : ∀ (g w : World) (L : List HP) (a : Nat) (A : AM) (R : List Int) (l : Kvs) (u : Option Addr) (d : Nat) (q : Int), (ARf A R) → ((l.length : Int) ≤ A.s.free) → (l.length ≤ 100000) → (R.length + l.length ≤ 800000000) → (0 ≤ q ∧ q < 18446744073709551616) → l.length = nM → St g (Arn a A :: Sh 77 2 (en2 l) u d :: L) w → Sp Tryz.prog 94 [.pointer (some ⟨a, 0, none⟩), .slice u (List.length (en2 l)) d, .int .u64 q] w (fun v w' => ∃ (A2 : AM) (i : Int) (t : Tr), v = .tuple #[.int .u32 i, .bool true] ∧ St g (Arn a A2 :: Sh 77 2 (en2 l) u d :: L) w' ∧ (TOp A A2 R i t l.length) ∧ (t.ok) ∧ (t.ls = l)) := by
  induction nM using Nat.strongRecOn with
  | _ nM ih => intro g w L a A R l u d q hA hf hl hz hq hM hS; exact kt_plant_step nM ih a A R l u d q hA hf hl hz hq hM hS
theorem kt_plant {g w : World} {L : List HP} (a : Nat) (A : AM) (R : List Int) (l : Kvs) (u : Option Addr) (d : Nat) (q : Int) (hA : ARf A R) (hf : (l.length : Int) ≤ A.s.free) (hl : l.length ≤ 100000) (hz : R.length + l.length ≤ 800000000) (hq : 0 ≤ q ∧ q < 18446744073709551616) (hS : St g (Arn a A :: Sh 77 2 (en2 l) u d :: L) w) :
    Sp Tryz.prog 94 [.pointer (some ⟨a, 0, none⟩), .slice u (List.length (en2 l)) d, .int .u64 q] w (fun v w' => ∃ (A2 : AM) (i : Int) (t : Tr), v = .tuple #[.int .u32 i, .bool true] ∧ St g (Arn a A2 :: Sh 77 2 (en2 l) u d :: L) w' ∧ (TOp A A2 R i t l.length) ∧ (t.ok) ∧ (t.ls = l)) := kt_plant_all _ g w L a A R l u d q hA hf hl hz hq rfl hS
end Go.Proofs.YtlnlnebibgdjdaaGreat
/-! ## Li -/
namespace Go.Proofs.YtlnlnebibgdjdaaGreat
open Go Go.V
def lpart (k z : Int) (l : Kvs) (put : Bool) : Kvs := l.filter (fun x => decide (x.1 < k)) ++ (if put then (k, z) :: l.filter (fun x => decide (k < x.1)) else [])
structure LP (k z : Int) (l : Kvs) (j : Nat) (put : Bool) (out : Kvs) : Prop where
  eq : out = lpart k z (l.take j) put
  no : put = false → ∀ x ∈ l.take j, x.1 < k
  yes : put = true → ∃ x ∈ l.take j, k ≤ x.1
theorem LP.zero (k z : Int) (l : Kvs) : LP k z l 0 false [] := ⟨by simp [lpart], fun _ x hx => by simp at hx, fun h => by cases h⟩
theorem take_next {l : Kvs} {j : Nat} {e : Int × Int} (h : l[j]? = some e) : l.take (j + 1) = l.take j ++ [e] := by rw [List.take_add_one, h]; rfl
theorem LP.less {k z : Int} {l : Kvs} {j : Nat} {out : Kvs} {e : Int × Int} (h : LP k z l j false out) (he : l[j]? = some e) (hlt : e.1 < k) : LP k z l (j + 1) false (out ++ [e]) := by
  refine ⟨?_, fun _ x hx => ?_, fun h => by cases h⟩
  · rw [h.eq, take_next he]
    simp [lpart, List.filter_append, hlt]
  · rw [take_next he] at hx
    rcases List.mem_append.1 hx with hx | hx
    · exact h.no rfl x hx
    · rw [List.mem_singleton.1 hx]; exact hlt
theorem LP.eq_ {k z : Int} {l : Kvs} {j : Nat} {out : Kvs} {e : Int × Int} (h : LP k z l j false out) (he : l[j]? = some e) (hk : e.1 = k) : LP k z l (j + 1) true (out ++ [(k, z)]) := by
  refine ⟨?_, fun h => (by cases h), fun _ => ⟨e, by rw [take_next he]; simp, by omega⟩⟩
  rw [h.eq, take_next he]
  have h1 : (l.take j).filter (fun x => decide (k < x.1)) = [] := filter_no fun x hx => decide_eq_false (by have := h.no rfl x hx; omega)
  simp [lpart, List.filter_append, hk, h1]
theorem LP.more {k z : Int} {l : Kvs} {j : Nat} {out : Kvs} {e : Int × Int} (h : LP k z l j false out) (he : l[j]? = some e) (hk : k < e.1) : LP k z l (j + 1) true (out ++ [(k, z)] ++ [e]) := by
  refine ⟨?_, fun h => (by cases h), fun _ => ⟨e, by rw [take_next he]; simp, by omega⟩⟩
  rw [h.eq, take_next he]
  have h1 : (l.take j).filter (fun x => decide (k < x.1)) = [] := filter_no fun x hx => decide_eq_false (by have := h.no rfl x hx; omega)
  simp [lpart, List.filter_append, hk, h1, show ¬ e.1 < k by omega]
theorem LP.gt {k z : Int} {l : Kvs} {j : Nat} {out : Kvs} {e : Int × Int} (h : LP k z l j true out) (hs : Srt l) (he : l[j]? = some e) : k < e.1 := by
  obtain ⟨x, hx, hxk⟩ := h.yes rfl
  obtain ⟨i, hi⟩ := List.mem_iff_getElem?.1 hx
  have hij : i < j := by
    have := (List.getElem?_eq_some_iff.1 hi).1
    rw [List.length_take] at this; omega
  rw [List.getElem?_take, if_pos hij] at hi
  have h1 := (List.getElem?_eq_some_iff.1 hi).1
  have h2 := (List.getElem?_eq_some_iff.1 he).1
  have := List.pairwise_iff_getElem.1 hs i j h1 h2 hij
  rw [(List.getElem?_eq_some_iff.1 hi).2, (List.getElem?_eq_some_iff.1 he).2] at this
  omega
theorem LP.rest {k z : Int} {l : Kvs} {j : Nat} {out : Kvs} {e : Int × Int} (h : LP k z l j true out) (hs : Srt l) (he : l[j]? = some e) : LP k z l (j + 1) true (out ++ [e]) := by
  have hgt := h.gt hs he
  refine ⟨?_, fun h => (by cases h), fun _ => ?_⟩
  · rw [h.eq, take_next he]
    simp [lpart, List.filter_append, hgt, show ¬ e.1 < k by omega]
  · obtain ⟨x, hx, hxk⟩ := h.yes rfl
    exact ⟨x, by rw [take_next he]; exact List.mem_append_left _ hx, hxk⟩
theorem LP.end_t {k z : Int} {l out : Kvs} {j : Nat} (h : LP k z l j true out) (hj : l.length ≤ j) : out = lins k z l := by
  rw [h.eq, List.take_of_length_le hj]; rfl
theorem LP.end_f {k z : Int} {l out : Kvs} {j : Nat} (h : LP k z l j false out) (hj : l.length ≤ j) : out ++ [(k, z)] = lins k z l := by
  have h1 := h.no rfl
  rw [h.eq]
  rw [List.take_of_length_le hj] at h1 ⊢
  have h2 : l.filter (fun x => decide (k < x.1)) = [] := filter_no fun x hx => decide_eq_false (by have := h1 x hx; omega)
  simp [lpart, lins, h2]
theorem LP.len {k z : Int} {l out : Kvs} {j : Nat} {put : Bool} (h : LP k z l j put out) : out.length ≤ 2 * l.length + 1 := by
  rw [h.eq]
  unfold lpart
  have h1 := List.length_filter_le (fun x : Int × Int => decide (x.1 < k)) (l.take j)
  have h2 := List.length_filter_le (fun x : Int × Int => decide (k < x.1)) (l.take j)
  have h3 : (l.take j).length ≤ l.length := by simp; omega
  rw [List.length_append]
  split <;> simp only [List.length_cons, List.length_nil] <;> omega
set_option maxHeartbeats 1000000 in
set_option maxRecDepth 8192 in
theorem ref_ins {g w : World} {L : List HP} (l : Kvs) (u : Option Addr) (d : Nat) (k z : Int) (hs : Srt l) (hl : l.length ≤ 1000000) (hS : St g (Sh 77 2 (en2 l) u d :: L) w) :
    Sp Tryz.prog 66 [.slice u (List.length (en2 l)) d, .agg #[.int .i64 k, .int .i64 z]] w (fun v w' => ∃ (a2 : Option Addr) (c2 : Nat), v = .slice a2 (List.length (en2 (lins k z l))) c2 ∧ St g (Own 77 2 (en2 (lins k z l)) a2 c2 :: Sh 77 2 (en2 l) u d :: L) w') := by
  refine Sp.enter Tryz.func66 rfl (by kernel_rfl) (by kernel_rfl) ?_
  have _ := hl
  refine WC.seq ?_
  refine WC.region ?_
  have hll := en2_len l
  refine WL.box rfl rfl #[.int .i64 k, .int .i64 z] hS rfl rfl (fun b1 w hS => ?_)
  refine WL.r 1 rfl ?_
  refine WL.nil ?_
  refine WC.seq ?_
  refine WC.region ?_
  refine WL.r 1 rfl ?_
  refine WL.nil ?_
  refine WC.seq ?_
  refine WC.region ?_
  refine WL.r 1 rfl ?_
  refine WL.nil ?_
  refine WC.seq ?_
  refine WC.seq ?_
  refine WC.region ?_
  refine WL.r 1 rfl ?_
  refine WL.nil ?_
  refine WC.block ?_
  replace hS := hS.nil_ 77 2
  refine WC.loop [0, 3, 4, 5, 6, 7] (fun kM vs w => ∃ (j : Nat) (put : Bool) (out : Kvs) (ua : Option Addr) (uc : Nat), vs = [.slice u (List.length (en2 l)) d, .pointer (some ⟨b1, 0, none⟩), .slice none 0 0, .slice ua (List.length (en2 out)) uc, .bool put, .int .i64 (j : Int)] ∧ St g (Own 77 2 (en2 out) ua uc :: cel b1 #[.int .i64 k, .int .i64 z] 77 :: Sh 77 2 (en2 l) u d :: L) w ∧ (j ≤ l.length) ∧ (LP k z l j put out) ∧ (l.length - j) = kM) ((List.length l) - 0) ⟨0, false, [], none, 0, rfl, hS, (Nat.zero_le _), (LP.zero k z l), rfl⟩ ?_
  clear hS; rintro _ _ w j ⟨j, put, out, ua, uc, rfl, hS, hj, hP, rfl⟩
  refine WC.seq ?_
  refine WC.seq ?_
  refine WC.region ?_
  refine WL.r 4 rfl ?_
  refine WL.nil ?_
  as_aux_lemma =>
    refine WC.ifP rfl (fun cd1 => ?_) (fun cd1 => ?_)
    · refine WC.skip ?_
      refine WC.seq ?_
      refine WC.block ?_
      refine WC.seq ?_
      refine WC.seq ?_
      refine WC.plan [([0, 1, 2, 3, 4, 8, 5, 9, 6, 7, 10, 11], none)] (by kernel_rfl) (by kernel_rfl) ?_
      obtain ⟨e, he⟩ : ∃ e, l[j]? = some e := ⟨_, List.getElem?_eq_getElem (by omega)⟩; have hol := hP.len; have hoe := en2_len out
      refine WQ.r 2 rfl ?_
      refine WQ.r 1 rfl ?_
      by_cases cg1 : (! put) = true
      · refine WQ.reb 16 (.bool true) (congrArg Value.bool cg1) ?_
        refine WQ.ung rfl rfl rfl ?_
        refine WQ.r 1 rfl ?_
        refine WQ.ung rfl rfl rfl ?_
        refine WQ.r 1 rfl ?_
        refine WQ.ung rfl rfl rfl ?_
        refine WQ.r 1 rfl ?_
        refine WQ.ung rfl rfl rfl ?_
        refine WQ.ix rfl rfl (i := (j : Int)) (j) el_49 rfl rfl (by omega) (by omega) (hS.rdS 2 rfl (en2_at he)).1 ?_
        refine WQ.ung rfl rfl rfl ?_
        refine WQ.run 1 [.int .i64 k] rfl (by exact hS.ld 1 rfl rfl) ?_
        refine WQ.ung rfl rfl rfl ?_
        refine WQ.r 1 rfl ?_
        refine WQ.ung rfl rfl rfl ?_
        refine WQ.run 1 [.int .i64 e.1] rfl (by exact (hS.rdS 2 rfl (en2_at he)).2 0 _ rfl) ?_
        refine WQ.ung rfl rfl rfl ?_
        refine WQ.r 2 rfl ?_
        refine WQ.nil ?_
        intro m1
        replace hS := hS.drewN m1; generalize hwm1 : World.drewN _ _ = w at *; clear hwm1
        as_aux_lemma =>
          refine WC.ifP rfl (fun cd2 => ?_) (fun cd2 => ?_)
          · refine WC.seq ?_
            refine WC.region ?_
            refine WL.r 1 rfl ?_
            refine WL.ldF rfl rfl 1 hS rfl rfl ag_77 ?_
            refine WL.lit rfl rfl (en2 [(k, z)]) el_49 hS (by exact ⟨rfl, rfl⟩) (en2_ok _) rfl (by decide) (fun b2 w hS => ?_)
            refine WL.app rfl rfl 1 (en2 (out ++ [(k, z)])) el_49 hS rfl (hS.srcO 0 rfl) (en2_app _ _).symm (Rm.of (by first | omega | (simp <;> omega)) (by decide)) rfl rfl (fun a1 c1 w hS => ?_)
            replace hS : St g (Own 77 2 (en2 [(k, z)]) (some ⟨b2, 0, none⟩) (List.length (en2 [(k, z)])) :: Own 77 2 (en2 (out ++ [(k, z)])) a1 c1 :: cel b1 #[.int .i64 k, .int .i64 z] 77 :: Sh 77 2 (en2 l) u d :: L) w := hS
            refine WL.r 1 rfl ?_
            refine WL.nil ?_
            refine WC.region ?_
            refine WL.r 1 rfl ?_
            refine WL.nil ?_
            refine WC.seq ?_
            refine WC.plan [([0, 1, 5, 6], some (2, [5, 6])), ([3, 4, 7], none)] (by kernel_rfl) (by kernel_rfl) ?_
            refine WQ.run 4 [.int .i64 k] rfl (by exact hS.ld 2 rfl rfl) ?_
            refine WQ.nil ?_
            intro m2
            replace hS := hS.drewN m2; generalize hwm2 : World.drewN _ _ = w at *; clear hwm2
            refine WL.ix rfl rfl (i := (j : Int)) (j) el_49 rfl rfl (by omega) (by omega) (hS.rdS 3 rfl (en2_at he)).1 ?_
            refine WL.nil ?_
            refine ⟨by exact ⟨RQ.pure rfl rfl rfl rfl, RQ.load rfl rfl rfl rfl (hS.ld 2 rfl rfl)⟩, ?_⟩
            refine WQ.run 3 [.int .i64 e.1] rfl (by exact (hS.rdS 3 rfl (en2_at he)).2 0 _ rfl) ?_
            refine WQ.nil ?_
            intro m3
            replace hS := hS.drewN m3; generalize hwm3 : World.drewN _ _ = w at *; clear hwm3
            as_aux_lemma =>
              refine WC.ifP rfl (fun cd3 => ?_) (fun cd3 => ?_)
              · refine WC.region ?_
                refine WL.r 3 rfl ?_
                refine WL.ix rfl rfl (i := (j : Int)) (j) el_49 rfl rfl (by omega) (by omega) (hS.rdS 3 rfl (en2_at he)).1 ?_
                refine WL.ldC rfl rfl [.int .i64 e.1, .int .i64 e.2] ag_77 rfl (hS.rdS 3 rfl (en2_at he)).2 ?_
                refine WL.lit rfl rfl (en2 [(e.1, e.2)]) el_49 hS (by exact ⟨rfl, rfl⟩) (en2_ok _) rfl (by decide) (fun b3 w hS => ?_)
                refine WL.app rfl rfl 2 (en2 ((out ++ [(k, z)]) ++ [(e.1, e.2)])) el_49 hS rfl (hS.srcO 0 rfl) (en2_app _ _).symm (Rm.of (by first | omega | (simp <;> omega)) (by decide)) rfl rfl (fun a2 c2 w hS => ?_)
                replace hS : St g (Own 77 2 (en2 [(e.1, e.2)]) (some ⟨b3, 0, none⟩) (List.length (en2 [(e.1, e.2)])) :: Own 77 2 (en2 [(k, z)]) (some ⟨b2, 0, none⟩) (List.length (en2 [(k, z)])) :: Own 77 2 (en2 ((out ++ [(k, z)]) ++ [(e.1, e.2)])) a2 c2 :: cel b1 #[.int .i64 k, .int .i64 z] 77 :: Sh 77 2 (en2 l) u d :: L) w := hS
                refine WL.r 1 rfl ?_
                refine WL.nil ?_
                refine WC.region ?_
                refine WL.r 2 rfl ?_
                refine WL.nw 13 rfl (w64 (by omega)) ?_
                refine WL.r 1 rfl ?_
                refine WL.nil ?_
                exact ⟨_, by omega, j + 1, true, out ++ [(k, z)] ++ [(e.1, e.2)], a2, c2, rfl, (hS.sel 2 [] rfl), (by omega), (by have hp : put = false := (by simpa using cg1); subst hp; exact hP.more he (by omega)), rfl⟩
              · refine WC.skip ?_
                refine WC.region ?_
                refine WL.r 2 rfl ?_
                refine WL.nw 13 rfl (w64 (by omega)) ?_
                refine WL.r 1 rfl ?_
                refine WL.nil ?_
                exact ⟨_, by omega, j + 1, true, out ++ [(k, z)], a1, c1, rfl, (hS.sel 1 [] rfl), (by omega), (by have hp : put = false := (by simpa using cg1); subst hp; exact hP.eq_ he (by omega)), rfl⟩
          · refine WC.skip ?_
            refine WC.seq ?_
            refine WC.plan [([0, 1, 5, 6], some (2, [5, 6])), ([3, 4, 7], none)] (by kernel_rfl) (by kernel_rfl) ?_
            refine WQ.run 4 [.int .i64 k] rfl (by exact hS.ld 1 rfl rfl) ?_
            refine WQ.nil ?_
            intro m2
            replace hS := hS.drewN m2; generalize hwm2 : World.drewN _ _ = w at *; clear hwm2
            refine WL.ix rfl rfl (i := (j : Int)) (j) el_49 rfl rfl (by omega) (by omega) (hS.rdS 2 rfl (en2_at he)).1 ?_
            refine WL.nil ?_
            refine ⟨by exact ⟨RQ.pure rfl rfl rfl rfl, RQ.load rfl rfl rfl rfl (hS.ld 1 rfl rfl)⟩, ?_⟩
            refine WQ.run 3 [.int .i64 e.1] rfl (by exact (hS.rdS 2 rfl (en2_at he)).2 0 _ rfl) ?_
            refine WQ.nil ?_
            intro m3
            replace hS := hS.drewN m3; generalize hwm3 : World.drewN _ _ = w at *; clear hwm3
            refine WC.ifP rfl (fun cd3 => ?_) (fun cd3 => ?_)
            · refine WC.region ?_
              refine WL.r 3 rfl ?_
              refine WL.ix rfl rfl (i := (j : Int)) (j) el_49 rfl rfl (by omega) (by omega) (hS.rdS 2 rfl (en2_at he)).1 ?_
              refine WL.ldC rfl rfl [.int .i64 e.1, .int .i64 e.2] ag_77 rfl (hS.rdS 2 rfl (en2_at he)).2 ?_
              refine WL.lit rfl rfl (en2 [(e.1, e.2)]) el_49 hS (by exact ⟨rfl, rfl⟩) (en2_ok _) rfl (by decide) (fun b2 w hS => ?_)
              refine WL.app rfl rfl 1 (en2 (out ++ [(e.1, e.2)])) el_49 hS rfl (hS.srcO 0 rfl) (en2_app _ _).symm (Rm.of (by first | omega | (simp <;> omega)) (by decide)) rfl rfl (fun a1 c1 w hS => ?_)
              replace hS : St g (Own 77 2 (en2 [(e.1, e.2)]) (some ⟨b2, 0, none⟩) (List.length (en2 [(e.1, e.2)])) :: Own 77 2 (en2 (out ++ [(e.1, e.2)])) a1 c1 :: cel b1 #[.int .i64 k, .int .i64 z] 77 :: Sh 77 2 (en2 l) u d :: L) w := hS
              refine WL.r 1 rfl ?_
              refine WL.nil ?_
              as_aux_lemma =>
                refine WC.region ?_
                refine WL.r 2 rfl ?_
                refine WL.nw 13 rfl (w64 (by omega)) ?_
                refine WL.r 1 rfl ?_
                refine WL.nil ?_
                exact ⟨_, by omega, j + 1, put, out ++ [(e.1, e.2)], a1, c1, rfl, (hS.sel 1 [] rfl), (by omega), (by have hp : put = false := (by simpa using cg1); subst hp; exact hP.less he (by omega)), rfl⟩
            · refine WC.skip ?_
              refine WC.region ?_
              refine WL.r 2 rfl ?_
              refine WL.nw 13 rfl (w64 (by omega)) ?_
              refine WL.r 1 rfl ?_
              refine WL.nil ?_
              exact ⟨_, by omega, j + 1, put, out, ua, uc, rfl, hS, (by omega), (by exfalso; omega), rfl⟩
      · refine WQ.reb 16 (.bool false) (congrArg Value.bool (Bool.eq_false_iff.2 cg1)) ?_
        refine WQ.skp rfl rfl rfl rfl ?_
        refine WQ.skp rfl rfl rfl rfl ?_
        refine WQ.skp rfl rfl rfl rfl ?_
        refine WQ.skp rfl rfl rfl rfl ?_
        refine WQ.skp rfl rfl rfl rfl ?_
        refine WQ.skp rfl rfl rfl rfl ?_
        refine WQ.skp rfl rfl rfl rfl ?_
        refine WQ.skp rfl rfl rfl rfl ?_
        refine WQ.r 1 rfl ?_
        refine WQ.nil ?_
        intro m1
        replace hS := hS.drewN m1; generalize hwm1 : World.drewN _ _ = w at *; clear hwm1
        refine WC.ifF rfl rfl ?_
        refine WC.skip ?_
        as_aux_lemma =>
          refine WC.seq ?_
          refine WC.plan [([0, 1, 5, 6], some (2, [5, 6])), ([3, 4, 7], none)] (by kernel_rfl) (by kernel_rfl) ?_
          refine WQ.run 4 [.int .i64 k] rfl (by exact hS.ld 1 rfl rfl) ?_
          refine WQ.nil ?_
          intro m2
          replace hS := hS.drewN m2; generalize hwm2 : World.drewN _ _ = w at *; clear hwm2
          refine WL.ix rfl rfl (i := (j : Int)) (j) el_49 rfl rfl (by omega) (by omega) (hS.rdS 2 rfl (en2_at he)).1 ?_
          refine WL.nil ?_
          refine ⟨by exact ⟨RQ.pure rfl rfl rfl rfl, RQ.load rfl rfl rfl rfl (hS.ld 1 rfl rfl)⟩, ?_⟩
          refine WQ.run 3 [.int .i64 e.1] rfl (by exact (hS.rdS 2 rfl (en2_at he)).2 0 _ rfl) ?_
          refine WQ.nil ?_
          intro m3
          replace hS := hS.drewN m3; generalize hwm3 : World.drewN _ _ = w at *; clear hwm3
          refine WC.ifP rfl (fun cd2 => ?_) (fun cd2 => ?_)
          · refine WC.region ?_
            refine WL.r 3 rfl ?_
            refine WL.ix rfl rfl (i := (j : Int)) (j) el_49 rfl rfl (by omega) (by omega) (hS.rdS 2 rfl (en2_at he)).1 ?_
            refine WL.ldC rfl rfl [.int .i64 e.1, .int .i64 e.2] ag_77 rfl (hS.rdS 2 rfl (en2_at he)).2 ?_
            refine WL.lit rfl rfl (en2 [(e.1, e.2)]) el_49 hS (by exact ⟨rfl, rfl⟩) (en2_ok _) rfl (by decide) (fun b2 w hS => ?_)
            refine WL.app rfl rfl 1 (en2 (out ++ [(e.1, e.2)])) el_49 hS rfl (hS.srcO 0 rfl) (en2_app _ _).symm (Rm.of (by first | omega | (simp <;> omega)) (by decide)) rfl rfl (fun a1 c1 w hS => ?_)
            replace hS : St g (Own 77 2 (en2 [(e.1, e.2)]) (some ⟨b2, 0, none⟩) (List.length (en2 [(e.1, e.2)])) :: Own 77 2 (en2 (out ++ [(e.1, e.2)])) a1 c1 :: cel b1 #[.int .i64 k, .int .i64 z] 77 :: Sh 77 2 (en2 l) u d :: L) w := hS
            refine WL.r 1 rfl ?_
            refine WL.nil ?_
            refine WC.region ?_
            refine WL.r 2 rfl ?_
            refine WL.nw 13 rfl (w64 (by omega)) ?_
            refine WL.r 1 rfl ?_
            refine WL.nil ?_
            exact ⟨_, by omega, j + 1, put, out ++ [(e.1, e.2)], a1, c1, rfl, (hS.sel 1 [] rfl), (by omega), (by have hp : put = true := (by simpa using cg1); subst hp; exact hP.rest hs he), rfl⟩
          · refine WC.skip ?_
            refine WC.region ?_
            refine WL.r 2 rfl ?_
            refine WL.nw 13 rfl (w64 (by omega)) ?_
            refine WL.r 1 rfl ?_
            refine WL.nil ?_
            exact ⟨_, by omega, j + 1, put, out, ua, uc, rfl, hS, (by omega), (by have hp : put = true := (by simpa using cg1); subst hp; have := hP.gt hs he; exfalso; omega), rfl⟩
    · refine WC.exit ?_
      refine WC.seq ?_
      refine WC.seq ?_
      refine WC.region ?_
      have hol2 := hP.len; have hoe2 := en2_len out
      refine WL.r 2 rfl ?_
      refine WL.nil ?_
      refine WC.if_ rfl (fun cd2 => ?_) (fun cd2 => ?_)
      · refine WC.region ?_
        refine WL.r 1 rfl ?_
        refine WL.ldF rfl rfl 1 hS rfl rfl ag_77 ?_
        refine WL.lit rfl rfl (en2 [(k, z)]) el_49 hS (by exact ⟨rfl, rfl⟩) (en2_ok _) rfl (by decide) (fun b2 w hS => ?_)
        refine WL.app rfl rfl 1 (en2 (out ++ [(k, z)])) el_49 hS rfl (hS.srcO 0 rfl) (en2_app _ _).symm (Rm.of (by first | omega | (simp <;> omega)) (by decide)) rfl rfl (fun a1 c1 w hS => ?_)
        replace hS : St g (Own 77 2 (en2 [(k, z)]) (some ⟨b2, 0, none⟩) (List.length (en2 [(k, z)])) :: Own 77 2 (en2 (out ++ [(k, z)])) a1 c1 :: cel b1 #[.int .i64 k, .int .i64 z] 77 :: Sh 77 2 (en2 l) u d :: L) w := hS
        refine WL.r 1 rfl ?_
        refine WL.nil ?_
        refine WC.seq ?_
        refine WC.region ?_
        refine WL.r 2 rfl ?_
        refine WL.nil ?_
        refine WC.ret ?_
        refine ⟨[.slice a1 (List.length (en2 (out ++ [(k, z)]))) c1], rfl, ?_⟩
        replace hS := (hS.sel 3 [1] rfl)
        have hp : put = false := (by simpa using cd2); subst hp; have e9 := hP.end_f (by omega); rw [e9] at hS ⊢; exact ⟨_, _, rfl, hS⟩
      · refine WC.skip ?_
        refine WC.seq ?_
        refine WC.region ?_
        refine WL.r 2 rfl ?_
        refine WL.nil ?_
        refine WC.ret ?_
        refine ⟨[.slice ua (List.length (en2 out)) uc], rfl, ?_⟩
        replace hS := (hS.sel 2 [0] rfl)
        have hp : put = true := (by simpa using cd2); subst hp; have e9 := hP.end_t (by omega); rw [e9] at hS ⊢; exact ⟨_, _, rfl, hS⟩
end Go.Proofs.YtlnlnebibgdjdaaGreat
/-! ## Aga -/
namespace Go.V
open Go Go.RowKit Go.Maps Go.Sort
section
variable {g w w' : World} {L : List HP} {e size n : Nat} {v : Value} {xs : List Value}
theorem St.of_row (ls : List (List Value)) (h : St g L w) (hb : Below w.heap.size w w') (hr : w'.ownsRow w.heap.size e size v n xs) (hls : ls.flatten = xs) (hn : ls.length = n) (hok : OkE size ls) :
    ∃ a c, v = .slice a ls.length c ∧ St g (Own e size ls a c :: L) w' := by
  subst hn; subst hls
  have h0 : St g (pur True :: L) w := h.add fun _ _ => trivial
  obtain ⟨b1, b2, b3, b4, b5⟩ := hb
  obtain ⟨_, ⟨rfl, hn⟩ | ⟨q, cap, cur, rfl, hq, hcur, h1, h2, h3, h4⟩⟩ := hr
  · have hz : ls = [] := List.length_eq_zero_iff.1 hn
    subst hz
    refine ⟨none, 0, rfl, h0.upd b1 b2 b3 b4 fun o1 r _ _ _ _ => ⟨fun _ => none, ⟨OkE.nil _, .inl ⟨rfl, rfl, rfl⟩⟩, fun _ _ h => (by cases h), fun k hk => absurd rfl hk, fun k hk _ => b5 k hk⟩⟩
  · refine ⟨some ⟨q, 0, none⟩, cap, rfl, h0.upd b1 b2 b3 b4 fun o1 r _ _ _ _ => ⟨fun k => if k = q then some (.cells cur e (0, 0)) else none, ⟨hok, .inr ⟨q, cur, rfl, by simp, h1, h2, h3, h4⟩⟩, fun k x hx => ?_, fun k hk => ?_, fun k hk _ => b5 k hk⟩⟩
    · simp only at hx
      split at hx
      · rename_i hk; subst hk; simp only [Option.some.injEq] at hx; subst hx; exact hcur
      · cases hx
    · simp only [ne_eq, ite_eq_right_iff, reduceCtorEq, imp_false, Classical.not_not] at hk
      exact .inr (by omega)
end
section
variable {g w : World} {L : List HP} {e c : Nat} {ls : List Int} {b : Nat}
theorem i64s_flat (l : List Int) : (i64s l).flatten = l.map (Value.int .i64) := by
  induction l with
  | nil => rfl
  | cons x l ih => simp only [i64s, List.map_cons, List.flatten_cons, List.singleton_append] at ih ⊢; rw [ih]
end
theorem sort_eqI {ys ss : List Int} (hp : ss.Perm ys) (hs : ss.Pairwise (· ≤ ·)) : ys.mergeSort (fun x y => decide (x ≤ y)) = ss := by
  have h1 := mergeSort_of_perm_i hp
  show ys.mergeSort leI = _
  rw [← h1]
  exact List.mergeSort_of_pairwise (le := leI) (hs.imp fun h => decide_eq_true h)
end Go.V
namespace Go.V
open Go Go.RowKit Go.Maps
structure VN where
  n : Int
  live : Bool
  ab : List Int
  a : Option Addr
  c : Nat
  born : Nat
def VUq (xs : List VN) : Prop := xs.Pairwise fun x y => x.n ≠ y.n
theorem VUq.one {R : List VN} (h : VUq R) {i j : Nat} {x y : VN} (hi : R[i]? = some x) (hj : R[j]? = some y) (he : x.n = y.n) : i = j := by
  have h1 := (List.getElem?_eq_some_iff.1 hi).1
  have h2 := (List.getElem?_eq_some_iff.1 hj).1
  have e1 : R[i] = x := (List.getElem?_eq_some_iff.1 hi).2
  have e2 : R[j] = y := (List.getElem?_eq_some_iff.1 hj).2
  rcases Nat.lt_trichotomy i j with hl | hl | hl
  · exact absurd (by rw [e1, e2]; exact he) (List.pairwise_iff_getElem.1 h i j h1 h2 hl)
  · exact hl
  · exact absurd (by rw [e1, e2]; exact he.symm) (List.pairwise_iff_getElem.1 h j i h2 h1 hl)
def vfind (xs : List VN) (n : Int) : Option VN := xs.find? fun x => decide (x.n = n)
def liveG (xs : List VN) (n : Int) : Bool := ((vfind xs n).map (·.live)).getD false
def preG (xs : List VN) (n : Int) : Bool := (vfind xs n).isSome
def abG (xs : List VN) (n : Int) : List Int := ((vfind xs n).map (·.ab)).getD []
theorem vfind_in {xs : List VN} {k : Nat} {x : VN} (hx : xs[k]? = some x) (hu : VUq xs) : vfind xs x.n = some x := by
  cases hf : vfind xs x.n with
  | none =>
    have := List.find?_eq_none.1 hf x (List.mem_of_getElem? hx)
    exact absurd (decide_eq_true rfl) this
  | some y =>
    have hn : y.n = x.n := of_decide_eq_true (List.find?_some (p := fun q : VN => decide (q.n = x.n)) hf)
    obtain ⟨j, hj⟩ := List.mem_iff_getElem?.1 (List.mem_of_find?_eq_some hf)
    have := hu.one hj hx hn
    subst this
    rw [hj] at hx; exact hx
theorem vfind_out {xs : List VN} {n : Int} (h : ∀ x ∈ xs, x.n ≠ n) : vfind xs n = none := by
  refine List.find?_eq_none.2 fun x hx he => h x hx (of_decide_eq_true he)
theorem vfind_some {xs : List VN} {n : Int} {x : VN} (h : vfind xs n = some x) : x ∈ xs ∧ x.n = n := ⟨List.mem_of_find?_eq_some h, of_decide_eq_true (List.find?_some (p := fun q : VN => decide (q.n = n)) h)⟩
theorem vfind_none {xs : List VN} {n : Int} : vfind xs n = none ↔ ∀ x ∈ xs, x.n ≠ n := ⟨fun h x hx e => List.find?_eq_none.1 h x hx (decide_eq_true e), vfind_out⟩
theorem vfind_mem {xs : List VN} {x : VN} (hx : x ∈ xs) (hu : VUq xs) : vfind xs x.n = some x := by
  obtain ⟨k, hk⟩ := List.mem_iff_getElem?.1 hx
  exact vfind_in hk hu
theorem g_in {xs : List VN} {n : Int} {x : VN} (h : vfind xs n = some x) : liveG xs n = x.live ∧ preG xs n = true ∧ abG xs n = x.ab := by simp [liveG, preG, abG, h]
theorem g_out {xs : List VN} {n : Int} (h : vfind xs n = none) : liveG xs n = false ∧ preG xs n = false ∧ abG xs n = [] := by simp [liveG, preG, abG, h]
theorem live_pre {xs : List VN} {n : Int} (h : liveG xs n = true) : preG xs n = true := by
  unfold liveG at h; unfold preG
  cases hf : vfind xs n with
  | none => rw [hf] at h; cases h
  | some x => rfl
theorem pre_iff {xs : List VN} {n : Int} : preG xs n = true ↔ ∃ x ∈ xs, x.n = n := by
  unfold preG
  cases hf : vfind xs n with
  | none => exact ⟨fun h => (by cases h), fun ⟨x, hx, hn⟩ => absurd hn (vfind_none.1 hf x hx)⟩
  | some x => exact ⟨fun _ => ⟨x, vfind_some hf⟩, fun _ => rfl⟩
structure VOk (xs : List VN) (q : Nat) : Prop where
  uniq : VUq xs
  born : ∀ x ∈ xs, x.born < q
  bnd : (xs.map (·.born)).Nodup
  rng : ∀ x ∈ xs, 1 ≤ x.n ∧ x.n ≤ 1000000000
  num : xs.length ≤ 4096
section
variable {P : Program} {k : TypeId}
def noRdI (_ : Value) : Option (DataW Unit × List MemPlace) := some (.nil, [])
end
end Go.V
namespace Go.V
open Go Go.RowKit
def Asc (l : List Int) : Prop := l.Pairwise fun a b => a < b
def gcm (l m : List Int) : Int := ((l.filter fun z => decide (z ∈ m)).getLast?).getD 0
theorem Asc.nodup {l : List Int} (h : Asc l) : l.Nodup := h.imp fun h => by omega
theorem Asc.last {l : List Int} (h : Asc l) {u : Int} (hu : u ∈ l) (hm : ∀ z ∈ l, z ≤ u) : l.getLast? = some u := by
  induction l with
  | nil => cases hu
  | cons x t ih =>
    have hp := List.pairwise_cons.1 h
    cases t with
    | nil => simp at hu; subst hu; rfl
    | cons y t =>
      rw [List.getLast?_cons_cons]
      refine ih hp.2 ?_ fun z hz => hm z (List.mem_cons_of_mem _ hz)
      rcases List.mem_cons.1 hu with rfl | hu
      · have h1 := hp.1 y (List.mem_cons_self ..)
        have h2 := hm y (List.mem_cons_of_mem _ (List.mem_cons_self ..))
        omega
      · exact hu
theorem gcm_is {l m : List Int} (h : Asc l) {u : Int} (h1 : u ∈ l) (h2 : u ∈ m) (hm : ∀ z ∈ l, z ∈ m → z ≤ u) : gcm l m = u := by
  unfold gcm
  have h3 : Asc (l.filter fun z => decide (z ∈ m)) := h.sublist List.filter_sublist
  rw [h3.last (List.mem_filter.2 ⟨h1, decide_eq_true h2⟩) fun z hz => hm z (List.mem_filter.1 hz).1 (of_decide_eq_true (List.mem_filter.1 hz).2)]
  rfl
theorem gcm_no {l m : List Int} (h : ∀ z ∈ l, z ∉ m) : gcm l m = 0 := by
  unfold gcm
  rw [List.filter_eq_nil_iff.2 fun z hz hd => h z hz (of_decide_eq_true hd)]
  rfl
theorem Asc.max_ex {l : List Int} (h : Asc l) (hne : l ≠ []) : ∃ u ∈ l, ∀ z ∈ l, z ≤ u := by
  refine ⟨l.getLast hne, List.getLast_mem hne, fun z hz => ?_⟩
  induction l with
  | nil => exact absurd rfl hne
  | cons x t ih =>
    have hp := List.pairwise_cons.1 h
    cases t with
    | nil => simp at hz; subst hz; exact Int.le_refl _
    | cons y t =>
      rw [List.getLast_cons (by simp)]
      rcases List.mem_cons.1 hz with rfl | hz
      · have h1 := hp.1 _ (List.getLast_mem (l := y :: t) (by simp)); omega
      · exact ih hp.2 (by simp) hz
theorem gcm_cases {l m : List Int} (h : Asc l) : (gcm l m = 0 ∧ ∀ z ∈ l, z ∉ m) ∨ (gcm l m ∈ l ∧ gcm l m ∈ m ∧ ∀ z ∈ l, z ∈ m → z ≤ gcm l m) := by
  by_cases hne : (l.filter fun z => decide (z ∈ m)) = []
  · have h1 : ∀ z ∈ l, z ∉ m := fun z hz hzm => List.filter_eq_nil_iff.1 hne z hz (decide_eq_true hzm)
    exact .inl ⟨gcm_no h1, h1⟩
  · obtain ⟨u, hu, hm⟩ := (show Asc _ from h.sublist List.filter_sublist).max_ex hne
    have h1 := (List.mem_filter.1 hu).1
    have h2 : u ∈ m := of_decide_eq_true (List.mem_filter.1 hu).2
    have h3 : ∀ z ∈ l, z ∈ m → z ≤ u := fun z hz hzm => hm z (List.mem_filter.2 ⟨hz, decide_eq_true hzm⟩)
    rw [gcm_is h h1 h2 h3]
    exact .inr ⟨h1, h2, h3⟩
def baseG (xs : List VN) (x y : Int) : Int := if liveG xs x = true ∧ liveG xs y = true then gcm (abG xs x) (abG xs y) else 0
structure GOk (xs : List VN) (q : Nat) : Prop extends VOk xs q where
  asc : ∀ x ∈ xs, Asc x.ab
  self : ∀ x ∈ xs, x.n ∈ x.ab
  le : ∀ x ∈ xs, ∀ z ∈ x.ab, z ≤ x.n
  pre : ∀ x ∈ xs, ∀ z ∈ x.ab, preG xs z = true
  tr : ∀ x ∈ xs, ∀ z ∈ x.ab, ∀ u ∈ abG xs z, u ∈ x.ab
theorem nd_le : ∀ {l m : List Int}, l.Nodup → (∀ z ∈ l, z ∈ m) → l.length ≤ m.length
  | [], _, _, _ => Nat.zero_le _
  | x :: t, m, h, hs => by
    have hp := List.nodup_cons.1 h
    have h1 := List.perm_cons_erase (hs x (List.mem_cons_self ..))
    have h2 : t.length ≤ (m.erase x).length := nd_le hp.2 fun z hz => by
      have h3 := h1.mem_iff.1 (hs z (List.mem_cons_of_mem _ hz))
      rcases List.mem_cons.1 h3 with rfl | h3
      · exact absurd hz hp.1
      · exact h3
    have h4 := h1.length_eq
    simp only [List.length_cons] at h4 ⊢
    omega
theorem GOk.len {xs : List VN} {q : Nat} (h : GOk xs q) {x : VN} (hx : x ∈ xs) : x.ab.length ≤ xs.length := by
  have h1 : x.ab.length ≤ (xs.map VN.n).length := by
    refine nd_le (h.asc x hx).nodup fun z hz => ?_
    obtain ⟨y, hy, hn⟩ := pre_iff.1 (h.pre x hx z hz)
    exact List.mem_map.2 ⟨y, hy, hn⟩
  simpa using h1
theorem GOk.nil : GOk [] 0 := ⟨⟨List.Pairwise.nil, fun _ h => (by cases h), List.nodup_nil, fun _ h => (by cases h), by simp⟩, fun _ h => (by cases h), fun _ h => (by cases h), fun _ h => (by cases h), fun _ h => (by cases h), fun _ h => (by cases h)⟩
end Go.V
namespace Go.V
open Go Go.RowKit
theorem St.shsSub {α : Type} {f : α → List HP} {zs zs' : List α} {g w : World} {L : List HP} (h : St g (Shs f zs :: L) w) (hs : ∀ z ∈ zs', z ∈ zs) : St g (Shs f zs' :: L) w := h.impl fun _ _ hh z hz => hh z (hs z hz)
def newAb (xs : List VN) (n : Int) (ps : List Int) : List Int := [n] ++ ps.flatMap (abG xs)
theorem vfind_app {xs : List VN} {v : VN} (hn : ∀ x ∈ xs, x.n ≠ v.n) (n : Int) : vfind (xs ++ [v]) n = if n = v.n then some v else vfind xs n := by
  unfold vfind
  rw [List.find?_append]
  by_cases h : n = v.n
  · subst h
    rw [if_pos rfl, show xs.find? (fun x => decide (x.n = v.n)) = none from vfind_out hn]
    simp
  · rw [if_neg h]
    cases hf : xs.find? (fun x => decide (x.n = n)) with
    | some x => rfl
    | none =>
      simp only [Option.none_or, List.find?_cons, List.find?_nil]
      rw [decide_eq_false (fun e => h e.symm)]
theorem GOk.add {xs : List VN} {q : Nat} (h : GOk xs q) {v : VN} {ps : List Int} (hn : ∀ x ∈ xs, x.n < v.n) (hr : 1 ≤ v.n ∧ v.n ≤ 1000000000) (hb : v.born = q) (hl : xs.length < 4096)
    (ha : Asc v.ab) (hm : ∀ z, z ∈ v.ab ↔ z ∈ newAb xs v.n ps) : GOk (xs ++ [v]) (q + 1) := by
  have hne : ∀ x ∈ xs, x.n ≠ v.n := fun x hx e => by have := hn x hx; omega
  have hf := vfind_app hne
  have hold : ∀ z ∈ ps.flatMap (abG xs), ∃ x ∈ xs, z ∈ x.ab := fun z hz => by
    obtain ⟨p, _, hz⟩ := List.mem_flatMap.1 hz
    cases hp : vfind xs p with
    | none => rw [(g_out hp).2.2] at hz; cases hz
    | some x => rw [(g_in hp).2.2] at hz; exact ⟨x, (vfind_some hp).1, hz⟩
  have hm2 : ∀ z, z ∈ v.ab ↔ z = v.n ∨ z ∈ ps.flatMap (abG xs) := fun z => by rw [hm]; simp [newAb]
  have hpre : ∀ z, preG xs z = true → preG (xs ++ [v]) z = true := fun z hz => by
    obtain ⟨x, hx, e⟩ := pre_iff.1 hz
    exact pre_iff.2 ⟨x, List.mem_append_left _ hx, e⟩
  have hlt : ∀ z, preG xs z = true → z < v.n := fun z hz => by
    obtain ⟨x, hx, e⟩ := pre_iff.1 hz
    have := hn x hx; omega
  have hab : ∀ z, z ≠ v.n → abG (xs ++ [v]) z = abG xs z := fun z hz => by unfold abG; rw [hf, if_neg hz]
  refine ⟨⟨?_, fun x hx => ?_, ?_, fun x hx => ?_, by simp; omega⟩, fun x hx => ?_, fun x hx => ?_, fun x hx z hz => ?_, fun x hx z hz => ?_, fun x hx z hz u hu => ?_⟩
  · refine List.pairwise_append.2 ⟨h.uniq, List.pairwise_singleton _ _, fun a hax b hbx => ?_⟩
    simp only [List.mem_singleton] at hbx; subst hbx; exact hne a hax
  · rcases List.mem_append.1 hx with hx | hx
    · have := h.born x hx; omega
    · simp only [List.mem_singleton] at hx; subst hx; omega
  · rw [List.map_append, List.nodup_append]
    refine ⟨h.bnd, by simp, fun a ha b hb2 => ?_⟩
    obtain ⟨x, hx, rfl⟩ := List.mem_map.1 ha
    simp only [List.map_cons, List.map_nil, List.mem_singleton] at hb2
    have := h.born x hx; omega
  · rcases List.mem_append.1 hx with hx | hx
    · exact h.rng x hx
    · simp only [List.mem_singleton] at hx; subst hx; exact hr
  · rcases List.mem_append.1 hx with hx | hx
    · exact h.asc x hx
    · simp only [List.mem_singleton] at hx; subst hx; exact ha
  · rcases List.mem_append.1 hx with hx | hx
    · exact h.self x hx
    · simp only [List.mem_singleton] at hx; subst hx; exact (hm2 _).2 (.inl rfl)
  · rcases List.mem_append.1 hx with hx | hx
    · exact h.le x hx z hz
    · simp only [List.mem_singleton] at hx; subst hx
      rcases (hm2 z).1 hz with rfl | hz
      · exact Int.le_refl _
      · obtain ⟨y, hy, hzy⟩ := hold z hz
        have := h.le y hy z hzy
        have := hn y hy
        omega
  · rcases List.mem_append.1 hx with hx | hx
    · exact hpre z (h.pre x hx z hz)
    · simp only [List.mem_singleton] at hx; subst hx
      rcases (hm2 z).1 hz with rfl | hz
      · exact pre_iff.2 ⟨x, List.mem_append_right _ (List.mem_singleton.2 rfl), rfl⟩
      · obtain ⟨y, hy, hzy⟩ := hold z hz
        exact hpre z (h.pre y hy z hzy)
  · rcases List.mem_append.1 hx with hx | hx
    · have h1 := hlt z (h.pre x hx z hz)
      rw [hab z (by omega)] at hu
      exact h.tr x hx z hz u hu
    · simp only [List.mem_singleton] at hx; subst hx
      rcases (hm2 z).1 hz with rfl | hz
      · unfold abG at hu; rw [hf, if_pos rfl] at hu; exact hu
      · obtain ⟨p, hp, hzp⟩ := List.mem_flatMap.1 hz
        cases hfp : vfind xs p with
        | none => rw [(g_out hfp).2.2] at hzp; cases hzp
        | some y =>
          rw [(g_in hfp).2.2] at hzp
          have hy := (vfind_some hfp).1
          have h1 := hlt z (h.pre y hy z hzp)
          rw [hab z (by omega)] at hu
          refine (hm2 u).2 (.inr (List.mem_flatMap.2 ⟨p, hp, ?_⟩))
          rw [(g_in hfp).2.2]
          exact h.tr y hy z hzp u hu
end Go.V
namespace Go.V
open Go Go.RowKit
def vw (xs : List VN) (z : Int) : Option (Bool × List Int) := (vfind xs z).map fun x => (x.live, x.ab)
theorem live_vw (xs : List VN) (z : Int) : liveG xs z = ((vw xs z).map (·.1)).getD false := by
  unfold liveG vw; cases vfind xs z <;> rfl
theorem pre_vw (xs : List VN) (z : Int) : preG xs z = (vw xs z).isSome := by
  unfold preG vw; cases vfind xs z <;> rfl
theorem ab_vw (xs : List VN) (z : Int) : abG xs z = ((vw xs z).map (·.2)).getD [] := by
  unfold abG vw; cases vfind xs z <;> rfl
theorem VUq.set {xs : List VN} {j : Nat} {u u' : VN} (hu : VUq xs) (hj : xs[j]? = some u) (hn : u'.n = u.n) : VUq (xs.set j u') := by
  unfold VUq at hu ⊢
  rw [← List.pairwise_map (f := VN.n) (R := fun a b => a ≠ b)] at hu ⊢
  have hl := (List.getElem?_eq_some_iff.1 hj).1
  have he := (List.getElem?_eq_some_iff.1 hj).2
  have : (xs.set j u').map VN.n = xs.map VN.n := by
    rw [List.map_set, hn]
    have h5 : (xs.map VN.n)[j]'(by simpa using hl) = u.n := by simp [he]
    rw [← h5]; exact List.set_getElem_self _
  rw [this]; exact hu
theorem VOk.rem {xs : List VN} {q : Nat} (h : VOk xs q) (j : Nat) : VOk (xs.eraseIdx j) q := by
  have hs := List.eraseIdx_sublist xs j
  exact ⟨h.uniq.sublist hs, fun x hx => h.born x (hs.subset hx), h.bnd.sublist (hs.map _), fun x hx => h.rng x (hs.subset hx), Nat.le_trans hs.length_le h.num⟩
theorem VOk.set {xs : List VN} {q j : Nat} {u u' : VN} (h : VOk xs q) (hj : xs[j]? = some u) (hn : u'.n = u.n) (hb : u'.born = u.born) : VOk (xs.set j u') q := by
  have hm := List.mem_of_getElem? hj
  have hl := (List.getElem?_eq_some_iff.1 hj).1
  have he := (List.getElem?_eq_some_iff.1 hj).2
  have hmem : ∀ x ∈ xs.set j u', x = u' ∨ x ∈ xs := fun x hx => (List.mem_or_eq_of_mem_set hx).symm
  refine ⟨h.uniq.set hj hn, fun x hx => ?_, ?_, fun x hx => ?_, by rw [List.length_set]; exact h.num⟩
  · rcases hmem x hx with rfl | hx
    · rw [hb]; exact h.born u hm
    · exact h.born x hx
  · have : (xs.set j u').map VN.born = xs.map VN.born := by
      rw [List.map_set, hb]
      have h5 : (xs.map VN.born)[j]'(by simpa using hl) = u.born := by simp [he]
      rw [← h5]; exact List.set_getElem_self _
    rw [this]; exact h.bnd
  · rcases hmem x hx with rfl | hx
    · rw [hn]; exact h.rng u hm
    · exact h.rng x hx
end Go.V
namespace Go.V
open Go Go.RowKit
def needG (xs : List VN) (z : Int) : Prop := liveG xs z = true ∨ (0 < z ∧ ∃ x y, liveG xs x = true ∧ liveG xs y = true ∧ x < y ∧ baseG xs x y = z)
structure Keys (xs : List VN) (ss : List Int) : Prop where
  perm : ss.Perm (xs.map VN.n)
  asc : Asc ss
theorem Keys.le {xs : List VN} {ss : List Int} (h : Keys xs ss) : ss.Pairwise (· ≤ ·) := h.asc.imp fun h => by omega
theorem Keys.mem {xs : List VN} {ss : List Int} (h : Keys xs ss) (z : Int) : z ∈ ss ↔ preG xs z = true := by
  rw [h.perm.mem_iff, pre_iff, List.mem_map]
end Go.V
namespace Go.V
open Go Go.RowKit
structure GF (f : Int → Option (Bool × List Int)) : Prop where
  asc : ∀ z l a, f z = some (l, a) → Asc a
  self : ∀ z l a, f z = some (l, a) → z ∈ a
  le : ∀ z l a, f z = some (l, a) → ∀ u ∈ a, u ≤ z
  pre : ∀ z l a, f z = some (l, a) → ∀ u ∈ a, (f u).isSome = true
  tr : ∀ z l a, f z = some (l, a) → ∀ u ∈ a, ∀ l' a', f u = some (l', a') → ∀ t ∈ a', t ∈ a
theorem vw_some {xs : List VN} {z : Int} {l : Bool} {a : List Int} (h : vw xs z = some (l, a)) : ∃ x, vfind xs z = some x ∧ x.live = l ∧ x.ab = a := by
  unfold vw at h
  cases hf : vfind xs z with
  | none => rw [hf] at h; cases h
  | some x => rw [hf] at h; simp at h; exact ⟨x, rfl, h.1, h.2⟩
theorem vw_mem {xs : List VN} (hu : VUq xs) {x : VN} (hx : x ∈ xs) : vw xs x.n = some (x.live, x.ab) := by unfold vw; rw [vfind_mem hx hu]; rfl
theorem GOk.gf {xs : List VN} {q : Nat} (h : GOk xs q) : GF (vw xs) := by
  refine ⟨fun z l a hz => ?_, fun z l a hz => ?_, fun z l a hz => ?_, fun z l a hz u hu => ?_, fun z l a hz u hu l' a' hu' t ht => ?_⟩
  all_goals obtain ⟨x, hx, rfl, rfl⟩ := vw_some hz
  all_goals obtain ⟨h1, h2⟩ := vfind_some hx
  · exact h.asc x h1
  · subst h2; exact h.self x h1
  · subst h2; exact h.le x h1
  · rw [← pre_vw]; exact h.pre x h1 u hu
  · refine h.tr x h1 u hu t ?_
    rw [ab_vw, hu']; exact ht
def keep (N : Int → Bool) (f : Int → Option (Bool × List Int)) (z : Int) : Option (Bool × List Int) := if N z = true then (f z).map fun p => (p.1, p.2.filter N) else none
theorem keep_some {N : Int → Bool} {f : Int → Option (Bool × List Int)} {z : Int} {l : Bool} {a : List Int} (h : keep N f z = some (l, a)) : N z = true ∧ ∃ a0, f z = some (l, a0) ∧ a = a0.filter N := by
  unfold keep at h
  split at h
  · rename_i hN
    cases hf : f z with
    | none => rw [hf] at h; cases h
    | some p => rw [hf] at h; simp at h; exact ⟨hN, p.2, by rw [← h.1], h.2.symm⟩
  · cases h
theorem GF.keep {f : Int → Option (Bool × List Int)} (h : GF f) (N : Int → Bool) : GF (keep N f) := by
  refine ⟨fun z l a hz => ?_, fun z l a hz => ?_, fun z l a hz => ?_, fun z l a hz u hu => ?_, fun z l a hz u hu l' a' hu' t ht => ?_⟩
  all_goals obtain ⟨hN, a0, h0, rfl⟩ := keep_some hz
  · exact (h.asc z l a0 h0).sublist List.filter_sublist
  · exact List.mem_filter.2 ⟨h.self z l a0 h0, hN⟩
  · exact fun u hu => h.le z l a0 h0 u (List.mem_filter.1 hu).1
  · obtain ⟨h1, h2⟩ := List.mem_filter.1 hu
    have h3 := h.pre z l a0 h0 u h1
    unfold Go.V.keep
    rw [if_pos h2]
    cases hf : f u with
    | none => rw [hf] at h3; cases h3
    | some p => rfl
  · obtain ⟨_, a1, h1, rfl⟩ := keep_some hu'
    obtain ⟨h2, h3⟩ := List.mem_filter.1 ht
    exact List.mem_filter.2 ⟨h.tr z l a0 h0 u (List.mem_filter.1 hu).1 l' a1 h1 t h2, h3⟩
def dead (f : Int → Option (Bool × List Int)) (n : Int) (z : Int) : Option (Bool × List Int) := if z = n then (f z).map fun p => (false, p.2) else f z
theorem dead_some {f : Int → Option (Bool × List Int)} {n z : Int} {l : Bool} {a : List Int} (h : dead f n z = some (l, a)) : ∃ l0, f z = some (l0, a) := by
  unfold dead at h
  split at h
  · cases hf : f z with
    | none => rw [hf] at h; cases h
    | some p => rw [hf] at h; simp at h; exact ⟨p.1, by rw [← h.2]⟩
  · exact ⟨l, h⟩
theorem dead_iss (f : Int → Option (Bool × List Int)) (n z : Int) : (dead f n z).isSome = (f z).isSome := by
  unfold dead; split
  · cases f z <;> rfl
  · rfl
theorem GF.dead {f : Int → Option (Bool × List Int)} (h : GF f) (n : Int) : GF (dead f n) := by
  refine ⟨fun z l a hz => ?_, fun z l a hz => ?_, fun z l a hz => ?_, fun z l a hz u hu => ?_, fun z l a hz u hu l' a' hu' t ht => ?_⟩
  all_goals obtain ⟨l0, h0⟩ := dead_some hz
  · exact h.asc z l0 a h0
  · exact h.self z l0 a h0
  · exact h.le z l0 a h0
  · rw [dead_iss]; exact h.pre z l0 a h0 u hu
  · obtain ⟨l1, h1⟩ := dead_some hu'
    exact h.tr z l0 a h0 u hu l1 a' h1 t ht
def RelP (xs : List VN) (n : Int) (xs2 : List VN) : Prop := ∃ (xs1 : List VN) (N : Int → Bool), (∀ z, vw xs1 z = dead (vw xs) n z) ∧ (∀ z, N z = true ↔ needG xs1 z) ∧ ∀ z, vw xs2 z = keep N (vw xs1) z
end Go.V
namespace Go.V
open Go Go.RowKit
def okPs (ps : List Int) : Prop := ps.length ≤ 2 ∧ ∀ x y, ps = [x, y] → x ≠ y
instance (ps : List Int) : Decidable (okPs ps) := match ps with
  | [] => isTrue ⟨by simp, fun _ _ h => by cases h⟩
  | [_] => isTrue ⟨by simp, fun _ _ h => by cases h⟩
  | [x, y] => if h : x = y then isFalse (fun k => k.2 x y rfl h) else isTrue ⟨by simp, fun _ _ e => by cases e; exact h⟩
  | _ :: _ :: _ :: _ => isFalse (fun k => by have := k.1; simp at this)
structure GI (xs : List VN) (q : Nat) (cap last : Int) : Prop where
  ok : GOk xs q
  le : ∀ x ∈ xs, x.n ≤ last
  la : 0 ≤ last
  cp : 1 ≤ cap ∧ cap ≤ 4096
def addE (xs : List VN) (cap : Int) (ps : List Int) : Int :=
  if ¬ okPs ps then 1 else if ¬ (∀ z ∈ ps, liveG xs z = true) then 4 else if cap ≤ xs.length then 2 else 0
def AddP (xs : List VN) (cap last : Int) (ps : List Int) (xs2 : List VN) (last2 : Int) : Prop :=
  (addE xs cap ps ≠ 0 ∧ xs2 = xs ∧ last2 = last) ∨ (addE xs cap ps = 0 ∧ last2 = last + 1 ∧ ∃ vn : VN, xs2 = xs ++ [vn] ∧ vn.n = last + 1 ∧ vn.live = true ∧ Asc vn.ab ∧ ∀ z, z ∈ vn.ab ↔ z ∈ newAb xs (last + 1) ps)
def relE (xs : List VN) (n : Int) : Int := if liveG xs n = true then 0 else 4
def RelQ (xs : List VN) (n : Int) (xs2 : List VN) : Prop := (liveG xs n = true ∧ RelP xs n xs2) ∨ (liveG xs n = false ∧ xs2 = xs)
theorem vw_app {xs : List VN} {v : VN} (hn : ∀ x ∈ xs, x.n ≠ v.n) (z : Int) : vw (xs ++ [v]) z = if z = v.n then some (v.live, v.ab) else vw xs z := by
  unfold vw
  rw [vfind_app hn]
  split <;> rfl
theorem RelP.le {xs xs2 : List VN} {n last : Int} (hu : VUq xs2) (h : RelP xs n xs2) (hl : ∀ x ∈ xs, x.n ≤ last) : ∀ x ∈ xs2, x.n ≤ last := fun x hx => by
  obtain ⟨xs1, N, h1, _, h3⟩ := h
  have h4 := vw_mem hu hx
  rw [h3] at h4
  obtain ⟨_, a0, h5, _⟩ := keep_some h4
  rw [h1] at h5
  obtain ⟨l0, h6⟩ := dead_some h5
  obtain ⟨y, hy, _, _⟩ := vw_some h6
  obtain ⟨h7, h8⟩ := vfind_some hy
  rw [← h8]; exact hl y h7
theorem AddP.vw {xs xs2 : List VN} {cap last last2 : Int} {ps : List Int} (h : AddP xs cap last ps xs2 last2) (hl : ∀ x ∈ xs, x.n ≤ last) (h0 : addE xs cap ps = 0) : last2 = last + 1 ∧ xs2.length = xs.length + 1 ∧ ∃ ab, Asc ab ∧ (∀ z, z ∈ ab ↔ z ∈ newAb xs (last + 1) ps) ∧ ∀ z, Go.V.vw xs2 z = if z = last + 1 then some (true, ab) else Go.V.vw xs z := by
  rcases h with ⟨h, _⟩ | ⟨_, h2, v, rfl, h4, h5, h6, h7⟩
  · exact absurd h0 h
  · refine ⟨h2, by simp, v.ab, h6, h7, fun z => ?_⟩
    rw [vw_app (fun x hx e => by have := hl x hx; omega), h4, h5]
theorem AddP.bnd {xs xs2 : List VN} {cap last last2 : Int} {ps : List Int} (h : AddP xs cap last ps xs2 last2) : last ≤ last2 ∧ last2 ≤ last + 1 := by
  rcases h with ⟨_, _, h⟩ | ⟨_, h, _⟩ <;> omega
end Go.V
namespace Go.V
open Go Go.RowKit
def KO (xs : List VN) : Prop := ∀ z, preG xs z = true → needG xs z
theorem KO.nil : KO [] := fun z h => by cases h
theorem baseG_pos {xs : List VN} {x y : Int} (hx : liveG xs x = true) (hy : liveG xs y = true) : baseG xs x y = gcm (abG xs x) (abG xs y) := by rw [baseG, if_pos ⟨hx, hy⟩]
theorem KO.add {xs xs2 : List VN} {cap last last2 : Int} {ps : List Int} (h : KO xs) (hl : ∀ x ∈ xs, x.n ≤ last) (ha : AddP xs cap last ps xs2 last2) : KO xs2 := by
  by_cases h0 : addE xs cap ps = 0
  · obtain ⟨_, _, ab, _, _, hv⟩ := ha.vw hl h0
    have hlt : ∀ z, preG xs z = true → z ≤ last := fun z hz => by
      obtain ⟨x, hx, e⟩ := pre_iff.1 hz
      rw [← e]; exact hl x hx
    have hlv : ∀ z, z ≠ last + 1 → liveG xs2 z = liveG xs z ∧ abG xs2 z = abG xs z := fun z hz => by rw [live_vw, live_vw, ab_vw, ab_vw, hv, if_neg hz]; exact ⟨rfl, rfl⟩
    intro z hz
    by_cases hn : z = last + 1
    · subst hn; exact .inl (by rw [live_vw, hv, if_pos rfl]; rfl)
    · have hz1 : preG xs z = true := by rw [pre_vw, hv, if_neg hn, ← pre_vw] at hz; exact hz
      rcases h z hz1 with h1 | ⟨h1, x, y, hx, hy, hxy, he⟩
      · exact .inl (by rw [(hlv z hn).1]; exact h1)
      · have nx : x ≠ last + 1 := by have := hlt x (live_pre hx); omega
        have ny : y ≠ last + 1 := by have := hlt y (live_pre hy); omega
        have lx : liveG xs2 x = true := by rw [(hlv x nx).1]; exact hx
        have ly : liveG xs2 y = true := by rw [(hlv y ny).1]; exact hy
        refine .inr ⟨h1, x, y, lx, ly, hxy, ?_⟩
        rw [baseG_pos lx ly, (hlv x nx).2, (hlv y ny).2, ← baseG_pos hx hy]; exact he
  · rcases ha with ⟨_, rfl, _⟩ | ⟨h2, _⟩
    · exact h
    · exact absurd h2 h0
theorem keep_base {xs1 xs2 : List VN} {N : Int → Bool} (hG : GF (vw xs1)) (hpos : ∀ z, (vw xs1 z).isSome = true → 1 ≤ z) (hN : ∀ z, N z = true ↔ needG xs1 z) (hv : ∀ z, vw xs2 z = keep N (vw xs1) z) :
    (∀ z, liveG xs2 z = liveG xs1 z) ∧ (∀ z, N z = true → abG xs2 z = (abG xs1 z).filter N) ∧ ∀ x y, x < y → liveG xs1 x = true → liveG xs1 y = true → baseG xs2 x y = baseG xs1 x y := by
  have hlv : ∀ z, liveG xs2 z = liveG xs1 z := fun z => by
    cases hN1 : N z with
    | true => rw [live_vw, live_vw, hv, keep, if_pos hN1]; cases vw xs1 z <;> rfl
    | false =>
      have h1 : liveG xs1 z = false := by
        cases hl : liveG xs1 z with
        | false => rfl
        | true => rw [(hN z).2 (.inl hl)] at hN1; cases hN1
      rw [h1, live_vw, hv, keep, if_neg (by rw [hN1]; decide)]; rfl
  have hab : ∀ z, N z = true → abG xs2 z = (abG xs1 z).filter N := fun z h => by
    rw [ab_vw, ab_vw, hv, keep, if_pos h]
    cases vw xs1 z <;> rfl
  refine ⟨hlv, hab, fun x y hxy hx hy => ?_⟩
  have nx := (hN x).2 (.inl hx)
  have ny := (hN y).2 (.inl hy)
  have ax : Asc (abG xs1 x) := by
    rw [ab_vw]
    cases hf : vw xs1 x with
    | none => exact List.Pairwise.nil
    | some p => exact hG.asc x p.1 p.2 hf
  rw [baseG_pos (by rw [hlv]; exact hx) (by rw [hlv]; exact hy), baseG_pos hx hy, hab x nx, hab y ny]
  rcases gcm_cases (l := abG xs1 x) (m := abG xs1 y) ax with ⟨h1, h2⟩ | ⟨h1, h2, h3⟩
  · rw [h1]
    exact gcm_no fun z hz hz2 => h2 z (List.mem_filter.1 hz).1 (List.mem_filter.1 hz2).1
  · have hp : 0 < gcm (abG xs1 x) (abG xs1 y) ∨ ¬ 0 < gcm (abG xs1 x) (abG xs1 y) := by omega
    have hNb : N (gcm (abG xs1 x) (abG xs1 y)) = true ∨ gcm (abG xs1 x) (abG xs1 y) ≤ 0 := by
      rcases hp with hp | hp
      · exact .inl ((hN _).2 (.inr ⟨hp, x, y, hx, hy, hxy, by rw [baseG_pos hx hy]⟩))
      · exact .inr (by omega)
    rcases hNb with hNb | hNb
    · exact gcm_is (ax.sublist List.filter_sublist) (List.mem_filter.2 ⟨h1, hNb⟩) (List.mem_filter.2 ⟨h2, hNb⟩) fun z hz hz2 => h3 z (List.mem_filter.1 hz).1 (List.mem_filter.1 hz2).1
    · exfalso
      generalize gcm (abG xs1 x) (abG xs1 y) = b at *
      rw [ab_vw] at h1
      cases hf : vw xs1 x with
      | none => rw [hf] at h1; cases h1
      | some p =>
        rw [hf] at h1
        have h5 := hpos _ (hG.pre x p.1 p.2 hf _ h1)
        omega
theorem GOk.pos {xs : List VN} {q : Nat} (h : GOk xs q) (z : Int) (hz : (vw xs z).isSome = true) : 1 ≤ z := by
  rw [← pre_vw] at hz
  obtain ⟨x, hx, e⟩ := pre_iff.1 hz
  rw [← e]; exact (h.rng x hx).1
theorem RelP.facts {xs xs2 : List VN} {q : Nat} {n : Int} (hG : GOk xs q) (h : RelP xs n xs2) : (∀ z, liveG xs2 z = (liveG xs z && decide (z ≠ n))) ∧ (∀ z, preG xs2 z = true → preG xs z = true) ∧ KO xs2 := by
  obtain ⟨xs1, N, h1, h2, h3⟩ := h
  have hG1 : GF (vw xs1) := by rw [show vw xs1 = dead (vw xs) n from funext h1]; exact hG.gf.dead n
  have hpos : ∀ z, (vw xs1 z).isSome = true → 1 ≤ z := fun z hz => by rw [h1, dead_iss] at hz; exact hG.pos z hz
  obtain ⟨k1, k2, k3⟩ := keep_base hG1 hpos h2 h3
  have hlive : ∀ z, liveG xs1 z = (liveG xs z && decide (z ≠ n)) := fun z => by
    rw [live_vw, live_vw, h1, dead]
    by_cases hz : z = n
    · rw [if_pos hz, decide_eq_false (fun h => h hz), Bool.and_false]
      cases vw xs z <;> rfl
    · rw [if_neg hz, decide_eq_true hz, Bool.and_true]
  refine ⟨fun z => by rw [k1, hlive], fun z hz => ?_, fun z hz => ?_⟩
  · rw [pre_vw, h3] at hz
    rw [pre_vw]
    unfold keep at hz
    split at hz
    · cases hf : vw xs1 z with
      | none => rw [hf] at hz; cases hz
      | some p =>
        rw [← dead_iss (vw xs) n, ← h1, hf]; rfl
    · cases hz
  · rw [pre_vw, h3] at hz
    unfold keep at hz
    split at hz
    · rename_i hN
      rcases (h2 z).1 hN with h | ⟨h, x, y, hx, hy, hxy, he⟩
      · exact .inl (by rw [k1]; exact h)
      · exact .inr ⟨h, x, y, by rw [k1]; exact hx, by rw [k1]; exact hy, hxy, by rw [k3 x y hxy hx hy]; exact he⟩
    · cases hz
theorem KO.rel {xs xs2 : List VN} {q : Nat} {n : Int} (h : KO xs) (hG : GOk xs q) (hR : RelQ xs n xs2) : KO xs2 := by
  rcases hR with ⟨_, hR⟩ | ⟨_, rfl⟩
  · exact (hR.facts hG).2.2
  · exact h
theorem AddP.facts {xs xs2 : List VN} {cap last last2 : Int} {ps : List Int} (hl : ∀ x ∈ xs, x.n ≤ last) (ha : AddP xs cap last ps xs2 last2) : (addE xs cap ps ≠ 0 ∧ xs2 = xs ∧ last2 = last) ∨ (addE xs cap ps = 0 ∧ last2 = last + 1 ∧ preG xs (last + 1) = false ∧ (∀ z, liveG xs2 z = (liveG xs z || decide (z = last + 1))) ∧ (∀ z, preG xs2 z = (preG xs z || decide (z = last + 1))) ∧ xs2.length = xs.length + 1) := by
  by_cases h0 : addE xs cap ps = 0
  · obtain ⟨h1, h2, ab, _, _, hv⟩ := ha.vw hl h0
    have hn : preG xs (last + 1) = false := by
      cases hp : preG xs (last + 1) with
      | false => rfl
      | true =>
        obtain ⟨x, hx, e⟩ := pre_iff.1 hp
        have := hl x hx; omega
    refine .inr ⟨h0, h1, hn, fun z => ?_, fun z => ?_, h2⟩
    · rw [live_vw, live_vw, hv]
      by_cases hz : z = last + 1
      · rw [if_pos hz, decide_eq_true hz, Bool.or_true]; rfl
      · rw [if_neg hz, decide_eq_false hz, Bool.or_false]
    · rw [pre_vw, pre_vw, hv]
      by_cases hz : z = last + 1
      · rw [if_pos hz, decide_eq_true hz, Bool.or_true]; rfl
      · rw [if_neg hz, decide_eq_false hz, Bool.or_false]
  · rcases ha with h | ⟨h2, _⟩
    · exact .inl h
    · exact absurd h2 h0
theorem RelQ.live {xs xs2 : List VN} {q : Nat} {n : Int} (hG : GOk xs q) (h : RelQ xs n xs2) {z : Int} (hz : liveG xs2 z = true) : liveG xs z = true ∧ z ≠ n := by
  rcases h with ⟨_, h⟩ | ⟨h, rfl⟩
  · rw [(h.facts hG).1 z] at hz
    simp only [Bool.and_eq_true, decide_eq_true_eq] at hz
    exact hz
  · exact ⟨hz, fun e => by rw [e, h] at hz; cases hz⟩
theorem RelQ.same {xs xs2 : List VN} {n : Int} (h : RelQ xs n xs2) (hl : liveG xs n = false) : xs2 = xs := by
  rcases h with ⟨h, _⟩ | ⟨_, h⟩
  · rw [hl] at h; cases h
  · exact h
theorem relE_yes {xs : List VN} {n : Int} (h : relE xs n = 0) : liveG xs n = true := by
  unfold relE at h
  split at h
  · assumption
  · omega
def Gon (xs : List VN) (la : Int) (gn : List Int) : Prop := ∀ v ∈ gn, liveG xs v = false ∧ v ≤ la
theorem Gon.rel {xs xs2 : List VN} {q : Nat} {n la : Int} {gn : List Int} (h : Gon xs la gn) (hG : GOk xs q) (hR : RelQ xs n xs2) : Gon xs2 la gn := fun v hv => by
  refine ⟨?_, (h v hv).2⟩
  cases hl : liveG xs2 v with
  | false => rfl
  | true => have := (hR.live hG hl).1; rw [(h v hv).1] at this; cases this
theorem Gon.snoc {xs xs2 : List VN} {q : Nat} {n cap la : Int} {gn : List Int} (h : Gon xs la gn) (hI : GI xs q cap la) (hR : RelQ xs n xs2) (h0 : relE xs n = 0) : Gon xs2 la (gn ++ [n]) := fun v hv => by
  rcases List.mem_append.1 hv with hv | hv
  · exact h.rel hI.ok hR v hv
  · rw [List.mem_singleton.1 hv]
    refine ⟨?_, ?_⟩
    · cases hl : liveG xs2 n with
      | false => rfl
      | true => exact absurd rfl (hR.live hI.ok hl).2
    · obtain ⟨x, hx, e⟩ := pre_iff.1 (live_pre (relE_yes h0))
      rw [← e]; exact hI.le x hx
theorem Gon.add {xs xs2 : List VN} {q : Nat} {cap la la2 : Int} {ps gn : List Int} (h : Gon xs la gn) (hI : GI xs q cap la) (hA : AddP xs cap la ps xs2 la2) : Gon xs2 la2 gn := by
  rcases hA.facts hI.le with ⟨_, rfl, rfl⟩ | ⟨_, rfl, _, h4, _⟩
  · exact h
  · intro v hv
    obtain ⟨h5, h6⟩ := h v hv
    refine ⟨?_, by omega⟩
    rw [h4, h5, decide_eq_false (by omega)]; rfl
structure Cg where
  rel : Bool
  ver : Int
  ps : List Int
  a : Option Addr
  c : Nat
def cgC (z : Cg) : List Value := [.bool z.rel, .int .i64 z.ver, .slice z.a (i64s z.ps).length z.c]
def enG (l : List Cg) : List (List Value) := l.map cgC
@[simp] theorem enG_len (l : List Cg) : (enG l).length = l.length := by simp [enG]
abbrev Ir (n : Int) : Prop := -9223372036854775808 ≤ n ∧ n ≤ 9223372036854775807
structure CgOk (z : Cg) : Prop where
  ver : Ir z.ver
  ps : ∀ x ∈ z.ps, Ir x
end Go.V
namespace Go.V
open Go Go.RowKit Go.Maps Go.Sort
structure KOk {α : Type} (f : α → Value × Value × Nat) (n : α → Int) (xs : List α) (q : Nat) : Prop where
  key : ∀ x ∈ xs, (f x).1 = .int .i64 (n x)
  uniq : xs.Pairwise fun x y => n x ≠ n y
  born : ∀ x ∈ xs, (f x).2.2 < q
  bnd : (xs.map fun x => (f x).2.2).Nodup
  rng : ∀ x ∈ xs, -9223372036854775808 ≤ n x ∧ n x ≤ 9223372036854775807
  num : xs.length ≤ 4096
section
variable {P : Program} {k : TypeId} {α : Type} {f : α → Value × Value × Nat} {n : α → Int}
theorem keys_of (xs : List α) (q : Nat) (h : KOk f n xs q) (hk : P.underlying k = some (.int .i64)) {w : World} {b : Nat} (hb : w.heap[b]? = some (.map (mE (xs.map f)) q)) :
    ∃ D : DataW Unit, w.ownsMap P k noRdI b 4096 D ∧ Maps.size D = xs.length ∧ (intKeys D).Perm (xs.map n) := by
  have hrd : ∀ x : α, x ∈ xs → Go.WideElems.rd P k noRdI ⟨(f x).1, (f x).2.1, (f x).2.2⟩ = some (.int .i64 (n x), .nil) := fun x hx => by
    have h1 := h.rng x hx
    have h2 : (Lit.int .i64 (n x)).wf = true := by
      have e1 : IntKind.i64.min = -9223372036854775808 := by decide
      have e2 : IntKind.i64.max = 9223372036854775807 := by decide
      simp only [Lit.wf, e1, e2, Bool.and_eq_true, decide_eq_true_eq]
      omega
    have h3 : keyOf P k (.int .i64 (n x)) = some (.int .i64 (n x)) := by simp [keyOf, hk, mapKey, h2]
    simp [Go.WideElems.rd, h.key x hx, h3, noRdI]
  have hF : Go.WideElems.Fit P k noRdI (mE (xs.map f)) q := by
    refine ⟨by rw [mE_size, List.length_map]; exact Nat.le_trans h.num (by decide), ⟨?_, ?_, ?_⟩, ?_⟩
    · intro x hx
      simp only [mE_toList, List.map_map, List.mem_map] at hx
      obtain ⟨y, hy, rfl⟩ := hx
      exact h.born y hy
    · rw [mE_toList, List.map_map, List.map_map]
      exact h.bnd
    · rw [mE_toList, List.map_map, List.map_map]
      refine List.pairwise_map.2 (List.Pairwise.imp_of_mem (R := fun x y => n x ≠ n y) (fun {a b} ha hb' hne he => hne ?_) h.uniq)
      simp only [Function.comp_def, h.key a ha, h.key b hb'] at he
      exact (Value.int.inj he).2
    · intro x hx
      simp only [mE_toList, List.map_map, List.mem_map] at hx
      obtain ⟨y, hy, rfl⟩ := hx
      exact ⟨_, hrd y hy⟩
  refine ⟨_, ⟨_, _, hb, hF, by rw [mE_size, List.length_map]; exact h.num, rfl⟩, ?_, ?_⟩
  · rw [Maps.size_eq, (WideShapes.sorted_perm _).length_eq]; simp
  · refine ((WideShapes.sorted_perm _).map _).trans ?_
    rw [mE_toList, List.map_map, List.map_map, List.map_map]
    refine List.Perm.of_eq (List.map_congr_left fun x hx => ?_)
    simp only [Function.comp_def, Go.WideElems.rg, hrd x hx, Option.getD_some, intOf]
theorem ki_key {xs : List α} (h : ∀ x ∈ xs, (f x).1 = .int .i64 (n x)) : ∀ x ∈ xs.map f, MapKept.IsKey (.int .i64) x.1 := fun x hx => by
  obtain ⟨y, hy, rfl⟩ := List.mem_map.1 hx
  rw [h y hy]; rfl
theorem ki_in {xs : List α} (h1 : ∀ x ∈ xs, (f x).1 = .int .i64 (n x)) (hu : xs.Pairwise fun x y => n x ≠ n y) {k : Nat} {x : α} (hx : xs[k]? = some x) : mfind (.int .i64) (.int .i64 (n x)) (xs.map f) = some (some (k, (f x).2.1)) := by
  refine mfind_some (d := .int .i64) (k := .int .i64 (n x)) (b := (f x).2.2) rfl (ki_key h1) (by rw [List.getElem?_map, hx]; show some (f x) = _; rw [← h1 x (List.mem_of_getElem? hx)]) fun j hj y hy => ?_
  rw [List.getElem?_map] at hy
  cases hz : xs[j]? with
  | none => rw [hz] at hy; cases hy
  | some u =>
    rw [hz] at hy
    simp only [Option.map_some, Option.some.injEq] at hy
    subst hy
    intro he
    rw [h1 u (List.mem_of_getElem? hz)] at he
    have he2 : n u = n x := (Value.int.inj he).2
    have hl := (List.getElem?_eq_some_iff.1 hz).1
    have hl2 := (List.getElem?_eq_some_iff.1 hx).1
    refine List.pairwise_iff_getElem.1 hu j k hl hl2 hj ?_
    rw [(List.getElem?_eq_some_iff.1 hz).2, (List.getElem?_eq_some_iff.1 hx).2, he2]
theorem ki_out {xs : List α} (h1 : ∀ x ∈ xs, (f x).1 = .int .i64 (n x)) {m : Int} (h : ∀ x ∈ xs, n x ≠ m) : mfind (.int .i64) (.int .i64 m) (xs.map f) = some none := by
  refine mfind_none (d := .int .i64) (k := .int .i64 m) rfl (ki_key h1) fun x hx => ?_
  obtain ⟨y, hy, rfl⟩ := List.mem_map.1 hx
  rw [h1 y hy]
  intro he
  exact h y hy (Value.int.inj he).2
theorem ki_cases (n : α → Int) (xs : List α) (m : Int) : (∃ (k : Nat) (x : α), xs[k]? = some x ∧ n x = m) ∨ ∀ x ∈ xs, n x ≠ m := by
  by_cases h : ∃ x ∈ xs, n x = m
  · obtain ⟨x, hx, hn⟩ := h
    obtain ⟨k, hk⟩ := List.mem_iff_getElem?.1 hx
    exact .inl ⟨k, x, hk, hn⟩
  · exact .inr fun x hx hn => h ⟨x, hx, hn⟩
theorem KOk.nil : KOk f n [] 0 := ⟨fun _ h => (by cases h), List.Pairwise.nil, fun _ h => (by cases h), List.nodup_nil, fun _ h => (by cases h), by simp⟩
theorem KOk.snoc {xs : List α} {q : Nat} (h : KOk f n xs q) {x : α} (hk : (f x).1 = .int .i64 (n x)) (hn : ∀ y ∈ xs, n y ≠ n x) (hb : (f x).2.2 = q) (hr : -9223372036854775808 ≤ n x ∧ n x ≤ 9223372036854775807) (hl : xs.length < 4096) : KOk f n (xs ++ [x]) (q + 1) := by
  refine ⟨fun y hy => ?_, ?_, fun y hy => ?_, ?_, fun y hy => ?_, by simp; omega⟩
  · rcases List.mem_append.1 hy with hy | hy
    · exact h.key y hy
    · rw [List.mem_singleton.1 hy]; exact hk
  · refine List.pairwise_append.2 ⟨h.uniq, List.pairwise_singleton _ _, fun a ha b hb' => ?_⟩
    rw [List.mem_singleton.1 hb']; exact hn a ha
  · rcases List.mem_append.1 hy with hy | hy
    · exact Nat.lt_succ_of_lt (h.born y hy)
    · rw [List.mem_singleton.1 hy, hb]; exact Nat.lt_succ_self _
  · rw [List.map_append]
    refine List.nodup_append.2 ⟨h.bnd, List.pairwise_singleton _ _, fun a ha b hb' e => ?_⟩
    rw [List.map_singleton, List.mem_singleton] at hb'
    obtain ⟨y, hy, rfl⟩ := List.mem_map.1 ha
    have := h.born y hy
    rw [e, hb', hb] at this; omega
  · rcases List.mem_append.1 hy with hy | hy
    · exact h.rng y hy
    · rw [List.mem_singleton.1 hy]; exact hr
theorem KOk.erase {xs : List α} {q : Nat} (h : KOk f n xs q) (j : Nat) : KOk f n (xs.eraseIdx j) q := by
  have hs := List.eraseIdx_sublist xs j
  exact ⟨fun y hy => h.key y (hs.subset hy), h.uniq.sublist hs, fun y hy => h.born y (hs.subset hy), h.bnd.sublist (hs.map _), fun y hy => h.rng y (hs.subset hy), Nat.le_trans hs.length_le h.num⟩
theorem erase_mem' {xs : List α} (hu : xs.Pairwise fun x y => n x ≠ n y) {j : Nat} {u : α} (hj : xs[j]? = some u) (x : α) : x ∈ xs.eraseIdx j ↔ x ∈ xs ∧ n x ≠ n u := by
  induction xs generalizing j with
  | nil => simp at hj
  | cons y ys ih =>
    obtain ⟨h1, h2⟩ := List.pairwise_cons.1 hu
    cases j with
    | zero =>
      simp only [List.getElem?_cons_zero, Option.some.injEq] at hj
      subst hj
      rw [List.eraseIdx_cons_zero, List.mem_cons]
      constructor
      · intro hx; exact ⟨.inr hx, fun e => h1 x hx e.symm⟩
      · rintro ⟨rfl | hx, hn⟩
        · exact absurd rfl hn
        · exact hx
    | succ j =>
      rw [List.getElem?_cons_succ] at hj
      rw [List.eraseIdx_cons_succ, List.mem_cons, List.mem_cons, ih h2 hj]
      constructor
      · rintro (rfl | ⟨hx, hn⟩)
        · exact ⟨.inl rfl, h1 u (List.mem_of_getElem? hj)⟩
        · exact ⟨.inr hx, hn⟩
      · rintro ⟨rfl | hx, hn⟩
        · exact .inl rfl
        · exact .inr ⟨hx, hn⟩
end
end Go.V
/-! ## Vra -/
namespace Go.V
open Go Go.RowKit
structure RN where
  n : Int
  root : Int
  born : Nat
def rK (x : RN) : Value × Value × Nat := (.int .i64 x.n, .int .u32 x.root, x.born)
structure VM where
  T : TM
  xs : List VN
  q : Nat
  last : Int
  rs : List RN
  q2 : Nat
  cap : Int
structure VsA where
  t : Nat
  p : Nat
  m : Nat
  m2 : Nat
def TM.vl (T : TM) (i : Int) : Int := (T.vals[i.toNat]?).getD 0
structure VI (V : VM) (A : AM) (R : List Int) : Prop where
  t : TOk V.T
  g : GI V.xs V.q V.cap V.last
  k : KOk rK RN.n V.rs V.q2
  pre : ∀ z, (∃ r ∈ V.rs, r.n = z) ↔ preG V.xs z = true
  lv : ∀ i : Int, 0 ≤ i → V.T.s.ok i = true → liveG V.xs (V.T.vl i) = true
  inj : ∀ i j : Int, 0 ≤ i → 0 ≤ j → V.T.s.ok i = true → V.T.s.ok j = true → V.T.vl i = V.T.vl j → i = j
  all : ∀ z, liveG V.xs z = true → ∃ i : Int, 0 ≤ i ∧ V.T.s.ok i = true ∧ V.T.vl i = z
  ref : ARf A (V.rs.map RN.root ++ R)
  cp : V.T.s.cap = V.cap
def VM.new (cap : Nat) : VM := ⟨TM.new cap, [], 0, 0, [], 0, cap⟩
theorem SM.new_live (cap : Nat) (i : Int) : (SM.new cap).ok i = false := by
  unfold SM.ok SM.new
  simp only
  cases hx : (List.replicate (cap + 1) false)[i.toNat]? with
  | none => rfl
  | some b => rw [List.eq_of_mem_replicate (List.mem_of_getElem? hx)]; rfl
theorem AM.new_rf {cap : Nat} (h : 1 ≤ cap ∧ cap ≤ 65536) : ARf (AM.new cap) [] := by
  have hno := SM.new_live cap
  refine ⟨AM.new_wf h, fun i hi => ?_, fun i hi => ?_, fun i hi => ?_, fun _ hr => (by cases hr), fun i hi => ?_, fun i _ _ => ?_, by simp⟩
  · have := hno i; rw [show (AM.new cap).s = SM.new cap from rfl, this] at hi; cases hi
  · have := hno i; rw [show (AM.new cap).s = SM.new cap from rfl, this] at hi; cases hi
  · have := hno i; rw [show (AM.new cap).s = SM.new cap from rfl, this] at hi; cases hi
  · have := hno i; rw [show (AM.new cap).s = SM.new cap from rfl, this] at hi; cases hi
  · unfold AM.nd AM.new
    simp only
    cases hx : (List.replicate (cap + 1) Nd.zero)[i.toNat]? with
    | none => rfl
    | some b => rw [List.eq_of_mem_replicate (List.mem_of_getElem? hx)]; rfl
theorem VI.new {slots cap : Nat} (h1 : 1 ≤ slots ∧ slots ≤ 65536) (h2 : 1 ≤ cap ∧ cap ≤ 4096) : VI (VM.new cap) (AM.new slots) [] := by
  have hno := SM.new_live cap
  refine ⟨TM.new_ok (by omega), ⟨GOk.nil, fun _ h => (by cases h), Int.le_refl _, by show 1 ≤ (cap : Int) ∧ (cap : Int) ≤ 4096; omega⟩, KOk.nil, fun z => ?_, fun i _ hi => ?_, fun i j _ _ hi => ?_, fun z hz => (by cases hz), AM.new_rf h1, ?_⟩
  · exact ⟨fun ⟨_, h, _⟩ => (by cases h), fun h => (by cases h)⟩
  · rw [show (VM.new cap).T.s = SM.new cap from rfl, hno i] at hi; cases hi
  · rw [show (VM.new cap).T.s = SM.new cap from rfl, hno i] at hi; cases hi
  · show (((List.replicate (cap + 1) false).length : Nat) : Int) - 1 = cap
    simp
def VM.room (V : VM) : Int := min (V.cap - V.xs.length) (V.cap - (V.T.s.cap - V.T.s.free))
def VM.rootOf (V : VM) (z : Int) : Int := ((V.rs.find? fun r => decide (r.n = z)).map RN.root).getD 0
theorem VM.rootOf_at {V : VM} (hu : V.rs.Pairwise fun x y => RN.n x ≠ RN.n y) {k : Nat} {r : RN} (hr : V.rs[k]? = some r) : V.rootOf r.n = r.root := by
  unfold VM.rootOf
  have : V.rs.find? (fun x => decide (x.n = r.n)) = some r := by
    cases hf : V.rs.find? (fun x => decide (x.n = r.n)) with
    | none => exact absurd (decide_eq_true rfl) (List.find?_eq_none.1 hf r (List.mem_of_getElem? hr))
    | some y =>
      have hn : y.n = r.n := of_decide_eq_true (List.find?_some (p := fun q : RN => decide (q.n = r.n)) hf)
      obtain ⟨j, hj⟩ := List.mem_iff_getElem?.1 (List.mem_of_find?_eq_some hf)
      have h1 := (List.getElem?_eq_some_iff.1 hj).1
      have h2 := (List.getElem?_eq_some_iff.1 hr).1
      have e1 : V.rs[j] = y := (List.getElem?_eq_some_iff.1 hj).2
      have e2 : V.rs[k] = r := (List.getElem?_eq_some_iff.1 hr).2
      rcases Nat.lt_trichotomy j k with hl | hl | hl
      · exact absurd (by rw [e1, e2]; exact hn) (List.pairwise_iff_getElem.1 hu j k h1 h2 hl)
      · subst hl; rw [hj] at hr; exact hr
      · exact absurd (by rw [e1, e2]; exact hn.symm) (List.pairwise_iff_getElem.1 hu k j h2 h1 hl)
  rw [this]; rfl
end Go.V
namespace Go.V
open Go Go.RowKit
theorem TM.open_vl {T : TM} (h : TOk T) (hf : 0 < T.s.free) (v : Int) {i : Int} (hi : 0 ≤ i) : (T.open v).vl i = if i = T.s.next then v else T.vl i := by
  have hn := SM.next_rng h.s hf
  unfold TM.vl TM.open
  simp only
  rw [List.getElem?_set]
  by_cases e : i = T.s.next
  · subst e; rw [if_pos rfl, if_pos (by rw [h.vl]; exact hn.2.2.1), if_pos rfl]; rfl
  · rw [if_neg (by omega), if_neg e]
theorem TM.open_ok {T : TM} (h : TOk T) (hf : 0 < T.s.free) (v : Int) {i : Int} (hi : 0 ≤ i) : (T.open v).s.ok i = if i = T.s.next then true else T.s.ok i := SM.alloc_ok' h.s hf hi
theorem rs_len {V : VM} {A : AM} {R : List Int} (h : VI V A R) : V.rs.length ≤ V.xs.length := by
  have h1 := nd_le (l := V.rs.map RN.n) (m := V.xs.map VN.n) (List.pairwise_map.2 h.k.uniq) (fun z hz => by
    obtain ⟨r, hr, e⟩ := List.mem_map.1 hz
    obtain ⟨x, hx, e2⟩ := pre_iff.1 ((h.pre z).1 ⟨r, hr, e⟩)
    exact List.mem_map.2 ⟨x, hx, e2⟩)
  simpa using h1
def VM.add (V : VM) (xs2 : List VN) (q : Nat) (root : Int) : VM := ⟨V.T.open (V.last + 1), xs2, q, V.last + 1, V.rs ++ [⟨V.last + 1, root, V.q2⟩], V.q2 + 1, V.cap⟩
theorem VI.add {V : VM} {A : AM} {R : List Int} (h : VI V A R) {root : Int} (hr : root = 0 ∨ (1 ≤ root ∧ A.s.ok root = true)) {ps : List Int} {xs2 : List VN} {q : Nat} (h0 : addE V.xs V.cap ps = 0) (hA : AddP V.xs V.cap V.last ps xs2 (V.last + 1))
    (hG : GI xs2 q V.cap (V.last + 1)) (hf : 0 < V.T.s.free) (hla : V.last < 1000000000) (hlen : R.length ≤ 900000000) : VI (V.add xs2 q root) (A.ret root) R := by
  have hla0 := h.g.la
  have hle := rs_len h
  have hnum := hG.ok.num
  obtain ⟨_, _, hn, hlv, hpr, hxl⟩ := (AddP.facts h.g.le hA).resolve_left fun e => e.1 h0
  have hlast : ∀ z, preG V.xs z = true → z ≤ V.last := fun z hz => by
    obtain ⟨x, hx, e⟩ := pre_iff.1 hz
    have := h.g.le x hx; omega
  have hnx := SM.next_rng h.t.s hf
  have hlvl : ∀ i : Int, 0 ≤ i → V.T.s.ok i = true → V.T.vl i ≤ V.last := fun i h0 hi => hlast _ (live_pre (h.lv i h0 hi))
  refine ⟨h.t.open hf (by omega), hG, h.k.snoc rfl (fun y hy e => ?_) rfl (by show _ ≤ V.last + 1 ∧ V.last + 1 ≤ _; omega) (by omega), fun z => ?_, fun i hi ho => ?_, fun i j hi hj ho ho2 e => ?_, fun z hz => ?_, ?_, ?_⟩
  · have := hlast _ ((h.pre y.n).1 ⟨y, hy, rfl⟩)
    have e2 : y.n = V.last + 1 := e
    omega
  · show (∃ r ∈ V.rs ++ [_], r.n = z) ↔ preG xs2 z = true
    rw [hpr z, Bool.or_eq_true, ← h.pre z]
    constructor
    · rintro ⟨r, hr2, e⟩
      rcases List.mem_append.1 hr2 with hr2 | hr2
      · exact .inl ⟨r, hr2, e⟩
      · rw [List.mem_singleton.1 hr2] at e
        exact .inr (decide_eq_true e.symm)
    · rintro (⟨r, hr2, e⟩ | e)
      · exact ⟨r, List.mem_append_left _ hr2, e⟩
      · exact ⟨_, List.mem_append_right _ (List.mem_singleton.2 rfl), (of_decide_eq_true e).symm⟩
  · show liveG xs2 ((V.T.open (V.last + 1)).vl i) = true
    rw [TM.open_vl h.t hf _ hi, hlv]
    rw [show (V.add xs2 q root).T.s.ok i = _ from TM.open_ok h.t hf _ hi] at ho
    by_cases e : i = V.T.s.next
    · rw [if_pos e]; simp
    · rw [if_neg e] at ho ⊢
      rw [h.lv i hi ho, Bool.true_or]
  · rw [show (V.add xs2 q root).T.s.ok i = _ from TM.open_ok h.t hf _ hi] at ho
    rw [show (V.add xs2 q root).T.s.ok j = _ from TM.open_ok h.t hf _ hj] at ho2
    rw [show (V.add xs2 q root).T.vl i = _ from TM.open_vl h.t hf _ hi, show (V.add xs2 q root).T.vl j = _ from TM.open_vl h.t hf _ hj] at e
    by_cases e1 : i = V.T.s.next
    · by_cases e2 : j = V.T.s.next
      · rw [e1, e2]
      · rw [if_neg e2] at ho2
        rw [if_pos e1, if_neg e2] at e
        have := hlvl j hj ho2; omega
    · rw [if_neg e1] at ho
      by_cases e2 : j = V.T.s.next
      · rw [if_neg e1, if_pos e2] at e
        have := hlvl i hi ho; omega
      · rw [if_neg e2] at ho2
        rw [if_neg e1, if_neg e2] at e
        exact h.inj i j hi hj ho ho2 e
  · have hz2 : (liveG V.xs z || decide (z = V.last + 1)) = true := by rw [← hlv z]; exact hz
    rcases Bool.or_eq_true_iff.1 hz2 with hz2 | hz2
    · obtain ⟨i, h1, h2, h3⟩ := h.all z hz2
      have hne : i ≠ V.T.s.next := fun e => by rw [e, hnx.2.2.2] at h2; cases h2
      exact ⟨i, h1, by rw [show (V.add xs2 q root).T.s.ok i = _ from TM.open_ok h.t hf _ h1, if_neg hne]; exact h2, by rw [show (V.add xs2 q root).T.vl i = _ from TM.open_vl h.t hf _ h1, if_neg hne]; exact h3⟩
    · have h1 : 0 ≤ V.T.s.next := by omega
      exact ⟨V.T.s.next, h1, by rw [show (V.add xs2 q root).T.s.ok _ = _ from TM.open_ok h.t hf _ h1, if_pos rfl], by rw [show (V.add xs2 q root).T.vl _ = _ from TM.open_vl h.t hf _ h1, if_pos rfl]; exact (of_decide_eq_true hz2).symm⟩
  · have h1 := (AM.ret_eq h.ref hr (by rw [List.length_append, List.length_map]; omega)).1
    refine h1.perm ?_
    show (root :: (V.rs.map RN.root ++ R)).Perm ((V.rs ++ [(⟨V.last + 1, root, V.q2⟩ : RN)]).map RN.root ++ R)
    rw [List.map_append]
    simpa using (List.perm_middle (a := root) (l₁ := V.rs.map RN.root) (l₂ := R)).symm
  · show (V.T.s.alloc).cap = V.cap
    rw [← h.cp]
    unfold SM.cap SM.alloc; simp
end Go.V
namespace Go.V
open Go Go.RowKit
theorem len_single {xs : List VN} {m : Int} (hu : VUq xs) (h : ∀ z, preG xs z = true ↔ z = m) : xs.length = 1 := by
  match xs, hu, h with
  | [], _, h => exact absurd ((h m).2 rfl) (by simp [preG, vfind])
  | [_], _, _ => rfl
  | x :: y :: t, hu, h =>
    have h1 := (h x.n).1 (pre_iff.2 ⟨x, by simp, rfl⟩)
    have h2 := (h y.n).1 (pre_iff.2 ⟨y, by simp, rfl⟩)
    have := (List.pairwise_cons.1 hu).1 y (by simp)
    rw [h1, h2] at this; exact absurd rfl this
structure FvS (V : VM) (A : AM) (hd root : Int) (t : Tr) : Prop where
  vi : VI V A []
  opn : V.T.s.opn hd = true
  rng : 0 ≤ hd ∧ hd ≤ 18446744073709551615
  val : V.T.val hd = V.last
  pre : ∀ z, preG V.xs z = true ↔ z = V.last
  free : V.T.s.free = 49
  cap : V.cap = 50
  rs : ∃ b, V.rs = [⟨V.last, root, b⟩]
  is : Is A t root
  ok : t.ok
  srt : Srt t.ls
  acap : A.s.used.length = 601
theorem FvS.len {V : VM} {A : AM} {hd root : Int} {t : Tr} (h : FvS V A hd root t) : V.xs.length = 1 := len_single h.vi.g.ok.uniq h.pre
theorem FvS.room {V : VM} {A : AM} {hd root : Int} {t : Tr} (h : FvS V A hd root t) : V.room = 49 := by
  have h1 := h.len; have h2 := h.vi.cp; have h3 := h.cap; have h4 := h.free
  unfold VM.room; omega
theorem FvS.root {V : VM} {A : AM} {hd root : Int} {t : Tr} (h : FvS V A hd root t) : V.rootOf (V.T.val hd) = root := by
  obtain ⟨b, hb⟩ := h.rs
  rw [h.val]
  exact VM.rootOf_at (V := V) h.vi.k.uniq (k := 0) (r := ⟨V.last, root, b⟩) (by rw [hb]; rfl)
theorem FvS.ref {V : VM} {A : AM} {hd root : Int} {t : Tr} (h : FvS V A hd root t) : ARf A [root] := by
  obtain ⟨b, hb⟩ := h.rs
  have := h.vi.ref
  rw [hb] at this; exact this
theorem FvS.used {V : VM} {A : AM} {hd root : Int} {t : Tr} (h : FvS V A hd root t) : A.s.cap = 600 ∧ A.s.cap - A.s.free = t.n := by
  have h1 := one_tree h.ref h.is h.srt
  have h2 : A.s.cap = (A.s.used.length : Int) - 1 := rfl
  have h3 := h.acap
  omega
end Go.V
/-! ## K2 -/
namespace Go.Proofs.YtlnlnebibgdjdaaGreat
open Go Go.V
def mkL (raw : Kvs) (k : Nat) : Kvs := (raw.take k).foldl (fun l e => lins e.1 e.2 l) []
theorem mkL_succ {raw : Kvs} {k : Nat} {e : Int × Int} (h : raw[k]? = some e) : mkL raw (k + 1) = lins e.1 e.2 (mkL raw k) := by
  unfold mkL
  rw [List.take_add_one, h, List.foldl_append]; rfl
theorem mkL_srt (raw : Kvs) : ∀ k, Srt (mkL raw k) ∧ (mkL raw k).length ≤ k
  | 0 => ⟨List.Pairwise.nil, Nat.le_refl _⟩
  | k + 1 => by
    obtain ⟨h1, h2⟩ := mkL_srt raw k
    cases h : raw[k]? with
    | none =>
      have : mkL raw (k + 1) = mkL raw k := by unfold mkL; rw [List.take_add_one, h]; simp
      rw [this]; exact ⟨h1, by omega⟩
    | some e =>
      rw [mkL_succ h, lins_len h1]
      exact ⟨lins_srt h1, by split <;> omega⟩
theorem mkL_end {raw : Kvs} {k m : Nat} (h : ¬ (k < raw.length ∧ k < m)) (hk : k ≤ raw.length ∧ k ≤ m) : mkL raw k = mkL raw m := by
  unfold mkL
  by_cases h1 : k = m
  · rw [h1]
  · rw [List.take_of_length_le (show raw.length ≤ k by omega), List.take_of_length_le (show raw.length ≤ m by omega)]
set_option maxRecDepth 8192 in
theorem kt_list {g w : World} {L : List HP} (raw : Kvs) (u : Option Addr) (d : Nat) (most : Int) (hm : 0 ≤ most ∧ most ≤ 1000) (hS : St g (Sh 77 2 (en2 raw) u d :: L) w) :
    Sp Tryz.prog 59 [.slice u (List.length (en2 raw)) d, .int .i64 most] w (fun v w' => ∃ (a2 : Option Addr) (c2 : Nat), v = .slice a2 (List.length (en2 (mkL raw most.toNat))) c2 ∧ St g (Own 77 2 (en2 (mkL raw most.toNat)) a2 c2 :: Sh 77 2 (en2 raw) u d :: L) w') := by
  refine Sp.enter Tryz.func59 rfl (by kernel_rfl) (by kernel_rfl) ?_
  refine WC.seq ?_
  refine WC.region ?_
  refine WL.r 1 rfl ?_
  refine WL.nil ?_
  refine WC.seq ?_
  refine WC.region ?_
  have hll := en2_len raw
  refine WL.r 1 rfl ?_
  refine WL.nil ?_
  refine WC.seq ?_
  refine WC.seq ?_
  refine WC.region ?_
  refine WL.r 1 rfl ?_
  refine WL.nil ?_
  refine WC.block ?_
  replace hS := hS.nil_ 77 2
  refine WC.loop [0, 1, 4, 5, 6] (fun kM vs w => ∃ (k : Nat) (m : Kvs) (ua : Option Addr) (uc : Nat), vs = [.slice u (List.length (en2 raw)) d, .int .i64 most, .slice none 0 0, .slice ua (List.length (en2 m)) uc, .int .i64 (k : Int)] ∧ St g (Own 77 2 (en2 m) ua uc :: Sh 77 2 (en2 raw) u d :: L) w ∧ (k ≤ raw.length ∧ k ≤ most) ∧ (m = mkL raw k) ∧ (raw.length - k) = kM) ((List.length raw) - 0) ⟨0, [], none, 0, rfl, hS, (by omega), (rfl), rfl⟩ ?_
  clear hS; rintro _ _ w j ⟨k, m, ua, uc, rfl, hS, hk, hm, rfl⟩
  refine WC.seq ?_
  refine WC.seq ?_
  refine WC.region ?_
  refine WL.r 4 rfl ?_
  refine WL.rG 5 rfl (fun j => ?_)
  refine WL.prop 15 rfl (band (dd _) (dd _)) ?_
  refine WL.nil ?_
  as_aux_lemma =>
    refine WC.ifP rfl (fun cd1 => ?_) (fun cd1 => ?_)
    · refine WC.skip ?_
      refine WC.seq ?_
      refine WC.block ?_
      refine WC.region ?_
      refine WL.r 3 rfl ?_
      obtain ⟨e, he⟩ : ∃ e, raw[k]? = some e := ⟨_, List.getElem?_eq_getElem (by omega)⟩; have hms := mkL_srt raw k; rw [← hm] at hms
      refine WL.ix rfl rfl (i := (k : Int)) (k) el_49 rfl rfl (by omega) (by omega) (hS.rdS 1 rfl (en2_at he)).1 ?_
      refine WL.ldC rfl rfl [.int .i64 e.1, .int .i64 e.2] ag_77 rfl (hS.rdS 1 rfl (en2_at he)).2 ?_
      replace hS := (hS.at_ 0 rfl).share
      replace hS : St g (Sh 77 2 (en2 m) ua uc :: Sh 77 2 (en2 raw) u d :: L) w := hS
      refine WL.call rfl rfl (ref_ins (l := m) (u := ua) (d := uc) (k := e.1) (z := e.2) (hs := hms.1) (hl := (by omega)) (hS := hS)) rfl ?_
      clear hS; rintro _ w ⟨a1, c1, rfl, hS⟩
      replace hS : St g (Own 77 2 (en2 (lins e.1 e.2 m)) a1 c1 :: Sh 77 2 (en2 m) ua uc :: Sh 77 2 (en2 raw) u d :: L) w := hS
      refine WL.r 1 rfl ?_
      refine WL.nil ?_
      refine WC.region ?_
      refine WL.r 2 rfl ?_
      refine WL.nw 17 rfl (w64 (by omega)) ?_
      refine WL.r 1 rfl ?_
      refine WL.nil ?_
      exact ⟨_, by omega, k + 1, lins e.1 e.2 m, a1, c1, rfl, (hS.sel 2 [0] rfl), (by omega), (by rw [hm, mkL_succ he]), rfl⟩
    · refine WC.exit ?_
      refine WC.seq ?_
      refine WC.region ?_
      refine WL.r 2 rfl ?_
      refine WL.nil ?_
      refine WC.ret ?_
      refine ⟨[.slice ua (List.length (en2 m)) uc], rfl, ?_⟩
      have e9 := mkL_end (raw := raw) (k := k) (m := most.toNat) (by omega) ⟨hk.1, by omega⟩; rw [← hm] at e9; rw [e9] at hS ⊢; exact ⟨_, _, rfl, hS⟩
set_option maxRecDepth 8192 in
theorem kt_grow {g w : World} {L : List HP} (l : Kvs) (u : Option Addr) (d : Nat) (q sp : Int) (hl : l.length ≤ 1000) (hs : 0 ≤ sp ∧ 1 ≤ l.length + sp ∧ sp ≤ 60000) (hq : 0 ≤ q ∧ q < 18446744073709551616) (hS : St g (Sh 77 2 (en2 l) u d :: L) w) :
    Sp Tryz.prog 41 [.slice u (List.length (en2 l)) d, .int .u64 q, .int .i64 sp] w (fun v w' => ∃ (a : Nat) (A : AM) (i : Int) (t : Tr), v = .tuple #[.pointer (some ⟨a, 0, none⟩), .int .u32 i, .bool true] ∧ St g (Arn a A :: Sh 77 2 (en2 l) u d :: L) w' ∧ (ARf A [i]) ∧ (Is A t i) ∧ (t.ok) ∧ (t.ls = l) ∧ (sp ≤ A.s.free)) := by
  refine Sp.enter Tryz.func41 rfl (by kernel_rfl) (by kernel_rfl) ?_
  have _ := hs
  have _ := hl
  refine WC.seq ?_
  refine WC.region ?_
  refine WL.r 3 rfl ?_
  refine WL.nil ?_
  refine WC.seq ?_
  refine WC.region ?_
  have hll := en2_len l; have hcp : 1 ≤ ((l.length : Int) + sp).toNat ∧ ((l.length : Int) + sp).toNat ≤ 65536 := (by omega); have hrf := AM.new_rf hcp; have hfr : (AM.new ((l.length : Int) + sp).toNat).s.free = (((l.length : Int) + sp).toNat : Int) := SM.new_free ((l.length : Int) + sp).toNat
  refine WL.r 4 rfl ?_
  refine WL.reb 17 (.int .i64 ((List.length l : Int) + sp)) (congrArg (Value.int .i64) (by rw [hll, w64 (by omega)])) ?_
  refine WL.call rfl rfl (ar_new_ok (cap := (List.length l : Int) + sp) (hc := (by omega)) (hS := hS)) rfl ?_
  clear hS; rintro _ w ⟨a1, rfl, hS⟩
  replace hS : St g (Arn a1 (AM.new ((List.length l : Int) + sp).toNat) :: Sh 77 2 (en2 l) u d :: L) w := hS
  refine WL.r 5 rfl ?_
  refine WL.nil ?_
  refine WC.seq ?_
  refine WC.seq ?_
  refine WC.region ?_
  refine WL.r 2 rfl ?_
  refine WL.rG 4 rfl (fun j => ?_)
  refine WL.nil ?_
  refine WC.ifF rfl (by simp) ?_
  refine WC.skip ?_
  refine WC.seq ?_
  refine WC.region ?_
  refine WL.r 3 rfl ?_
  refine WL.call rfl rfl (kt_plant (a := a1) (A := AM.new ((List.length l : Int) + sp).toNat) (R := []) (l := l) (u := u) (d := d) (q := q) (hA := hrf) (hf := (by omega)) (hl := (by omega)) (hz := (by simp; omega)) (hq := hq) (hS := hS)) rfl ?_
  clear hS; rintro _ w ⟨A1, i1, t1, rfl, hS, f1, f2, f3⟩
  replace hS : St g (Arn a1 A1 :: Sh 77 2 (en2 l) u d :: L) w := hS
  refine WL.r 5 rfl ?_
  refine WL.nil ?_
  as_aux_lemma =>
    refine WC.seq ?_
    refine WC.region ?_
    refine WL.r 6 rfl ?_
    refine WL.nil ?_
    refine WC.ret ?_
    refine ⟨[.pointer (some ⟨a1, 0, none⟩), .int .u32 i1, .bool true], ⟨rfl, rfl, rfl⟩, ?_⟩
    exact ⟨_, _, _, _, rfl, hS, f1.ref, f1.is, f2, f3, by have h := f1.fr; omega⟩
end Go.Proofs.YtlnlnebibgdjdaaGreat
/-! ## Md -/
namespace Go.Proofs.YtlnlnebibgdjdaaGreat
open Go Go.V
set_option maxRecDepth 8192 in
theorem md_spec {g w : World} {L : List HP} (k n : Int) (hk : -9223372036854775808 ≤ k ∧ k ≤ 9223372036854775807) (hn : 0 < n ∧ n ≤ 9223372036854775807) (hS : St g (L) w) :
    Sp Tryz.prog 24 [.int .i64 k, .int .i64 n] w (fun v w' => v = .int .i64 (k % n) ∧ St g (L) w') := by
  refine Sp.enter Tryz.func24 rfl (by kernel_rfl) (by kernel_rfl) ?_
  have _ := hk
  refine WC.seq ?_
  refine WC.region ?_
  refine WL.r 1 rfl ?_
  refine WL.nil ?_
  refine WC.seq ?_
  refine WC.region ?_
  obtain ⟨m, rfl⟩ : ∃ m : Nat, n = Int.ofNat (m + 1) := ⟨n.toNat - 1, by simp; omega⟩; have htm := tm_lt (k := k) (n := Int.ofNat (m + 1)) hn.1
  refine WL.r 3 rfl ?_
  refine WL.r 1 rfl ?_
  refine WL.nil ?_
  refine WC.seq ?_
  refine WC.seq ?_
  refine WC.region ?_
  refine WL.r 2 rfl ?_
  refine WL.nil ?_
  refine WC.ifP rfl (fun cd1 => ?_) (fun cd1 => ?_)
  · refine WC.region ?_
    refine WL.r 3 rfl ?_
    refine WL.nw 13 rfl (w64 (by omega)) ?_
    refine WL.r 1 rfl ?_
    refine WL.nil ?_
    refine WC.seq ?_
    refine WC.region ?_
    refine WL.r 2 rfl ?_
    refine WL.nil ?_
    as_aux_lemma =>
      refine WC.ret ?_
      refine ⟨[.int .i64 ((Int.tmod k (Int.ofNat (m + 1))) + (Int.ofNat (m + 1)))], rfl, ?_⟩
      rw [tm_neg hn.1 cd1]; exact ⟨rfl, hS⟩
  · refine WC.skip ?_
    refine WC.seq ?_
    refine WC.region ?_
    refine WL.r 2 rfl ?_
    refine WL.nil ?_
    refine WC.ret ?_
    refine ⟨[.int .i64 (Int.tmod k (Int.ofNat (m + 1)))], rfl, ?_⟩
    rw [tm_pos hn.1 cd1]; exact ⟨rfl, hS⟩
end Go.Proofs.YtlnlnebibgdjdaaGreat
/-! ## Pr -/
namespace Go.V
open Go Go.RowKit
inductive Pt where
  | sub (i : Int) (t : Tr)
  | one (k v : Int)
def ptC : Pt → List Value
  | .sub i t => [.int .u32 i, .int .i64 (t.n : Int), .int .i64 0, .int .i64 0, .bool false]
  | .one k v => [.int .u32 0, .int .i64 0, .int .i64 k, .int .i64 v, .bool true]
def pts (l : List Pt) : List (List Value) := l.map ptC
@[simp] theorem pts_len (l : List Pt) : (pts l).length = l.length := by simp [pts]
theorem pts_app (l m : List Pt) : pts (l ++ m) = pts l ++ pts m := by simp [pts]
theorem pts_take (l : List Pt) (k : Nat) : (pts l).take k = pts (l.take k) := by simp [pts]
theorem pts_ok (l : List Pt) : OkE 5 (pts l) := fun x hx => by
  obtain ⟨y, _, rfl⟩ := List.mem_map.1 hx
  cases y
  · exact ⟨rfl, fun u hu => by simp [ptC] at hu; rcases hu with rfl | rfl | rfl | rfl | rfl <;> rfl⟩
  · exact ⟨rfl, fun u hu => by simp [ptC] at hu; rcases hu with rfl | rfl | rfl | rfl | rfl <;> rfl⟩
def pI : Option Pt → Int
  | some (.sub i _) => i
  | _ => 0
def pN : Option Pt → Int
  | some (.sub _ t) => t.n
  | _ => 0
def pK : Option Pt → Int
  | some (.one k _) => k
  | _ => 0
def pV : Option Pt → Int
  | some (.one _ v) => v
  | _ => 0
def pS : Option Pt → Bool
  | some (.one _ _) => true
  | _ => false
def topP (P : List Pt) : Option Pt := P.getLast?
theorem pts_at {l : List Pt} {k : Nat} {x : Pt} (h : l[k]? = some x) : (pts l)[k]? = some [.int .u32 (pI (some x)), .int .i64 (pN (some x)), .int .i64 (pK (some x)), .int .i64 (pV (some x)), .bool (pS (some x))] := by
  cases x <;> simp [pts, h, ptC, pI, pN, pK, pV, pS]
def ptL : Pt → Kvs
  | .sub _ t => t.ls
  | .one k v => [(k, v)]
def rem (P : List Pt) : Kvs := (P.reverse.map ptL).flatten
theorem rem_snoc (P : List Pt) (x : Pt) : rem (P ++ [x]) = ptL x ++ rem P := by simp [rem]
def ptW : Pt → Nat
  | .sub _ t => 3 * t.n
  | .one _ _ => 1
def wgt (P : List Pt) : Nat := (P.map ptW).sum
theorem wgt_snoc (P : List Pt) (x : Pt) : wgt (P ++ [x]) = wgt P + ptW x := by simp [wgt]
def PtOk (A : AM) : Pt → Prop
  | .sub i t => Is A t i ∧ i ≠ 0
  | .one _ _ => True
structure PsOk (A : AM) (P : List Pt) : Prop where
  ok : ∀ x ∈ P, PtOk A x
theorem PsOk.app {A : AM} {P : List Pt} (h : PsOk A P) {x : Pt} (hx : PtOk A x) : PsOk A (P ++ [x]) := ⟨fun y hy => by
  rcases List.mem_append.1 hy with hy | hy
  · exact h.ok y hy
  · rw [List.mem_singleton.1 hy]; exact hx⟩
theorem PsOk.sub {A : AM} {P Q : List Pt} (h : PsOk A (P ++ Q)) : PsOk A P := ⟨fun y hy => h.ok y (List.mem_append_left _ hy)⟩
def pushP (P : List Pt) (i : Int) (t : Tr) : List Pt := if i = 0 then P else P ++ [.sub i t]
theorem pushP_rem {A : AM} {P : List Pt} {i : Int} {t : Tr} (h : Is A t i) : rem (pushP P i t) = t.ls ++ rem P := by
  unfold pushP
  split
  · rename_i e; rw [(Is.nil_iff h).1 e]; rfl
  · rw [rem_snoc]; rfl
theorem pushP_wgt {A : AM} {P : List Pt} {i : Int} {t : Tr} (h : Is A t i) : wgt (pushP P i t) = wgt P + 3 * t.n := by
  unfold pushP
  split
  · rename_i e; rw [(Is.nil_iff h).1 e]; rfl
  · rw [wgt_snoc]; rfl
theorem pushP_ok {A : AM} {P : List Pt} {i : Int} {t : Tr} (hP : PsOk A P) (h : Is A t i) : PsOk A (pushP P i t) := by
  unfold pushP
  split
  · exact hP
  · rename_i e; exact hP.app ⟨h, e⟩
theorem pushP_len (P : List Pt) (i : Int) (t : Tr) : (pushP P i t).length ≤ P.length + 1 := by
  unfold pushP; split <;> simp
def expP (P : List Pt) (A : AM) (i k v : Int) (l r : Tr) : List Pt := pushP (pushP P (A.nd i).rg r ++ [.one k v]) (A.nd i).lf l
theorem expP_rem {A : AM} {P : List Pt} {i k v : Int} {l r : Tr} (h : Is A (.node l k v r) i) : rem (expP P A i k v l r) = (Tr.node l k v r).ls ++ rem P := by
  unfold expP
  rw [pushP_rem h.2.2.2.2.1, rem_snoc, pushP_rem h.2.2.2.2.2]
  simp [ptL, Tr.ls]
theorem expP_wgt {A : AM} {P : List Pt} {i k v : Int} {l r : Tr} (h : Is A (.node l k v r) i) : wgt (expP P A i k v l r) + 2 = wgt P + ptW (.sub i (.node l k v r)) := by
  unfold expP
  rw [pushP_wgt h.2.2.2.2.1, wgt_snoc, pushP_wgt h.2.2.2.2.2]
  simp only [ptW, Tr.n]; omega
theorem expP_ok {A : AM} {P : List Pt} {i k v : Int} {l r : Tr} (hP : PsOk A P) (h : Is A (.node l k v r) i) : PsOk A (expP P A i k v l r) :=
  pushP_ok ((pushP_ok hP h.2.2.2.2.2).app trivial) h.2.2.2.2.1
theorem wgt_len {A : AM} : ∀ {P : List Pt}, PsOk A P → P.length ≤ wgt P
  | [], _ => by simp
  | x :: P, h => by
    have ih := wgt_len (A := A) (P := P) ⟨fun y hy => h.ok y (List.mem_cons_of_mem _ hy)⟩
    have hx := h.ok x (List.mem_cons_self ..)
    have h1 : 1 ≤ ptW x := by
      cases x with
      | one => simp [ptW]
      | sub i t =>
        have : t ≠ .nil := fun e => hx.2 ((Is.nil_iff hx.1).2 e)
        cases t with
        | nil => exact absurd rfl this
        | node => simp only [ptW, Tr.n]; omega
    simp only [wgt, List.map_cons, List.sum_cons, List.length_cons] at ih ⊢
    omega
abbrev Chg := Int × Int × Int × Int
def dif : Kvs → Kvs → List Chg
  | [], [] => []
  | [], (k, w) :: r => (1, k, 0, w) :: dif [] r
  | (k, v) :: l, [] => (2, k, v, 0) :: dif l []
  | (k, v) :: l, (k', w) :: r => if k < k' then (2, k, v, 0) :: dif l ((k', w) :: r) else if k' < k then (1, k', 0, w) :: dif ((k, v) :: l) r else if v ≠ w then (3, k, v, w) :: dif l r else dif l r
termination_by l r => l.length + r.length
theorem dif_common (l r : Kvs) : ∀ c : Kvs, dif (c ++ l) (c ++ r) = dif l r
  | [] => rfl
  | (k, v) :: c => by
    rw [List.cons_append, List.cons_append, dif, if_neg (by omega), if_neg (by omega), if_neg (by simp)]
    exact dif_common l r c
theorem dif_keys (l r : Kvs) : ∀ c ∈ dif l r, (∃ x ∈ l, x.1 = c.2.1) ∨ ∃ x ∈ r, x.1 = c.2.1 := by
  fun_induction dif l r
  case case1 => intro c hc; cases hc
  case case2 k w r ih =>
    intro c hc
    rcases List.mem_cons.1 hc with rfl | hc
    · exact .inr ⟨(k, w), by simp, rfl⟩
    · rcases ih c hc with ⟨x, hx, _⟩ | ⟨x, hx, e⟩
      · cases hx
      · exact .inr ⟨x, List.mem_cons_of_mem _ hx, e⟩
  case case3 k v l ih =>
    intro c hc
    rcases List.mem_cons.1 hc with rfl | hc
    · exact .inl ⟨(k, v), by simp, rfl⟩
    · rcases ih c hc with ⟨x, hx, e⟩ | ⟨x, hx, _⟩
      · exact .inl ⟨x, List.mem_cons_of_mem _ hx, e⟩
      · cases hx
  case case4 k v l k' w r h ih =>
    intro c hc
    rcases List.mem_cons.1 hc with rfl | hc
    · exact .inl ⟨(k, v), by simp, rfl⟩
    · rcases ih c hc with ⟨x, hx, e⟩ | h
      · exact .inl ⟨x, List.mem_cons_of_mem _ hx, e⟩
      · exact .inr h
  case case5 k v l k' w r h1 h2 ih =>
    intro c hc
    rcases List.mem_cons.1 hc with rfl | hc
    · exact .inr ⟨(k', w), by simp, rfl⟩
    · rcases ih c hc with h | ⟨x, hx, e⟩
      · exact .inl h
      · exact .inr ⟨x, List.mem_cons_of_mem _ hx, e⟩
  case case6 k v l k' w r h1 h2 h3 ih =>
    intro c hc
    rcases List.mem_cons.1 hc with rfl | hc
    · exact .inl ⟨(k, v), by simp, rfl⟩
    · rcases ih c hc with ⟨x, hx, e⟩ | ⟨x, hx, e⟩
      · exact .inl ⟨x, List.mem_cons_of_mem _ hx, e⟩
      · exact .inr ⟨x, List.mem_cons_of_mem _ hx, e⟩
  case case7 k v l k' w r h1 h2 h3 ih =>
    intro c hc
    rcases ih c hc with ⟨x, hx, e⟩ | ⟨x, hx, e⟩
    · exact .inl ⟨x, List.mem_cons_of_mem _ hx, e⟩
    · exact .inr ⟨x, List.mem_cons_of_mem _ hx, e⟩
def inR (lo hi : Int) (l : List Chg) : List Chg := l.filter fun c => decide (lo ≤ c.2.1 ∧ c.2.1 ≤ hi)
theorem inR_nil {lo hi : Int} {l r : Kvs} (h1 : ∀ x ∈ l, hi < x.1) (h2 : ∀ x ∈ r, hi < x.1) : inR lo hi (dif l r) = [] := by
  refine List.filter_eq_nil_iff.2 fun c hc => ?_
  rcases dif_keys l r c hc with ⟨x, hx, e⟩ | ⟨x, hx, e⟩
  · have := h1 x hx; simp; omega
  · have := h2 x hx; simp; omega
def pChg (k v w : Int) (il ir : Bool) : Option Chg := if il = false then some (1, k, 0, w) else if ir = false then some (2, k, v, 0) else if v ≠ w then some (3, k, v, w) else none
def oneR (lo hi : Int) (c : Option Chg) : List Chg := match c with
  | some c => if lo ≤ c.2.1 ∧ c.2.1 ≤ hi then [c] else []
  | none => []
def goOn (hi : Int) (c : Option Chg) : Bool := match c with
  | some c => decide (c.2.1 < hi)
  | none => true
theorem inR_cons (lo hi : Int) (c : Chg) (l : List Chg) : inR lo hi (c :: l) = oneR lo hi (some c) ++ inR lo hi l := by
  unfold inR oneR
  by_cases h : lo ≤ c.2.1 ∧ c.2.1 ≤ hi
  · rw [List.filter_cons_of_pos (by simpa using h)]; simp [h]
  · rw [List.filter_cons_of_neg (by simpa using h)]; simp [h]
theorem Is.fn {A : AM} : ∀ {t u : Tr} {i : Int}, Is A t i → Is A u i → t = u
  | .nil, .nil, _, _, _ => rfl
  | .nil, .node _ _ _ _, _, h, k => absurd k.1 (by rw [show _ = (0 : Int) from h]; omega)
  | .node _ _ _ _, .nil, _, h, k => absurd h.1 (by rw [show _ = (0 : Int) from k]; omega)
  | .node _ _ _ _, .node _ _ _ _, _, ⟨_, _, h3, h4, h5, h6⟩, ⟨_, _, k3, k4, k5, k6⟩ => by
    rw [Is.fn h5 k5, Is.fn h6 k6, ← h3, ← h4, ← k3, ← k4]
theorem top_split {P : List Pt} {q : Pt} (h : topP P = some q) : P = P.dropLast ++ [q] := by
  have hne : P ≠ [] := fun e => by subst e; cases h
  have h2 : P.getLast hne = q := by
    unfold topP at h
    rw [List.getLast?_eq_some_getLast hne] at h
    exact Option.some.inj h
  rw [← h2]; exact (List.dropLast_concat_getLast hne).symm
theorem top_none {P : List Pt} (h : (topP P).isSome = false) : P = [] := by
  cases ht : topP P with
  | none => exact List.getLast?_eq_none_iff.1 ht
  | some q => rw [ht] at h; cases h
theorem top_ne {P : List Pt} (h : (topP P).isSome = true) : P ≠ [] := fun e => by subst e; cases h
theorem top_sub {P : List Pt} (h : (topP P).isSome = true) (hs : pS (topP P) = false) : ∃ i t, topP P = some (.sub i t) := by
  cases ht : topP P with
  | none => rw [ht] at h; cases h
  | some q =>
    cases q with
    | sub i t => exact ⟨i, t, rfl⟩
    | one k v => rw [ht] at hs; cases hs
theorem top_one {P : List Pt} (h : (topP P).isSome = true) (hs : pS (topP P) = true) : P = P.dropLast ++ [.one (pK (topP P)) (pV (topP P))] ∧ rem P = (pK (topP P), pV (topP P)) :: rem P.dropLast ∧ wgt P = wgt P.dropLast + 1 := by
  cases ht : topP P with
  | none => rw [ht] at h; cases h
  | some q =>
    cases q with
    | sub i t => rw [ht] at hs; cases hs
    | one k v =>
      have h1 := top_split ht
      refine ⟨h1, ?_, ?_⟩
      · show rem P = (k, v) :: rem P.dropLast
        have e := congrArg rem h1
        rw [rem_snoc] at e; exact e
      · have e := congrArg wgt h1
        rw [wgt_snoc] at e; exact e
structure Pv (A : AM) (lo hi : Int) (F : List Chg) (m : Nat) (PL PR : List Pt) (out : List Chg) : Prop where
  oL : PsOk A PL
  oR : PsOk A PR
  sL : Srt (rem PL)
  sR : Srt (rem PR)
  d : out ++ inR lo hi (dif (rem PL) (rem PR)) = F
  w : out.length + wgt PL + wgt PR ≤ m
section
variable {A : AM} {lo hi : Int} {F : List Chg} {m : Nat} {PL PR : List Pt} {out : List Chg}
theorem PsOk.top {P : List Pt} {q : Pt} (h : PsOk A P) (ht : topP P = some q) : PtOk A q ∧ PsOk A P.dropLast := by
  have h1 := top_split ht
  refine ⟨h.ok q (by rw [h1]; simp), ⟨fun y hy => h.ok y ((List.dropLast_sublist _).subset hy)⟩⟩
theorem Pv.both (h : Pv A lo hi F m PL PR out) {i : Int} {t u : Tr} (hl : topP PL = some (.sub i t)) (hr : topP PR = some (.sub i u)) : Pv A lo hi F m PL.dropLast PR.dropLast out ∧ wgt PL.dropLast + wgt PR.dropLast < wgt PL + wgt PR := by
  obtain ⟨a1, a2⟩ := h.oL.top hl
  obtain ⟨b1, b2⟩ := h.oR.top hr
  have e : t = u := Is.fn a1.1 b1.1
  subst e
  have e1 := congrArg rem (top_split hl)
  have e2 := congrArg rem (top_split hr)
  have w1 := congrArg wgt (top_split hl)
  have w2 := congrArg wgt (top_split hr)
  rw [rem_snoc] at e1 e2
  rw [wgt_snoc] at w1 w2
  have h1 := h.sL
  have h2 := h.sR
  have h3 := h.d
  rw [e1] at h1 h3
  rw [e2] at h2 h3
  have hw : 1 ≤ ptW (.sub i t) := by
    have : t ≠ .nil := fun e => a1.2 ((Is.nil_iff a1.1).2 e)
    cases t with
    | nil => exact absurd rfl this
    | node => simp only [ptW, Tr.n]; omega
  refine ⟨⟨a2, b2, (Srt.app h1).2.1, (Srt.app h2).2.1, by rw [← h3, dif_common], by have := h.w; omega⟩, by omega⟩
theorem Pv.expL (h : Pv A lo hi F m PL PR out) {i : Int} {t : Tr} (hl : topP PL = some (.sub i t)) : ∃ k z tl tr, topP PL = some (.sub i (.node tl k z tr)) ∧ Is A (.node tl k z tr) i ∧ Pv A lo hi F m (expP PL.dropLast A i k z tl tr) PR out ∧ wgt (expP PL.dropLast A i k z tl tr) < wgt PL := by
  obtain ⟨a1, a2⟩ := h.oL.top hl
  have e1 := congrArg rem (top_split hl)
  have w1 := congrArg wgt (top_split hl)
  rw [rem_snoc] at e1
  rw [wgt_snoc] at w1
  cases t with
  | nil => exact absurd a1.1 a1.2
  | node tl k z tr =>
    have r1 := expP_rem (P := PL.dropLast) a1.1
    have r2 := expP_wgt (P := PL.dropLast) a1.1
    refine ⟨k, z, tl, tr, hl, a1.1, ⟨expP_ok a2 a1.1, h.oR, by rw [r1]; have := h.sL; rw [e1] at this; exact this, h.sR, by rw [r1]; have := h.d; rw [e1] at this; exact this, by have := h.w; omega⟩, by omega⟩
theorem Pv.expR (h : Pv A lo hi F m PL PR out) {i : Int} {t : Tr} (hl : topP PR = some (.sub i t)) : ∃ k z tl tr, topP PR = some (.sub i (.node tl k z tr)) ∧ Is A (.node tl k z tr) i ∧ Pv A lo hi F m PL (expP PR.dropLast A i k z tl tr) out ∧ wgt (expP PR.dropLast A i k z tl tr) < wgt PR := by
  obtain ⟨a1, a2⟩ := h.oR.top hl
  have e1 := congrArg rem (top_split hl)
  have w1 := congrArg wgt (top_split hl)
  rw [rem_snoc] at e1
  rw [wgt_snoc] at w1
  cases t with
  | nil => exact absurd a1.1 a1.2
  | node tl k z tr =>
    have r1 := expP_rem (P := PR.dropLast) a1.1
    have r2 := expP_wgt (P := PR.dropLast) a1.1
    refine ⟨k, z, tl, tr, hl, a1.1, ⟨h.oL, expP_ok a2 a1.1, h.sL, by rw [r1]; have := h.sR; rw [e1] at this; exact this, by rw [r1]; have := h.d; rw [e1] at this; exact this, by have := h.w; omega⟩, by omega⟩
theorem Pv.done (h : Pv A lo hi F m [] [] out) : out = F := by
  have := h.d
  rw [show rem [] = [] from rfl, dif] at this
  simpa [inR] using this
theorem Pv.go (h : Pv A lo hi F m PL PR out) {PL2 PR2 : List Pt} {k v w : Int} {il ir : Bool} (oL : PsOk A PL2) (oR : PsOk A PR2) (sL : Srt (rem PL2)) (sR : Srt (rem PR2))
    (hd : dif (rem PL) (rem PR) = (pChg k v w il ir).toList ++ dif (rem PL2) (rem PR2)) (hw : wgt PL2 + wgt PR2 + 1 ≤ wgt PL + wgt PR) (g1 : ∀ x ∈ rem PL2, k < x.1) (g2 : ∀ x ∈ rem PR2, k < x.1) (hk : ∀ c, pChg k v w il ir = some c → c.2.1 = k) :
    (goOn hi (pChg k v w il ir) = true → Pv A lo hi F m PL2 PR2 (out ++ oneR lo hi (pChg k v w il ir))) ∧ wgt PL2 + wgt PR2 < wgt PL + wgt PR ∧ (goOn hi (pChg k v w il ir) = false → out ++ oneR lo hi (pChg k v w il ir) = F) := by
  have h1 := h.d
  rw [hd] at h1
  have hol : (oneR lo hi (pChg k v w il ir)).length ≤ 1 := by
    unfold oneR
    split
    · split <;> simp
    · simp
  have h2 : inR lo hi ((pChg k v w il ir).toList ++ dif (rem PL2) (rem PR2)) = oneR lo hi (pChg k v w il ir) ++ inR lo hi (dif (rem PL2) (rem PR2)) := by
    cases hc : pChg k v w il ir with
    | none => rfl
    | some c => exact inR_cons lo hi c _
  rw [h2, ← List.append_assoc] at h1
  refine ⟨fun _ => ⟨oL, oR, sL, sR, h1, by have := h.w; rw [List.length_append]; omega⟩, by omega, fun hg => ?_⟩
  rw [← h1]
  cases hc : pChg k v w il ir with
  | none => rw [hc] at hg; cases hg
  | some c =>
    rw [hc] at hg
    have hck := hk c hc
    have hh : hi ≤ k := by simp [goOn] at hg; omega
    rw [inR_nil (fun x hx => by have := g1 x hx; omega) (fun x hx => by have := g2 x hx; omega), List.append_nil]
theorem pChg_key {k v w : Int} {il ir : Bool} : ∀ c, pChg k v w il ir = some c → c.2.1 = k := fun c hc => by
  unfold pChg at hc
  split at hc
  · cases hc; rfl
  · split at hc
    · cases hc; rfl
    · split at hc
      · cases hc; rfl
      · cases hc
theorem Pv.vLR (h : Pv A lo hi F m PL PR out) (l1 : (topP PL).isSome = true) (l2 : pS (topP PL) = true) (r1 : (topP PR).isSome = true) (r2 : pS (topP PR) = true) (hk : pK (topP PL) = pK (topP PR)) {k v w : Int} (e1 : k = pK (topP PR)) (e2 : v = pV (topP PL)) (e3 : w = pV (topP PR)) :
    (goOn hi (pChg k v w true true) = true → Pv A lo hi F m PL.dropLast PR.dropLast (out ++ oneR lo hi (pChg k v w true true))) ∧ wgt PL.dropLast + wgt PR.dropLast < wgt PL + wgt PR ∧ (goOn hi (pChg k v w true true) = false → out ++ oneR lo hi (pChg k v w true true) = F) := by
  obtain ⟨a1, a2, a3⟩ := top_one l1 l2
  obtain ⟨b1, b2, b3⟩ := top_one r1 r2
  have s1 := h.sL
  have s2 := h.sR
  rw [a2] at s1
  rw [b2] at s2
  obtain ⟨s3, s4⟩ := List.pairwise_cons.1 s1
  obtain ⟨s5, s6⟩ := List.pairwise_cons.1 s2
  refine h.go ⟨fun y hy => h.oL.ok y ((List.dropLast_sublist _).subset hy)⟩ ⟨fun y hy => h.oR.ok y ((List.dropLast_sublist _).subset hy)⟩ s4 s6 ?_ (by omega) (fun x hx => by rw [e1, ← hk]; exact s3 x hx) (fun x hx => by rw [e1]; exact s5 x hx) pChg_key
  have hp : pChg k v w true true = if v ≠ w then some (3, k, v, w) else none := by unfold pChg; rw [if_neg (by simp), if_neg (by simp)]
  rw [hp, a2, b2, hk, dif, if_neg (by omega), if_neg (by omega), e1, e2, e3]
  by_cases hvw : pV (topP PL) ≠ pV (topP PR)
  · rw [if_pos hvw, if_pos hvw]; rfl
  · rw [if_neg hvw, if_neg hvw]; rfl
theorem Pv.vL (h : Pv A lo hi F m PL PR out) (l1 : (topP PL).isSome = true) (l2 : pS (topP PL) = true) (hr : (topP PR).isSome = true → pS (topP PR) = true ∧ pK (topP PL) < pK (topP PR)) {k v w : Int} (e1 : k = pK (topP PL)) (e2 : v = pV (topP PL)) :
    (goOn hi (pChg k v w true false) = true → Pv A lo hi F m PL.dropLast PR (out ++ oneR lo hi (pChg k v w true false))) ∧ wgt PL.dropLast + wgt PR < wgt PL + wgt PR ∧ (goOn hi (pChg k v w true false) = false → out ++ oneR lo hi (pChg k v w true false) = F) := by
  obtain ⟨a1, a2, a3⟩ := top_one l1 l2
  have s1 := h.sL
  rw [a2] at s1
  obtain ⟨s3, s4⟩ := List.pairwise_cons.1 s1
  have hg : ∀ x ∈ rem PR, k < x.1 := fun x hx => by
    cases ht : (topP PR).isSome with
    | false => rw [top_none ht] at hx; cases hx
    | true =>
      obtain ⟨h1, h2⟩ := hr ht
      obtain ⟨_, b2, _⟩ := top_one ht h1
      have s2 := h.sR
      rw [b2] at s2 hx
      rcases List.mem_cons.1 hx with rfl | hx
      · rw [e1]; exact h2
      · have := (List.pairwise_cons.1 s2).1 x hx
        rw [e1]
        exact Int.lt_trans h2 this
  refine h.go ⟨fun y hy => h.oL.ok y ((List.dropLast_sublist _).subset hy)⟩ h.oR s4 h.sR ?_ (by omega) (fun x hx => by rw [e1]; exact s3 x hx) hg pChg_key
  rw [a2]
  have hp : pChg k v w true false = some (2, k, v, 0) := by unfold pChg; rw [if_neg (by simp), if_pos rfl]
  rw [hp, e1, e2]
  cases hq : rem PR with
  | nil => rw [dif]; rfl
  | cons x r =>
    obtain ⟨x1, x2⟩ := x
    have := hg (x1, x2) (by rw [hq]; simp)
    rw [dif, if_pos (by rw [← e1]; exact this)]; rfl
theorem Pv.vR (h : Pv A lo hi F m PL PR out) (r1 : (topP PR).isSome = true) (r2 : pS (topP PR) = true) (hl : (topP PL).isSome = true → pS (topP PL) = true ∧ pK (topP PR) < pK (topP PL)) {k v w : Int} (e1 : k = pK (topP PR)) (e3 : w = pV (topP PR)) :
    (goOn hi (pChg k v w false true) = true → Pv A lo hi F m PL PR.dropLast (out ++ oneR lo hi (pChg k v w false true))) ∧ wgt PL + wgt PR.dropLast < wgt PL + wgt PR ∧ (goOn hi (pChg k v w false true) = false → out ++ oneR lo hi (pChg k v w false true) = F) := by
  obtain ⟨b1, b2, b3⟩ := top_one r1 r2
  have s2 := h.sR
  rw [b2] at s2
  obtain ⟨s5, s6⟩ := List.pairwise_cons.1 s2
  have hg : ∀ x ∈ rem PL, k < x.1 := fun x hx => by
    cases ht : (topP PL).isSome with
    | false => rw [top_none ht] at hx; cases hx
    | true =>
      obtain ⟨h1, h2⟩ := hl ht
      obtain ⟨_, a2, _⟩ := top_one ht h1
      have s1 := h.sL
      rw [a2] at s1 hx
      rcases List.mem_cons.1 hx with rfl | hx
      · rw [e1]; exact h2
      · have := (List.pairwise_cons.1 s1).1 x hx
        rw [e1]
        exact Int.lt_trans h2 this
  refine h.go h.oL ⟨fun y hy => h.oR.ok y ((List.dropLast_sublist _).subset hy)⟩ h.sL s6 ?_ (by omega) hg (fun x hx => by rw [e1]; exact s5 x hx) pChg_key
  rw [b2]
  have hp : pChg k v w false true = some (1, k, 0, w) := by unfold pChg; rw [if_pos rfl]
  rw [hp, e1, e3]
  cases hq : rem PL with
  | nil => rw [dif]; rfl
  | cons x r =>
    obtain ⟨x1, x2⟩ := x
    have := hg (x1, x2) (by rw [hq]; simp)
    rw [dif, if_neg (by rw [e1] at this; exact Int.not_lt.2 (Int.le_of_lt this)), if_pos (by rw [← e1]; exact this)]; rfl
end
theorem b_both {a b sl sr : Bool} {p : Prop} [Decidable p] (h : (bif (bif (bif (bif a then b else false) then (!sl) else false) then (!sr) else false) then decide p else false) = true) : a = true ∧ b = true ∧ sl = false ∧ sr = false ∧ p := by
  cases a <;> cases b <;> cases sl <;> cases sr <;> simp_all
theorem b_left {a b sl sr : Bool} {p : Prop} [Decidable p] (h : (bif (bif a then (!sl) else false) then (bif (bif (!b) then true else sr) then true else decide p) else false) = true) : a = true ∧ sl = false := by
  cases a <;> cases sl <;> simp_all
theorem b_right {b sr : Bool} (h : (bif b then (!sr) else false) = true) : b = true ∧ sr = false := by
  cases b <;> cases sr <;> simp_all
theorem b_ones {a b sl sr : Bool} {p : Prop} [Decidable p] (h1 : (bif (!a) then (!b) else false) = false) (h3 : (bif (bif a then (!sl) else false) then (bif (bif (!b) then true else sr) then true else decide p) else false) = false) (h4 : (bif b then (!sr) else false) = false) : (a = true → sl = true) ∧ (b = true → sr = true) ∧ (a = false → b = true) := by
  cases a <;> cases b <;> cases sl <;> cases sr <;> simp_all
end Go.V
/-! ## Dfk -/
namespace Go.V
open Go
theorem lget_cons (z k v : Int) (l : Kvs) : lget z ((k, v) :: l) = if k = z then some v else lget z l := by
  unfold lget
  rw [List.find?_cons]
  by_cases h : k = z
  · rw [if_pos h, decide_eq_true h]; rfl
  · rw [if_neg h, decide_eq_false h]
theorem lget_low {z k v : Int} {l : Kvs} (hs : Srt ((k, v) :: l)) (h : z ≤ k) : lget z l = none := lget_none fun x hx => by
  have h9 : k < x.1 := (List.pairwise_cons.1 hs).1 x hx
  omega
theorem dif_get : ∀ (l r : Kvs), Srt l → Srt r → ∀ z, (∃ c ∈ dif l r, c.2.1 = z) ↔ lget z l ≠ lget z r
  | [], [], _, _, z => by rw [dif]; simp
  | [], (k, w) :: r, hl, hr, z => by
    have ih := dif_get [] r hl (List.pairwise_cons.1 hr).2 z
    rw [dif, lget_cons]
    by_cases h : k = z
    · rw [if_pos h]; exact ⟨fun _ e => (by cases e), fun _ => ⟨_, List.mem_cons_self .., h⟩⟩
    · rw [if_neg h, ← ih]
      constructor
      · rintro ⟨c, hc, e⟩
        rcases List.mem_cons.1 hc with rfl | hc
        · exact absurd e h
        · exact ⟨c, hc, e⟩
      · rintro ⟨c, hc, e⟩; exact ⟨c, List.mem_cons_of_mem _ hc, e⟩
  | (k, v) :: l, [], hl, hr, z => by
    have ih := dif_get l [] (List.pairwise_cons.1 hl).2 hr z
    rw [dif, lget_cons]
    by_cases h : k = z
    · rw [if_pos h]; exact ⟨fun _ e => (by cases e), fun _ => ⟨_, List.mem_cons_self .., h⟩⟩
    · rw [if_neg h, ← ih]
      constructor
      · rintro ⟨c, hc, e⟩
        rcases List.mem_cons.1 hc with rfl | hc
        · exact absurd e h
        · exact ⟨c, hc, e⟩
      · rintro ⟨c, hc, e⟩; exact ⟨c, List.mem_cons_of_mem _ hc, e⟩
  | (k, v) :: l, (k', w) :: r, hl, hr, z => by
    have h1 := (List.pairwise_cons.1 hl).2
    have h2 := (List.pairwise_cons.1 hr).2
    rw [dif]
    have hstep : ∀ {c0 : Chg} {D : List Chg}, c0.2.1 ≠ z → ((∃ c ∈ c0 :: D, c.2.1 = z) ↔ ∃ c ∈ D, c.2.1 = z) := fun {c0 D} hne => by
      constructor
      · rintro ⟨c, hc, e⟩
        rcases List.mem_cons.1 hc with rfl | hc
        · exact absurd e hne
        · exact ⟨c, hc, e⟩
      · rintro ⟨c, hc, e⟩; exact ⟨c, List.mem_cons_of_mem _ hc, e⟩
    split
    · rename_i hlt
      have ih := dif_get l ((k', w) :: r) h1 hr z
      by_cases h : k = z
      · subst h
        rw [lget_cons, if_pos rfl, lget_cons, if_neg (by omega), lget_low hr (by omega)]
        exact ⟨fun _ e => (by cases e), fun _ => ⟨_, List.mem_cons_self .., rfl⟩⟩
      · rw [hstep h, ih, lget_cons z k v l, if_neg h]
    · split
      · rename_i hlt hgt
        have ih := dif_get ((k, v) :: l) r hl h2 z
        by_cases h : k' = z
        · subst h
          rw [lget_cons k' k' w, if_pos rfl, lget_cons, if_neg (by omega), lget_low hl (by omega)]
          exact ⟨fun _ e => (by cases e), fun _ => ⟨_, List.mem_cons_self .., rfl⟩⟩
        · rw [hstep h, ih, lget_cons z k' w r, if_neg h]
      · rename_i hlt hgt
        have hk : k' = k := by omega
        subst hk
        have ih := dif_get l r h1 h2 z
        split
        · rename_i hvw
          by_cases h : k' = z
          · subst h
            rw [lget_cons, if_pos rfl, lget_cons, if_pos rfl]
            exact ⟨fun _ e => hvw (Option.some.inj e), fun _ => ⟨_, List.mem_cons_self .., rfl⟩⟩
          · rw [hstep h, ih, lget_cons z k' v, if_neg h, lget_cons z k' w, if_neg h]
        · rename_i hvw
          have hvw : v = w := Classical.not_not.1 hvw
          subst hvw
          rw [ih, lget_cons z k' v l, lget_cons z k' v r]
          by_cases h : k' = z
          · rw [if_pos h, if_pos h, lget_low hl (by omega), lget_low hr (by omega)]
            exact ⟨fun e => absurd rfl e, fun e => absurd rfl e⟩
          · rw [if_neg h, if_neg h]
  termination_by l r => l.length + r.length
theorem inR_one {l r : Kvs} (hl : Srt l) (hr : Srt r) (k : Int) : inR k k (dif l r) = [] ↔ lget k l = lget k r := by
  have h := dif_get l r hl hr k
  unfold inR
  rw [List.filter_eq_nil_iff]
  constructor
  · intro h1
    refine Classical.not_not.1 fun hn => ?_
    obtain ⟨c, hc, e⟩ := h.2 hn
    exact h1 c hc (by simp; omega)
  · intro h1 c hc h2
    have h3 : k ≤ c.2.1 ∧ c.2.1 ≤ k := by simpa using h2
    exact h.1 ⟨c, hc, by omega⟩ h1
theorem lget_lins {k v : Int} {l : Kvs} (hs : Srt l) (z : Int) : lget z (lins k v l) = if z = k then some v else lget z l := by
  have h := lins_srt (k := k) (v := v) hs
  have hm : ∀ y, (z, y) ∈ lins k v l ↔ (z = k ∧ y = v) ∨ (z ≠ k ∧ (z, y) ∈ l) := fun y => by
    unfold lins
    rw [List.mem_append, List.mem_cons, List.mem_filter, List.mem_filter, decide_eq_true_iff, decide_eq_true_iff, Prod.mk.injEq]
    constructor
    · rintro (⟨h1, h2⟩ | h | ⟨h1, h2⟩)
      · exact .inr ⟨Int.ne_of_lt h2, h1⟩
      · exact .inl h
      · exact .inr ⟨Int.ne_of_gt h2, h1⟩
    · rintro (h | ⟨h1, h2⟩)
      · exact .inr (.inl h)
      · rcases Int.lt_or_gt_of_ne h1 with h3 | h3
        · exact .inl ⟨h2, h3⟩
        · exact .inr (.inr ⟨h2, h3⟩)
  by_cases hz : z = k
  · rw [if_pos hz]; exact (lget_some h).2 ((hm v).2 (.inl ⟨hz, rfl⟩))
  · rw [if_neg hz]
    cases hc : lget z l with
    | some y => exact (lget_some h).2 ((hm y).2 (.inr ⟨hz, (lget_some hs).1 hc⟩))
    | none =>
      cases hd : lget z (lins k v l) with
      | none => rfl
      | some y =>
        rcases (hm y).1 ((lget_some h).1 hd) with h1 | h1
        · exact absurd h1.1 hz
        · rw [(lget_some hs).2 h1.2] at hc; cases hc
end Go.V
/-! ## Pm -/
namespace Go.V
open Go Go.RowKit Go.Maps Go.Sort
section
variable {α β : Type}
def pSrt (M : List (Int × β)) : Prop := M.Pairwise fun a b => a.1 < b.1
def pget (k : Int) (M : List (Int × β)) : Option β := (M.find? fun x => decide (x.1 = k)).map (·.2)
def pput (k : Int) (y : β) (M : List (Int × β)) : List (Int × β) := M.filter (fun x => decide (x.1 < k)) ++ (k, y) :: M.filter (fun x => decide (k < x.1))
def pdel (k : Int) (M : List (Int × β)) : List (Int × β) := M.filter fun x => decide (x.1 ≠ k)
theorem pput_srt {k : Int} {y : β} {M : List (Int × β)} (h : pSrt M) : pSrt (pput k y M) := by
  unfold pput
  refine List.pairwise_append.2 ⟨h.sublist List.filter_sublist, List.pairwise_cons.2 ⟨fun y hy => ?_, h.sublist List.filter_sublist⟩, fun x hx y hy => ?_⟩
  · exact of_decide_eq_true (List.mem_filter.1 hy).2
  · have h1 := of_decide_eq_true (List.mem_filter.1 hx).2
    rcases List.mem_cons.1 hy with rfl | hy
    · exact h1
    · have h2 := of_decide_eq_true (List.mem_filter.1 hy).2
      omega
theorem pdel_srt {k : Int} {M : List (Int × β)} (h : pSrt M) : pSrt (pdel k M) := h.sublist List.filter_sublist
theorem pput_mem {k : Int} {y : β} {M : List (Int × β)} (x : Int × β) : x ∈ pput k y M ↔ x = (k, y) ∨ (x ∈ M ∧ x.1 ≠ k) := by
  unfold pput
  rw [List.mem_append, List.mem_cons, List.mem_filter, List.mem_filter, decide_eq_true_iff, decide_eq_true_iff]
  constructor
  · rintro (⟨h1, h2⟩ | h | ⟨h1, h2⟩)
    · exact .inr ⟨h1, by omega⟩
    · exact .inl h
    · exact .inr ⟨h1, by omega⟩
  · rintro (h | ⟨h1, h2⟩)
    · exact .inr (.inl h)
    · by_cases h3 : x.1 < k
      · exact .inl ⟨h1, h3⟩
      · exact .inr (.inr ⟨h1, by omega⟩)
theorem pdel_mem {k : Int} {M : List (Int × β)} (x : Int × β) : x ∈ pdel k M ↔ x ∈ M ∧ x.1 ≠ k := by
  unfold pdel; rw [List.mem_filter, decide_eq_true_iff]
theorem pSrt.nodup {M : List (Int × β)} (h : pSrt M) : M.Nodup := h.imp fun {a b} h e => by rw [e] at h; omega
theorem pget_some {k : Int} {M : List (Int × β)} (hs : pSrt M) {y : β} : pget k M = some y ↔ (k, y) ∈ M := by
  unfold pget
  constructor
  · intro h
    cases hf : M.find? fun x => decide (x.1 = k) with
    | none => rw [hf] at h; cases h
    | some z =>
      rw [hf] at h
      have h1 : z.1 = k := of_decide_eq_true (List.find?_some (p := fun x : Int × β => decide (x.1 = k)) hf)
      simp only [Option.map_some, Option.some.injEq] at h
      have h2 := List.mem_of_find?_eq_some hf
      rw [← h1, ← h]; exact h2
  · intro h
    induction M with
    | nil => cases h
    | cons x t ih =>
      obtain ⟨h1, h2⟩ := List.pairwise_cons.1 hs
      rw [List.find?_cons]
      rcases List.mem_cons.1 h with rfl | h
      · simp
      · have h3 : x.1 < k := h1 _ h
        rw [decide_eq_false (show ¬ x.1 = k by omega)]
        exact ih h2 h
theorem pget_none {k : Int} {M : List (Int × β)} (h : ∀ x ∈ M, x.1 ≠ k) : pget k M = none := by
  unfold pget
  rw [List.find?_eq_none.2 fun x hx e => h x hx (of_decide_eq_true e)]; rfl
theorem pget_ext {k : Int} {M N : List (Int × β)} (hM : pSrt M) (hN : pSrt N) (h : ∀ y, (k, y) ∈ M ↔ (k, y) ∈ N) : pget k M = pget k N := by
  cases hm : pget k M with
  | some y => exact ((pget_some hN).2 ((h y).1 ((pget_some hM).1 hm))).symm
  | none =>
    cases hn : pget k N with
    | none => rfl
    | some y => rw [(pget_some hM).2 ((h y).2 ((pget_some hN).1 hn))] at hm; cases hm
theorem pget_put {k z : Int} {y : β} {M : List (Int × β)} (h : pSrt M) : pget z (pput k y M) = if z = k then some y else pget z M := by
  by_cases hz : z = k
  · subst hz; rw [if_pos rfl]; exact (pget_some (pput_srt h)).2 ((pput_mem _).2 (.inl rfl))
  · rw [if_neg hz]
    exact pget_ext (pput_srt h) h fun w => by
      rw [pput_mem]
      constructor
      · rintro (h1 | h1)
        · exact absurd (congrArg Prod.fst h1) hz
        · exact h1.1
      · intro h1; exact .inr ⟨h1, hz⟩
theorem pget_del {k z : Int} {M : List (Int × β)} (h : pSrt M) : pget z (pdel k M) = if z = k then none else pget z M := by
  by_cases hz : z = k
  · subst hz; rw [if_pos rfl]; exact pget_none fun x hx => ((pdel_mem x).1 hx).2
  · rw [if_neg hz]
    exact pget_ext (pdel_srt h) h fun w => by
      rw [pdel_mem]
      exact ⟨fun h1 => h1.1, fun h1 => ⟨h1, hz⟩⟩
theorem pSrt.ext : ∀ {M N : List (Int × β)}, pSrt M → pSrt N → (∀ z, pget z M = pget z N) → M = N
  | [], [], _, _, _ => rfl
  | [], (k, y) :: N, _, hN, h => by
    have h1 := h k
    rw [(pget_some hN).2 (List.mem_cons_self ..)] at h1; cases h1
  | (k, y) :: M, [], hM, _, h => by
    have h1 := h k
    rw [(pget_some hM).2 (List.mem_cons_self ..)] at h1; cases h1
  | (k, y) :: M, (j, w) :: N, hM, hN, h => by
    obtain ⟨a1, a2⟩ := List.pairwise_cons.1 hM
    obtain ⟨b1, b2⟩ := List.pairwise_cons.1 hN
    have e1 : (k, y) ∈ (j, w) :: N := (pget_some hN).1 ((h k).symm.trans ((pget_some hM).2 (List.mem_cons_self ..)))
    have e2 : (j, w) ∈ (k, y) :: M := (pget_some hM).1 ((h j).trans ((pget_some hN).2 (List.mem_cons_self ..)))
    have hkj : k = j := by
      rcases List.mem_cons.1 e1 with e | e
      · exact congrArg Prod.fst e
      · rcases List.mem_cons.1 e2 with e' | e'
        · exact (congrArg Prod.fst e').symm
        · have h1 : j < k := b1 _ e
          have h2 : k < j := a1 _ e'
          omega
    subst hkj
    have hy : y = w := by
      rcases List.mem_cons.1 e1 with e | e
      · exact congrArg Prod.snd e
      · have h1 : k < k := b1 _ e
        omega
    subst hy
    rw [pSrt.ext a2 b2 fun z => ?_]
    have h1 := h z
    by_cases hz : z = k
    · subst hz
      rw [pget_none fun x hx => by have := a1 x hx; exact Int.ne_of_gt this, pget_none fun x hx => by have := b1 x hx; exact Int.ne_of_gt this]
    · have hc : ∀ L : List (Int × β), pget z ((k, y) :: L) = pget z L := fun L => by
        unfold pget; rw [List.find?_cons, decide_eq_false (fun e : k = z => hz e.symm)]
      rw [hc, hc] at h1; exact h1
structure POk (f : α → Value × Value × Nat) (n : α → Int) (g : α → β) (xs : List α) (q : Nat) (M : List (Int × β)) : Prop where
  k : KOk f n xs q
  perm : (xs.map fun x => (n x, g x)).Perm M
  srt : pSrt M
variable {f : α → Value × Value × Nat} {n : α → Int} {g : α → β} {xs : List α} {q : Nat} {M : List (Int × β)}
theorem POk.nil : POk f n g [] 0 [] := ⟨KOk.nil, List.Perm.refl _, List.Pairwise.nil⟩
theorem POk.len (h : POk f n g xs q M) : xs.length = M.length := by rw [← h.perm.length_eq, List.length_map]
theorem POk.mem (h : POk f n g xs q M) (x : Int × β) : x ∈ M ↔ ∃ y ∈ xs, (n y, g y) = x := by rw [← h.perm.mem_iff, List.mem_map]
theorem POk.get (h : POk f n g xs q M) {j : Nat} {x : α} (hx : xs[j]? = some x) : pget (n x) M = some (g x) :=
  (pget_some h.srt).2 ((h.mem _).2 ⟨x, List.mem_of_getElem? hx, rfl⟩)
theorem POk.no (h : POk f n g xs q M) {k : Int} (hx : ∀ x ∈ xs, n x ≠ k) : pget k M = none :=
  pget_none fun x hm => by
    obtain ⟨y, hy, rfl⟩ := (h.mem x).1 hm
    exact hx y hy
theorem KOk.set' {l : List α} (h : KOk f n l q) {j : Nat} {x y : α} (hx : l[j]? = some x) (h1 : n y = n x) (h2 : (f y).1 = (f x).1) (h3 : (f y).2.2 = (f x).2.2) : KOk f n (l.set j y) q := by
  have hj := (List.getElem?_eq_some_iff.1 hx).1
  have hm : ∀ {γ : Type} (g : α → γ), g y = g x → (l.set j y).map g = l.map g := fun g hg => by
    apply List.ext_getElem?
    intro i
    rw [List.getElem?_map, List.getElem?_map, List.getElem?_set]
    split
    · rename_i hij; subst hij
      rw [hx]; simp [hg]
    · rfl
  have hxm := List.mem_of_getElem? hx
  refine ⟨fun z hz => ?_, ?_, fun z hz => ?_, ?_, fun z hz => ?_, by rw [List.length_set]; exact h.num⟩
  · rcases List.mem_or_eq_of_mem_set hz with hz | rfl
    · exact h.key z hz
    · rw [h2, h1]; exact h.key x hxm
  · have := List.pairwise_map.2 h.uniq
    rw [← hm n h1] at this
    exact List.pairwise_map.1 this
  · rcases List.mem_or_eq_of_mem_set hz with hz | rfl
    · exact h.born z hz
    · rw [h3]; exact h.born x hxm
  · rw [hm (fun x => (f x).2.2) h3]; exact h.bnd
  · rcases List.mem_or_eq_of_mem_set hz with hz | rfl
    · exact h.rng z hz
    · rw [h1]; exact h.rng x hxm
theorem POk.ofMem {xs' : List α} {q' : Nat} {M' : List (Int × β)} (hk : KOk f n xs' q') (hs : pSrt M') (hm : ∀ x, (∃ y ∈ xs', (n y, g y) = x) ↔ x ∈ M') : POk f n g xs' q' M' := by
  refine ⟨hk, ?_, hs⟩
  have hn : (xs'.map fun x => (n x, g x)).Nodup := List.pairwise_map.2 (hk.uniq.imp fun {a b} h e => h (congrArg Prod.fst e))
  exact (List.perm_ext_iff_of_nodup hn hs.nodup).2 fun x => by rw [List.mem_map]; exact hm x
theorem POk.set (h : POk f n g xs q M) {j : Nat} {x y : α} (hx : xs[j]? = some x) (h1 : n y = n x) (h2 : (f y).1 = (f x).1) (h3 : (f y).2.2 = (f x).2.2) : POk f n g (xs.set j y) q (pput (n x) (g y) M) := by
  refine POk.ofMem (h.k.set' hx h1 h2 h3) (pput_srt h.srt) fun z => ?_
  rw [pput_mem, h.mem]
  have hj := (List.getElem?_eq_some_iff.1 hx).1
  constructor
  · rintro ⟨u, hu, rfl⟩
    obtain ⟨i, hi⟩ := List.mem_iff_getElem?.1 hu
    rw [List.getElem?_set] at hi
    split at hi
    · rw [← Option.some.inj hi, h1]; exact .inl rfl
    · rename_i hij
      have hil := (List.getElem?_eq_some_iff.1 hi).1
      refine .inr ⟨⟨u, List.mem_of_getElem? hi, rfl⟩, fun e => ?_⟩
      have hu := List.pairwise_iff_getElem.1 h.k.uniq
      have e1 := (List.getElem?_eq_some_iff.1 hi).2
      have e2 := (List.getElem?_eq_some_iff.1 hx).2
      have he : n u = n x := e
      rcases Nat.lt_or_gt_of_ne hij with hlt | hgt
      · exact hu j i hj hil hlt (by rw [e1, e2]; exact he.symm)
      · exact hu i j hil hj hgt (by rw [e1, e2]; exact he)
  · rintro (rfl | ⟨⟨u, hu, rfl⟩, hn⟩)
    · exact ⟨y, List.mem_iff_getElem?.2 ⟨j, by rw [List.getElem?_set, if_pos rfl]; simp [hj]⟩, by rw [h1]⟩
    · obtain ⟨i, hi⟩ := List.mem_iff_getElem?.1 hu
      refine ⟨u, List.mem_iff_getElem?.2 ⟨i, ?_⟩, rfl⟩
      rw [List.getElem?_set, if_neg (fun e => ?_), hi]
      subst e
      rw [hx] at hi
      have := Option.some.inj hi
      subst this
      exact hn rfl
theorem POk.snoc (h : POk f n g xs q M) {y : α} (hk : (f y).1 = .int .i64 (n y)) (hn : ∀ x ∈ xs, n x ≠ n y) (hb : (f y).2.2 = q) (hr : -9223372036854775808 ≤ n y ∧ n y ≤ 9223372036854775807) (hl : xs.length < 4096) : POk f n g (xs ++ [y]) (q + 1) (pput (n y) (g y) M) := by
  refine POk.ofMem (h.k.snoc hk hn hb hr hl) (pput_srt h.srt) fun z => ?_
  rw [pput_mem, h.mem]
  constructor
  · rintro ⟨u, hu, rfl⟩
    rcases List.mem_append.1 hu with hu | hu
    · exact .inr ⟨⟨u, hu, rfl⟩, hn u hu⟩
    · rw [List.mem_singleton.1 hu]; exact .inl rfl
  · rintro (rfl | ⟨⟨u, hu, rfl⟩, _⟩)
    · exact ⟨y, List.mem_append_right _ (List.mem_singleton.2 rfl), rfl⟩
    · exact ⟨u, List.mem_append_left _ hu, rfl⟩
theorem POk.erase (h : POk f n g xs q M) {j : Nat} {x : α} (hx : xs[j]? = some x) : POk f n g (xs.eraseIdx j) q (pdel (n x) M) := by
  refine POk.ofMem (h.k.erase j) (pdel_srt h.srt) fun z => ?_
  rw [pdel_mem, h.mem]
  constructor
  · rintro ⟨u, hu, rfl⟩
    obtain ⟨h1, h2⟩ := (erase_mem' h.k.uniq hx u).1 hu
    exact ⟨⟨u, h1, rfl⟩, h2⟩
  · rintro ⟨⟨u, hu, rfl⟩, hn⟩
    exact ⟨u, (erase_mem' h.k.uniq hx u).2 ⟨hu, hn⟩, rfl⟩
theorem POk.keys (h : POk f n g xs q M) : (M.map (·.1)).Perm (xs.map n) ∧ (M.map (·.1)).Pairwise (· ≤ ·) := by
  refine ⟨?_, List.pairwise_map.2 (h.srt.imp fun {a b} h => by omega)⟩
  have := (h.perm.map (fun x : Int × β => x.1)).symm
  rw [List.map_map] at this
  exact this
end
end Go.V
/-! ## Hm -/
namespace Go.V
open Go Go.RowKit
abbrev Ev := Int × Int × Int × Int × Int
def ev5 (l : List Ev) : List (List Value) := l.map fun x => [.int .i64 x.1, .int .i64 x.2.1, .int .i64 x.2.2.1, .int .i64 x.2.2.2.1, .int .i64 x.2.2.2.2]
@[simp] theorem ev5_len (l : List Ev) : (ev5 l).length = l.length := by simp [ev5]
theorem ev5_at {l : List Ev} {k : Nat} {x : Ev} (h : l[k]? = some x) : (ev5 l)[k]? = some [.int .i64 x.1, .int .i64 x.2.1, .int .i64 x.2.2.1, .int .i64 x.2.2.2.1, .int .i64 x.2.2.2.2] := by simp [ev5, h]
theorem ev5_app (l m : List Ev) : ev5 (l ++ m) = ev5 l ++ ev5 m := by simp [ev5]
theorem ev5_ok (l : List Ev) : OkE 5 (ev5 l) := fun x hx => by
  obtain ⟨y, _, rfl⟩ := List.mem_map.1 hx
  exact ⟨rfl, fun u hu => by simp at hu; rcases hu with rfl | rfl | rfl | rfl | rfl <;> rfl⟩
abbrev Or := Int × Int × Int
def or3 (l : List Or) : List (List Value) := l.map fun x => [.int .i64 x.1, .int .i64 x.2.1, .int .i64 x.2.2]
@[simp] theorem or3_len (l : List Or) : (or3 l).length = l.length := by simp [or3]
theorem or3_at {l : List Or} {k : Nat} {x : Or} (h : l[k]? = some x) : (or3 l)[k]? = some [.int .i64 x.1, .int .i64 x.2.1, .int .i64 x.2.2] := by simp [or3, h]
theorem or3_app (l m : List Or) : or3 (l ++ m) = or3 l ++ or3 m := by simp [or3]
theorem or3_ok (l : List Or) : OkE 3 (or3 l) := fun x hx => by
  obtain ⟨y, _, rfl⟩ := List.mem_map.1 hx
  exact ⟨rfl, fun u hu => by simp at hu; rcases hu with rfl | rfl | rfl <;> rfl⟩
structure LsE where
  es : Kvs
  a : Option Addr
  c : Nat
def enL (l : List LsE) : List (List Value) := l.map fun x => [.slice x.a (en2 x.es).length x.c]
@[simp] theorem enL_len (l : List LsE) : (enL l).length = l.length := by simp [enL]
theorem enL_at {l : List LsE} {k : Nat} {x : LsE} (h : l[k]? = some x) : (enL l)[k]? = some [.slice x.a (en2 x.es).length x.c] := by simp [enL, h]
theorem enL_app (l m : List LsE) : enL (l ++ m) = enL l ++ enL m := by simp [enL]
theorem enL_ok (l : List LsE) : OkE 1 (enL l) := fun x hx => by
  obtain ⟨y, _, rfl⟩ := List.mem_map.1 hx
  exact ⟨rfl, fun u hu => by simp at hu; subst hu; rfl⟩
theorem dif_len (l r : Kvs) : (dif l r).length ≤ l.length + r.length := by
  fun_induction dif l r <;> simp only [List.length_cons, List.length_nil] at * <;> omega
def kvR (l : Kvs) : Prop := ∀ x ∈ l, -9223372036854775808 ≤ x.1 ∧ x.1 ≤ 9223372036854775807
theorem inR_full {l r : Kvs} (hl : kvR l) (hr : kvR r) : inR (-9223372036854775808) 9223372036854775807 (dif l r) = dif l r := by
  unfold inR
  refine List.filter_eq_self.2 fun c hc => decide_eq_true ?_
  rcases dif_keys l r c hc with ⟨x, hx, e⟩ | ⟨x, hx, e⟩
  · rw [← e]; exact hl x hx
  · rw [← e]; exact hr x hx
theorem dif_asc (l r : Kvs) : Srt l → Srt r → (dif l r).Pairwise fun a b => a.2.1 < b.2.1 := by
  fun_induction dif l r
  case case1 => exact fun _ _ => List.Pairwise.nil
  case case2 k w r ih =>
    intro hl hr
    obtain ⟨h1, h2⟩ := List.pairwise_cons.1 hr
    refine List.pairwise_cons.2 ⟨fun c hc => ?_, ih hl h2⟩
    rcases dif_keys _ _ c hc with ⟨x, hx, _⟩ | ⟨x, hx, e⟩
    · cases hx
    · have := h1 x hx; rw [← e]; exact this
  case case3 k v l ih =>
    intro hl hr
    obtain ⟨h1, h2⟩ := List.pairwise_cons.1 hl
    refine List.pairwise_cons.2 ⟨fun c hc => ?_, ih h2 hr⟩
    rcases dif_keys _ _ c hc with ⟨x, hx, e⟩ | ⟨x, hx, _⟩
    · have := h1 x hx; rw [← e]; exact this
    · cases hx
  case case4 k v l k' w r h ih =>
    intro hl hr
    obtain ⟨h1, h2⟩ := List.pairwise_cons.1 hl
    refine List.pairwise_cons.2 ⟨fun c hc => ?_, ih h2 hr⟩
    rcases dif_keys _ _ c hc with ⟨x, hx, e⟩ | ⟨x, hx, e⟩
    · have := h1 x hx; rw [← e]; exact this
    · rw [← e]
      rcases List.mem_cons.1 hx with rfl | hx
      · exact h
      · have h3 : k' < x.1 := (List.pairwise_cons.1 hr).1 x hx
        show k < x.1; omega
  case case5 k v l k' w r h1 h2 ih =>
    intro hl hr
    obtain ⟨h3, h4⟩ := List.pairwise_cons.1 hr
    refine List.pairwise_cons.2 ⟨fun c hc => ?_, ih hl h4⟩
    rcases dif_keys _ _ c hc with ⟨x, hx, e⟩ | ⟨x, hx, e⟩
    · rw [← e]
      rcases List.mem_cons.1 hx with rfl | hx
      · exact h2
      · have h5 : k < x.1 := (List.pairwise_cons.1 hl).1 x hx
        show k' < x.1; omega
    · have := h3 x hx; rw [← e]; exact this
  case case6 k v l k' w r h1 h2 h3 ih =>
    intro hl hr
    obtain ⟨a1, a2⟩ := List.pairwise_cons.1 hl
    obtain ⟨b1, b2⟩ := List.pairwise_cons.1 hr
    refine List.pairwise_cons.2 ⟨fun c hc => ?_, ih a2 b2⟩
    rcases dif_keys _ _ c hc with ⟨x, hx, e⟩ | ⟨x, hx, e⟩
    · have := a1 x hx; rw [← e]; exact this
    · have h5 : k' < x.1 := b1 x hx
      rw [← e]; show k < x.1; omega
  case case7 k v l k' w r h1 h2 h3 ih =>
    exact fun hl hr => ih (List.pairwise_cons.1 hl).2 (List.pairwise_cons.1 hr).2
structure ChOk (l r : Kvs) (c : Chg) : Prop where
  new : lget c.2.1 r = if c.1 = 2 then none else some c.2.2.2
  old : lget c.2.1 l = if c.1 = 1 then none else some c.2.2.1
  z1 : c.1 = 1 → c.2.2.1 = 0
  z2 : c.1 = 2 → c.2.2.2 = 0
  kd : c.1 = 1 ∨ c.1 = 2 ∨ c.1 = 3
theorem ChOk.up {l r l' r' : Kvs} {c : Chg} (h : ChOk l r c) (h1 : lget c.2.1 l' = lget c.2.1 l) (h2 : lget c.2.1 r' = lget c.2.1 r) : ChOk l' r' c :=
  ⟨by rw [h2]; exact h.new, by rw [h1]; exact h.old, h.z1, h.z2, h.kd⟩
theorem dif_ok (l r : Kvs) : Srt l → Srt r → ∀ c ∈ dif l r, ChOk l r c := by
  have hc : ∀ {z k v : Int} {l : Kvs}, k < z → lget z ((k, v) :: l) = lget z l := fun h => by rw [lget_cons, if_neg (by omega)]
  have hlow : ∀ {z k v : Int} {l : Kvs}, Srt ((k, v) :: l) → z < k → lget z ((k, v) :: l) = none := fun hs h => by rw [lget_cons, if_neg (by omega), lget_low hs (by omega)]
  fun_induction dif l r
  case case1 => intro _ _ c hc; cases hc
  case case2 k w r ih =>
    intro hl hr c hm
    rcases List.mem_cons.1 hm with rfl | hm
    · exact ⟨by rw [lget_cons, if_pos rfl]; rfl, rfl, fun _ => rfl, fun h => (by cases h), .inl rfl⟩
    · have h2 := (List.pairwise_cons.1 hr)
      have h3 : k < c.2.1 := (List.pairwise_cons.1 (by have := dif_asc [] ((k, w) :: r) hl hr; rw [dif] at this; exact this)).1 c hm
      exact (ih hl h2.2 c hm).up rfl (hc h3)
  case case3 k v l ih =>
    intro hl hr c hm
    rcases List.mem_cons.1 hm with rfl | hm
    · exact ⟨rfl, by rw [lget_cons, if_pos rfl]; rfl, fun h => (by cases h), fun _ => rfl, .inr (.inl rfl)⟩
    · have h2 := (List.pairwise_cons.1 hl)
      have h3 : k < c.2.1 := (List.pairwise_cons.1 (by have := dif_asc ((k, v) :: l) [] hl hr; rw [dif] at this; exact this)).1 c hm
      exact (ih h2.2 hr c hm).up (hc h3) rfl
  case case4 k v l k' w r h ih =>
    intro hl hr c hm
    rcases List.mem_cons.1 hm with rfl | hm
    · exact ⟨by rw [hlow hr h]; rfl, by rw [lget_cons, if_pos rfl]; rfl, fun h => (by cases h), fun _ => rfl, .inr (.inl rfl)⟩
    · have h3 : k < c.2.1 := (List.pairwise_cons.1 (by have := dif_asc ((k, v) :: l) ((k', w) :: r) hl hr; rw [dif, if_pos h] at this; exact this)).1 c hm
      exact (ih (List.pairwise_cons.1 hl).2 hr c hm).up (hc h3) rfl
  case case5 k v l k' w r h1 h2 ih =>
    intro hl hr c hm
    rcases List.mem_cons.1 hm with rfl | hm
    · exact ⟨by rw [lget_cons, if_pos rfl]; rfl, by rw [hlow hl h2]; rfl, fun _ => rfl, fun h => (by cases h), .inl rfl⟩
    · have h3 : k' < c.2.1 := (List.pairwise_cons.1 (by have := dif_asc ((k, v) :: l) ((k', w) :: r) hl hr; rw [dif, if_neg h1, if_pos h2] at this; exact this)).1 c hm
      exact (ih hl (List.pairwise_cons.1 hr).2 c hm).up rfl (hc h3)
  case case6 k v l k' w r h1 h2 h3 ih =>
    intro hl hr c hm
    have hk : k' = k := by omega
    subst hk
    rcases List.mem_cons.1 hm with rfl | hm
    · exact ⟨by rw [lget_cons, if_pos rfl]; rfl, by rw [lget_cons, if_pos rfl]; rfl, fun h => (by cases h), fun h => (by cases h), .inr (.inr rfl)⟩
    · have h4 : k' < c.2.1 := (List.pairwise_cons.1 (by have := dif_asc ((k', v) :: l) ((k', w) :: r) hl hr; rw [dif, if_neg h1, if_neg h2, if_pos h3] at this; exact this)).1 c hm
      exact (ih (List.pairwise_cons.1 hl).2 (List.pairwise_cons.1 hr).2 c hm).up (hc h4) (hc h4)
  case case7 k v l k' w r h1 h2 h3 ih =>
    intro hl hr c hm
    have hk : k' = k := by omega
    subst hk
    have h4 : k' < c.2.1 := by
      rcases dif_keys _ _ c hm with ⟨x, hx, e⟩ | ⟨x, hx, e⟩
      · have h5 : k' < x.1 := (List.pairwise_cons.1 hl).1 x hx
        rw [← e]; exact h5
      · have h5 : k' < x.1 := (List.pairwise_cons.1 hr).1 x hx
        rw [← e]; exact h5
    exact (ih (List.pairwise_cons.1 hl).2 (List.pairwise_cons.1 hr).2 c hm).up (hc h4) (hc h4)
theorem lget_ldel {k : Int} {l : Kvs} (hs : Srt l) (z : Int) : lget z (ldel k l) = if z = k then none else lget z l := pget_del (M := l) hs
def rep (l : Kvs) (c : Chg) : Kvs := if c.1 = 2 then ldel c.2.1 l else lins c.2.1 c.2.2.2 l
def reps (l : Kvs) (D : List Chg) : Kvs := D.foldl rep l
theorem rep_srt {l : Kvs} {c : Chg} (h : Srt l) : Srt (rep l c) := by unfold rep; split; exact ldel_srt h; exact lins_srt h
theorem reps_srt : ∀ {D : List Chg} {l : Kvs}, Srt l → Srt (reps l D)
  | [], _, h => h
  | _ :: D, _, h => reps_srt (D := D) (rep_srt h)
theorem rep_get {l : Kvs} {c : Chg} (h : Srt l) (z : Int) : lget z (rep l c) = if z = c.2.1 then (if c.1 = 2 then none else some c.2.2.2) else lget z l := by
  unfold rep
  by_cases h2 : c.1 = 2
  · rw [if_pos h2, if_pos h2, lget_ldel h]
  · rw [if_neg h2, if_neg h2, lget_lins h]
theorem reps_far : ∀ {D : List Chg} {l : Kvs} {z : Int}, Srt l → (∀ c ∈ D, c.2.1 ≠ z) → lget z (reps l D) = lget z l
  | [], _, _, _, _ => rfl
  | c :: D, l, z, h, hz => by
    show lget z (reps (rep l c) D) = _
    rw [reps_far (rep_srt h) fun x hx => hz x (List.mem_cons_of_mem _ hx), rep_get h, if_neg fun e => hz c (List.mem_cons_self ..) e.symm]
theorem reps_at : ∀ {D : List Chg} {l : Kvs} {c : Chg}, Srt l → (D.Pairwise fun a b => a.2.1 < b.2.1) → c ∈ D → lget c.2.1 (reps l D) = if c.1 = 2 then none else some c.2.2.2
  | [], _, _, _, _, h => by cases h
  | d :: D, l, c, h, hd, hc => by
    obtain ⟨h1, h2⟩ := List.pairwise_cons.1 hd
    show lget c.2.1 (reps (rep l d) D) = _
    rcases List.mem_cons.1 hc with rfl | hc
    · rw [reps_far (rep_srt h) fun x hx => by have := h1 x hx; omega, rep_get h, if_pos rfl]
    · exact reps_at (rep_srt h) h2 hc
theorem reps_dif {l r : Kvs} (hl : Srt l) (hr : Srt r) : reps l (dif l r) = r := by
  refine pSrt.ext (M := reps l (dif l r)) (N := r) (reps_srt hl) hr fun z => ?_
  show lget z (reps l (dif l r)) = lget z r
  by_cases h : ∃ c ∈ dif l r, c.2.1 = z
  · obtain ⟨c, hc, rfl⟩ := h
    rw [reps_at hl (dif_asc l r hl hr) hc, (dif_ok l r hl hr c hc).new]
  · rw [reps_far hl fun c hc e => h ⟨c, hc, e⟩]
    exact Classical.not_not.1 fun hn => h ((dif_get l r hl hr z).2 hn)
end Go.V
/-! ## Hn -/
namespace Go.V
open Go Go.RowKit
def lsA (L : List Kvs) (i : Nat) : Kvs := L.getD i []
def lsB (L : List Kvs) (i : Nat) : Kvs := if i = 0 then [] else lsA L (i - 1)
def dA (lo hi : Int) (L : List Kvs) (i : Nat) : List Chg := inR lo hi (dif (lsB L i) (lsA L i))
def evA (i : Nat) (D : List Chg) : List Ev := D.map fun c => ((i : Int), c)
def hev (lo hi : Int) (L : List Kvs) (k : Nat) : List Ev := (List.range k).flatMap fun i => evA i (dA lo hi L i)
def LOk (L : List Kvs) : Prop := ∀ l ∈ L, Srt l ∧ l.length ≤ 100 ∧ kvR l
section
variable {L : List Kvs} {lo hi : Int}
theorem hev_0 : hev lo hi L 0 = [] := rfl
theorem hev_succ (k : Nat) : hev lo hi L (k + 1) = hev lo hi L k ++ evA k (dA lo hi L k) := by
  unfold hev; rw [List.range_succ, List.flatMap_append]; simp
theorem evA_len (i : Nat) (D : List Chg) : (evA i D).length = D.length := List.length_map ..
theorem evA_snoc {i m : Nat} {D : List Chg} {c : Chg} (h : D[m]? = some c) : evA i (D.take (m + 1)) = evA i (D.take m) ++ [((i : Int), c)] := by
  unfold evA; rw [List.take_add_one, h]; simp
theorem LOk.a (h : LOk L) (i : Nat) : Srt (lsA L i) ∧ (lsA L i).length ≤ 100 ∧ kvR (lsA L i) := by
  unfold lsA
  rw [List.getD_eq_getElem?_getD]
  cases hi : L[i]? with
  | none => exact ⟨List.Pairwise.nil, Nat.zero_le _, fun x hx => (by cases hx)⟩
  | some l => exact h l (List.mem_of_getElem? hi)
theorem LOk.b (h : LOk L) (i : Nat) : Srt (lsB L i) ∧ (lsB L i).length ≤ 100 ∧ kvR (lsB L i) := by
  unfold lsB
  split
  · exact ⟨List.Pairwise.nil, Nat.zero_le _, fun x hx => (by cases hx)⟩
  · exact h.a _
theorem dA_len (h : LOk L) (i : Nat) : (dA lo hi L i).length ≤ 200 := by
  have h1 := dif_len (lsB L i) (lsA L i)
  have h2 := (h.a i).2.1
  have h3 := (h.b i).2.1
  exact Nat.le_trans (List.length_filter_le _ _) (by omega)
theorem hev_len (h : LOk L) : ∀ k, (hev lo hi L k).length ≤ 200 * k
  | 0 => Nat.le_refl _
  | k + 1 => by
    have h1 := hev_len h k
    have h2 := dA_len (lo := lo) (hi := hi) h k
    rw [hev_succ, List.length_append, evA_len]; omega
theorem hev_pos : ∀ {n p : Nat} {e : Ev}, (hev lo hi L n)[p]? = some e → ∃ i m c, i < n ∧ (dA lo hi L i)[m]? = some c ∧ e = ((i : Int), c) ∧ p = (hev lo hi L i).length + m ∧ (hev lo hi L n).take p = hev lo hi L i ++ evA i ((dA lo hi L i).take m)
  | 0, p, e, h => by rw [hev_0] at h; simp at h
  | n + 1, p, e, h => by
    rw [hev_succ] at h ⊢
    rcases Nat.lt_or_ge p (hev lo hi L n).length with hp | hp
    · rw [List.getElem?_append_left hp] at h
      obtain ⟨i, m, c, h1, h2, h3, h4, h5⟩ := hev_pos h
      refine ⟨i, m, c, by omega, h2, h3, h4, ?_⟩
      rw [List.take_append_of_le_length (by omega)]; exact h5
    · rw [List.getElem?_append_right hp] at h
      unfold evA at h
      rw [List.getElem?_map] at h
      cases hc : (dA lo hi L n)[p - (hev lo hi L n).length]? with
      | none => rw [hc] at h; cases h
      | some c =>
        rw [hc] at h
        refine ⟨n, p - (hev lo hi L n).length, c, by omega, hc, (Option.some.inj h).symm, by omega, ?_⟩
        rw [List.take_append, List.take_of_length_le hp]
        unfold evA
        rw [List.map_take]
def minI : Int := -9223372036854775808
def maxI : Int := 9223372036854775807
def rpE (l : Kvs) (E : List Ev) : Kvs := reps l (E.map (·.2))
theorem reps_app (l : Kvs) (A B : List Chg) : reps l (A ++ B) = reps (reps l A) B := by unfold reps; rw [List.foldl_append]
theorem rpE_app (l : Kvs) (A B : List Ev) : rpE l (A ++ B) = rpE (rpE l A) B := by unfold rpE; rw [List.map_append, reps_app]
theorem rpE_evA (l : Kvs) (i : Nat) (D : List Chg) : rpE l (evA i D) = reps l D := by
  unfold rpE evA; rw [List.map_map]; congr 1; exact List.map_id' D
theorem dA_full (h : LOk L) (i : Nat) : dA minI maxI L i = dif (lsB L i) (lsA L i) := inR_full (h.b i).2.2 (h.a i).2.2
theorem rpE_hev (h : LOk L) : ∀ k, rpE [] (hev minI maxI L k) = lsB L k
  | 0 => rfl
  | k + 1 => by
    rw [hev_succ, rpE_app, rpE_hev h k, rpE_evA, dA_full h, reps_dif (h.b k).1 (h.a k).1]
    unfold lsB; rw [if_neg (by omega)]; rfl
theorem rpE_pos (h : LOk L) {n p : Nat} {e : Ev} (he : (hev minI maxI L n)[p]? = some e) : (e.2.1 = 2 → (lget e.2.2.1 (rpE [] ((hev minI maxI L n).take p))).isSome = true) := by
  obtain ⟨i, m, c, h1, h2, rfl, h4, h5⟩ := hev_pos he
  intro hk
  rw [h5, rpE_app, rpE_hev h, rpE_evA]
  rw [dA_full h] at h2 ⊢
  have ha := dif_asc (lsB L i) (lsA L i) (h.b i).1 (h.a i).1
  have hm := List.mem_of_getElem? h2
  rw [reps_far (h.b i).1 fun d hd => ?_, (dif_ok _ _ (h.b i).1 (h.a i).1 c hm).old, if_neg (by have : c.1 = 2 := hk; omega)]
  · rfl
  · obtain ⟨j, hj⟩ := List.mem_iff_getElem?.1 hd
    rw [List.getElem?_take] at hj
    split at hj
    · rename_i hjm
      have e1 := List.getElem?_eq_some_iff.1 hj
      have e2 := List.getElem?_eq_some_iff.1 h2
      have := List.pairwise_iff_getElem.1 ha j m e1.1 e2.1 hjm
      rw [e1.2, e2.2] at this
      show d.2.1 ≠ c.2.1
      omega
    · cases hj
def oStep (M : List (Int × Int × Int)) (e : Ev) : List (Int × Int × Int) := if e.2.1 = 2 then pdel e.2.2.1 M else pput e.2.2.1 (e.2.2.2.2, e.1) M
def oAll (E : List Ev) : List (Int × Int × Int) := E.foldl oStep []
theorem oAll_snoc (E : List Ev) (e : Ev) : oAll (E ++ [e]) = oStep (oAll E) e := by unfold oAll; rw [List.foldl_append]; rfl
theorem oStep_srt {M : List (Int × Int × Int)} {e : Ev} (h : pSrt M) : pSrt (oStep M e) := by unfold oStep; split; exact pdel_srt h; exact pput_srt h
theorem oAll_get (E : List Ev) : pSrt (oAll E) ∧ ∀ z, pget z (oAll E) = ((E.filter fun e => decide (e.2.2.1 = z)).getLast?).bind fun e => if e.2.1 = 2 then none else some (e.2.2.2.2, e.1) := by
  induction hn : E.length generalizing E with
  | zero =>
    have : E = [] := List.length_eq_zero_iff.1 hn
    subst this
    exact ⟨List.Pairwise.nil, fun z => rfl⟩
  | succ n ih =>
    obtain ⟨F, e, rfl⟩ : ∃ F e, E = F ++ [e] := ⟨E.dropLast, E.getLast (fun h => by rw [h] at hn; cases hn), (List.dropLast_concat_getLast _).symm⟩
    obtain ⟨h1, h2⟩ := ih F (by simp at hn; omega)
    rw [oAll_snoc]
    refine ⟨oStep_srt h1, fun z => ?_⟩
    rw [List.filter_append]
    by_cases hz : e.2.2.1 = z
    · have hf : ([e] : List Ev).filter (fun e => decide (e.2.2.1 = z)) = [e] := by simp [hz]
      rw [hf, List.getLast?_concat]
      unfold oStep
      by_cases hk : e.2.1 = 2
      · rw [if_pos hk, pget_del h1, if_pos hz.symm]; simp [hk]
      · rw [if_neg hk, pget_put h1, if_pos hz.symm]; simp [hk]
    · have hf : ([e] : List Ev).filter (fun e => decide (e.2.2.1 = z)) = [] := by simp [hz]
      rw [hf, List.append_nil, ← h2 z]
      unfold oStep
      split
      · rw [pget_del h1, if_neg fun e => hz e.symm]
      · rw [pget_put h1, if_neg fun e => hz e.symm]
theorem oAll_list (E : List Ev) : (oAll E).map (fun x => (x.1, x.2.1)) = rpE [] E := by
  induction hn : E.length generalizing E with
  | zero =>
    have : E = [] := List.length_eq_zero_iff.1 hn
    subst this; rfl
  | succ n ih =>
    obtain ⟨F, e, rfl⟩ : ∃ F e, E = F ++ [e] := ⟨E.dropLast, E.getLast (fun h => by rw [h] at hn; cases hn), (List.dropLast_concat_getLast _).symm⟩
    have h1 := ih F (by simp at hn; omega)
    rw [oAll_snoc, rpE_app, ← h1]
    show (oStep (oAll F) e).map _ = rep _ e.2
    unfold oStep rep
    have hf : ∀ p : Int → Bool, ((oAll F).map fun x : Int × Int × Int => (x.1, x.2.1)).filter (fun x => p x.1) = ((oAll F).filter fun x => p x.1).map fun x => (x.1, x.2.1) := fun p => by rw [List.filter_map]; rfl
    by_cases hk : e.2.1 = 2
    · rw [if_pos hk, if_pos hk]
      exact (hf fun z => decide (z ≠ e.2.2.1)).symm
    · rw [if_neg hk, if_neg hk]
      unfold pput lins
      rw [hf fun z => decide (z < e.2.2.1), hf fun z => decide (e.2.2.1 < z), List.map_append]; rfl
theorem oAll_len (h : LOk L) (n p : Nat) : (oAll ((hev minI maxI L n).take p)).length ≤ 200 * n := by
  have h0 : ∀ E : List Ev, (oAll E).length ≤ E.length := fun E => by
    induction hn : E.length generalizing E with
    | zero =>
      have : E = [] := List.length_eq_zero_iff.1 hn
      subst this; exact Nat.le_refl _
    | succ n ih =>
      obtain ⟨F, e, rfl⟩ : ∃ F e, E = F ++ [e] := ⟨E.dropLast, E.getLast (fun h => by rw [h] at hn; cases hn), (List.dropLast_concat_getLast _).symm⟩
      have h1 := ih F (by simp at hn; omega)
      rw [oAll_snoc]
      have hs := (oAll_get F).1
      unfold oStep
      split
      · exact Nat.le_trans (List.length_filter_le _ _) (by omega)
      · unfold pput
        rw [List.length_append, List.length_cons]
        have h2 : ∀ M : List (Int × Int × Int), (M.filter fun x => decide (x.1 < e.2.2.1)).length + (M.filter fun x => decide (e.2.2.1 < x.1)).length ≤ M.length := fun M => by
          induction M with
          | nil => exact Nat.le_refl _
          | cons x t ih =>
            rw [List.length_cons]
            by_cases h1 : x.1 < e.2.2.1
            · rw [List.filter_cons_of_pos (by simpa using h1), List.filter_cons_of_neg (by simp; omega), List.length_cons]; omega
            · rw [List.filter_cons_of_neg (by simpa using h1)]
              by_cases h2 : e.2.2.1 < x.1
              · rw [List.filter_cons_of_pos (by simpa using h2), List.length_cons]; omega
              · rw [List.filter_cons_of_neg (by simpa using h2)]; omega
        have := h2 (oAll F)
        omega
  refine Nat.le_trans (h0 _) (Nat.le_trans (List.length_take_le' _ _) (hev_len h n))
end
structure RTs (A : AM) (L : List Kvs) (rs : List Int) : Prop where
  len : L.length = rs.length
  get : ∀ (i : Nat) (r : Int), rs[i]? = some r → ∃ t : Tr, Is A t r ∧ t.ok ∧ t.ls = lsA L i
def rsB (rs : List Int) (i : Nat) : Int := if i = 0 then 0 else rs.getD (i - 1) 0
theorem RTs.bef {A : AM} {L : List Kvs} {rs : List Int} (h : RTs A L rs) {i : Nat} (hi : i ≤ rs.length) : ∃ t : Tr, Is A t (rsB rs i) ∧ t.ok ∧ t.ls = lsB L i := by
  unfold rsB lsB
  by_cases h0 : i = 0
  · rw [if_pos h0, if_pos h0]; exact ⟨.nil, rfl, trivial, rfl⟩
  · rw [if_neg h0, if_neg h0]
    have h1 : rs[i - 1]? = some (rs[i - 1]'(by omega)) := List.getElem?_eq_getElem (by omega)
    rw [List.getD_eq_getElem?_getD, h1]
    exact h.get (i - 1) _ h1
end Go.V
/-! ## Hc -/
namespace Go.V
open Go Go.RowKit
def leF (x : LsE) : List HP := [Sh 77 2 (en2 x.es) x.a x.c]
theorem leF_sh (x : LsE) : ∀ A ∈ leF x, Sht A := fun A hA => by
  simp only [leF, List.mem_singleton] at hA; subst hA; exact Sht.sh
theorem St.shsDup {α : Type} {f : α → List HP} {zs : List α} {g w : World} {L : List HP} (h : St g L w) (i : Nat) (hi : L[i]? = some (Shs f zs)) : St g (Shs f zs :: L) w := by
  obtain ⟨o, r, a, b, c, d, e⟩ := h.own
  obtain ⟨o1, o2, h1, h2, hd, hh, hL⟩ := All.perm (perm_at hi) e
  exact ⟨h.os, h.tape, h.output, h.size, o, r, a, b, c, d, All.cat [Shs f zs] L (fun _ _ h => by cases h) (Sub.refl _) (Dj.none _) ⟨fun _ => none, fun _ => none, Sub.refl _, Sub.refl _, Dj.none _, hh, trivial⟩ e⟩
structure ChI (A : AM) (R rs : List Int) (LL : List LsE) (m k n c : Nat) : Prop where
  ref : ARf A R
  rl : R.length ≤ k + 1
  mem : ∀ r ∈ rs, r ∈ R
  rsl : rs.length = k + 1
  trs : RTs A (LL.map LsE.es) rs
  lok : ∀ x ∈ LL, Srt x.es ∧ x.es.length ≤ m + k ∧ kvR x.es
  fr : ((1 + (n + 1) * c : Nat) : Int) ≤ A.s.free + (k * c : Nat)
structure ChJ (A B : AM) (R R2 : List Int) (o : Int) (ns : Kvs) (m k c : Nat) : Prop where
  ref : ARf B R2
  rl : R2.length ≤ R.length + 1
  sub : ∀ r ∈ R, r ∈ R2
  om : o ∈ R2
  tr : ∃ t : Tr, Is B t o ∧ t.ok ∧ t.ls = ns
  kp : Kp A B R
  ok : Srt ns ∧ ns.length ≤ m + (k + 1) ∧ kvR ns
  fr : A.s.free ≤ B.s.free + (c : Int)
section
variable {A B : AM} {R R2 rs : List Int} {LL : List LsE} {m k n c : Nat} {o : Int} {ns : Kvs}
theorem ChI.room (h : ChI A R rs LL m k n c) (hk : k < n) : (c : Int) ≤ A.s.free := by
  have h1 := h.fr
  have h2 : (k + 1) * c ≤ (n + 1) * c := Nat.mul_le_mul_right c (by omega)
  rw [Nat.succ_mul] at h2
  omega
theorem ChI.step (h : ChI A R rs LL m k n c) (j : ChJ A B R R2 o ns m k c) (na : Option Addr) (nc : Nat) : ChI B R2 (rs ++ [o]) (LL ++ [⟨ns, na, nc⟩]) m (k + 1) n c := by
  have hL : LL.length = rs.length := by have := h.trs.len; rw [List.length_map] at this; exact this
  refine ⟨j.ref, by have := j.rl; have := h.rl; omega, fun r hr => ?_, by rw [List.length_append, h.rsl]; rfl, ⟨by simp [hL], fun i r hr => ?_⟩, fun x hx => ?_, ?_⟩
  · rcases List.mem_append.1 hr with hr | hr
    · exact j.sub r (h.mem r hr)
    · rw [List.mem_singleton.1 hr]; exact j.om
  · rcases Nat.lt_or_ge i rs.length with hi | hi
    · rw [List.getElem?_append_left hi] at hr
      obtain ⟨t, h1, h2, h3⟩ := h.trs.get i r hr
      refine ⟨t, j.kp r (h.mem r (List.mem_of_getElem? hr)) t h1, h2, h3.trans ?_⟩
      unfold lsA
      rw [List.getD_eq_getElem?_getD, List.getD_eq_getElem?_getD, List.map_append, List.getElem?_append_left (by rw [List.length_map]; omega)]
    · rw [List.getElem?_append_right hi] at hr
      have hi2 : i = rs.length := by
        have := (List.getElem?_eq_some_iff.1 hr).1
        simp at this; omega
      subst hi2
      obtain ⟨t, h1, h2, h3⟩ := j.tr
      simp only [Nat.sub_self, List.getElem?_cons_zero, Option.some.injEq] at hr
      subst hr
      refine ⟨t, h1, h2, h3.trans ?_⟩
      unfold lsA
      rw [List.getD_eq_getElem?_getD, List.map_append, List.getElem?_append_right (by rw [List.length_map]; omega), List.length_map, hL, Nat.sub_self]; rfl
  · rcases List.mem_append.1 hx with hx | hx
    · have := h.lok x hx; exact ⟨this.1, by omega, this.2.2⟩
    · rw [List.mem_singleton.1 hx]; exact j.ok
  · have h1 := h.fr
    have h2 := j.fr
    have h3 : (((k + 1) * c : Nat) : Int) = ((k * c : Nat) : Int) + (c : Int) := by rw [Nat.succ_mul]; rfl
    rw [h3]
    omega
theorem ChI.at (h : ChI A R rs LL m k n c) {i : Nat} {r : Int} {z : LsE} (hr : rs[i]? = some r) (hz : LL[i]? = some z) : r ∈ R ∧ ∃ t : Tr, Is A t r ∧ t.ok ∧ t.ls = z.es := by
  obtain ⟨t, h1, h2, h3⟩ := h.trs.get i r hr
  refine ⟨h.mem r (List.mem_of_getElem? hr), t, h1, h2, h3.trans ?_⟩
  unfold lsA
  rw [List.getD_eq_getElem?_getD, List.getElem?_map, hz]; rfl
theorem ChI.same (h : ChI A R rs LL m k n c) {i : Nat} {r : Int} {z : LsE} (hr : rs[i]? = some r) (hz : LL[i]? = some z) : ChJ A A R R r z.es m k c := by
  obtain ⟨h1, h2⟩ := h.at hr hz
  have h3 := h.lok z (List.mem_of_getElem? hz)
  exact ⟨h.ref, by omega, fun _ h => h, h1, h2, Kp.refl _ _, ⟨h3.1, by omega, h3.2.2⟩, by omega⟩
theorem kvR_lins {k v : Int} {l : Kvs} (h : kvR l) (hk : -9223372036854775808 ≤ k ∧ k ≤ 9223372036854775807) : kvR (lins k v l) := fun x hx => by
  unfold lins at hx
  rcases List.mem_append.1 hx with hx | hx
  · exact h x (List.mem_filter.1 hx).1
  · rcases List.mem_cons.1 hx with rfl | hx
    · exact hk
    · exact h x (List.mem_filter.1 hx).1
theorem kvR_ldel {k : Int} {l : Kvs} (h : kvR l) : kvR (ldel k l) := fun x hx => h x (List.mem_filter.1 hx).1
theorem ChI.ins (h : ChI A R rs LL m k n c) {i : Nat} {z : LsE} (hz : LL[i]? = some z) {t : Tr} (h1 : t.ok) (h2 : t.ls = z.es) {key v : Int} {j : Int} {d : Nat} (hk : -9223372036854775808 ≤ key ∧ key ≤ 9223372036854775807) (f : TOp A B R j (Tr.ins key v t) d) (hd : d ≤ c) : ChJ A B R (j :: R) j (lins key v z.es) m k c := by
  have h3 := h.lok z (List.mem_of_getElem? hz)
  refine ⟨f.ref, Nat.le_refl _, fun _ h => List.mem_cons_of_mem _ h, List.mem_cons_self .., ⟨_, f.is, Tr.ins_ok key v t h1, ?_⟩, f.kp, ⟨lins_srt h3.1, ?_, kvR_lins h3.2.2 hk⟩, by have := f.fr; omega⟩
  · rw [Tr.ins_ls key v t (by rw [h2]; exact h3.1), h2]
  · rw [lins_len h3.1]; split <;> omega
theorem ChI.del (h : ChI A R rs LL m k n c) {i : Nat} {z : LsE} (hz : LL[i]? = some z) {t : Tr} (h1 : t.ok) (h2 : t.ls = z.es) {key : Int} {j : Int} {d : Nat} (f : TOp A B R j (Tr.del key t) d) (hd : d ≤ c) : ChJ A B R (j :: R) j (ldel key z.es) m k c := by
  have h3 := h.lok z (List.mem_of_getElem? hz)
  refine ⟨f.ref, Nat.le_refl _, fun _ h => List.mem_cons_of_mem _ h, List.mem_cons_self .., ⟨_, f.is, Tr.del_ok key t h1, ?_⟩, f.kp, ⟨ldel_srt h3.1, ?_, kvR_ldel h3.2.2⟩, by have := f.fr; omega⟩
  · rw [Tr.del_ls key t (by rw [h2]; exact h3.1), h2]
  · exact Nat.le_trans (List.length_filter_le _ _) (by omega)
theorem ChI.init {i : Int} {t : Tr} {l : Kvs} (h1 : ARf A [i]) (h2 : Is A t i) (h3 : t.ok) (h4 : t.ls = l) (hl : Srt l ∧ kvR l) (hf : ((1 + (n + 1) * c : Nat) : Int) ≤ A.s.free) (a : Option Addr) (d : Nat) : ChI A [i] [i] [⟨l, a, d⟩] l.length 0 n c := by
  refine ⟨h1, by simp, fun _ h => h, rfl, ⟨rfl, fun j r hr => ?_⟩, fun x hx => ?_, by rw [Nat.zero_mul]; omega⟩
  · match j, hr with
    | 0, hr => exact ⟨t, Option.some.inj hr ▸ h2, h3, h4⟩
    | j + 1, hr => simp at hr
  · rw [List.mem_singleton.1 hx]; exact ⟨hl.1, by simp, hl.2⟩
theorem ChI.fin (h : ChI A R rs LL m k n c) (hm : m + k ≤ 100) : LOk (LL.map LsE.es) := fun l hl => by
  obtain ⟨x, hx, rfl⟩ := List.mem_map.1 hl
  have := h.lok x hx
  exact ⟨this.1, by omega, this.2.2⟩
end
end Go.V
