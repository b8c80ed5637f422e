/-
  Trees: the last entry, two trees in one, insertion, deletion, Hold, Room.
  Conditions: counts are numbers of references; there are enough free slots.
-/
import Derived.Test.YtlnlnebibgdjdaaW3
namespace Go.Proofs.Ytlnlnebibgdjdaa
open Go Go.V

theorem pop_step {l r : Tr} {k v : Int} (h : r ≠ .nil) : Tr.pop (.node l k v r) = (Tr.join l k v (Tr.pop r).1, (Tr.pop r).2) ∧ Tr.pc (.node l k v r) = Tr.pc r + Tr.jc l (Tr.pop r).1 := by
  cases r with
  | nil => exact absurd rfl h
  | node a b c d => exact ⟨by rw [Tr.pop], by rw [Tr.pc]⟩
theorem cat_step {l r : Tr} (hl : l ≠ .nil) (hr : r ≠ .nil) : Tr.cat l r = Tr.join (Tr.pop l).1 (Tr.pop l).2.1 (Tr.pop l).2.2 r ∧ Tr.cc l r = Tr.pc l + Tr.jc (Tr.pop l).1 r := by
  cases l with
  | nil => exact absurd rfl hl
  | node a b c d =>
    cases r with
    | nil => exact absurd rfl hr
    | node a' b' c' d' => exact ⟨rfl, rfl⟩
theorem cat_nilR {l : Tr} : Tr.cat l .nil = l := by cases l <;> rfl
theorem nil_or {t : Tr} (h : t ≠ .nil) : ∃ l k v r, t = .node l k v r := by
  cases t with
  | nil => exact absurd rfl h
  | node l k v r => exact ⟨l, k, v, r, rfl⟩
set_option maxHeartbeats 1000000 in
set_option maxRecDepth 8192 in
theorem tw_pop_step (nM : Nat) (ih : ∀ mM : Nat, mM < nM → ∀ (g w : World) (L : List HP) (a : Nat) (A : AM) (R : List Int) (i : Int) (t : Tr), (ARf A (i :: R)) → (Is A t i) → (t ≠ .nil) → ((Tr.pc t : Int) ≤ A.s.free) → (R.length + t.n ≤ 650000000) → t.n = mM → St g (Arn a A :: L) w → Sp Try.prog 136 [.pointer (some ⟨a, 0, none⟩), .int .u32 i] w (fun v w' => ∃ (A2 : AM) (j : Int), v = .tuple #[.int .u32 j, .agg #[.int .i64 (Tr.pop t).2.1, .int .i64 (Tr.pop t).2.2]] ∧ St g (Arn a A2 :: L) w' ∧ (TOp A A2 R j (Tr.pop t).1 (Tr.pc t)))) {g w : World} {L : List HP} (a : Nat) (A : AM) (R : List Int) (i : Int) (t : Tr) (hA : ARf A (i :: R)) (hi : Is A t i) (hne : t ≠ .nil) (hf : (Tr.pc t : Int) ≤ A.s.free) (hz : R.length + t.n ≤ 650000000) (hM : t.n = nM) (hS : St g (Arn a A :: L) w) :
    Sp Try.prog 136 [.pointer (some ⟨a, 0, none⟩), .int .u32 i] w (fun v w' => ∃ (A2 : AM) (j : Int), v = .tuple #[.int .u32 j, .agg #[.int .i64 (Tr.pop t).2.1, .int .i64 (Tr.pop t).2.2]] ∧ St g (Arn a A2 :: L) w' ∧ (TOp A A2 R j (Tr.pop t).1 (Tr.pc t))) := by
  refine Sp.enter Try.func136 rfl (by kernel_rfl) (by kernel_rfl) ?_
  have _ := hz
  have _ := hf
  refine WC.seq ?_
  refine WC.region ?_
  refine WL.r 1 rfl ?_
  refine WL.new rfl rfl zv_46 hS (fun b1 w hS => ?_)
  refine WL.nil ?_
  refine WC.seq ?_
  refine WC.region ?_
  obtain ⟨tl, k, z, tr, ht⟩ := nil_or hne; have htn : t.n = tl.n + tr.n + 1 := (by rw [ht]; rfl); have hi2 : Is A (.node tl k z tr) i := ht ▸ hi
  refine WL.r 2 rfl ?_
  refine WL.call rfl rfl (tw_open (a := a) (A := A) (R := R) (i := i) (k := k) (z := z) (l := tl) (r := tr) (hA := hA) (hi := hi2) (hz := (by omega)) (hS := (hS.sel 2 [1, 0] rfl))) rfl ?_
  clear hS; rintro _ w ⟨A1, x1, y1, rfl, hS, f1⟩
  replace hS : St g (Arn a A1 :: cel b1 #[.int .i64 0, .int .i64 0] 46 :: L) w := hS
  refine WL.r 4 rfl ?_
  refine WL.new rfl rfl zv_46 hS (fun b2 w hS => ?_)
  refine WL.r 1 rfl ?_
  refine WL.stF rfl rfl rfl 0 hS rfl rfl rfl rfl rfl ag_46 (fun w hS => ?_)
  replace hS : St g (cel b2 #[.int .i64 k, .int .i64 z] 46 :: Arn a A1 :: cel b1 #[.int .i64 0, .int .i64 0] 46 :: L) w := hS
  refine WL.r 1 rfl ?_
  refine WL.nil ?_
  refine WC.seq ?_
  refine WC.seq ?_
  refine WC.region ?_
  have hr1 := f1.rng; have hx0 := Is.nil_iff f1.ir; have hfr1 := f1.fr
  refine WL.r 2 rfl ?_
  refine WL.nil ?_
  as_aux_lemma =>
    refine WC.ifP rfl (fun hy => ?_) (fun hy => ?_)
    · refine WC.seq ?_
      refine WC.plan [([0, 2], some (1, [0, 2])), ([], some (3, []))] (by kernel_rfl) (by kernel_rfl) ?_
      refine WQ.r 2 rfl ?_
      refine WQ.nil ?_
      intro m1
      replace hS := hS.drewN m1; generalize hwm1 : World.drewN _ _ = w at *; clear hwm1
      refine WL.ldF rfl rfl 0 hS rfl rfl ag_46 ?_
      refine WL.nil ?_
      refine ⟨by exact ⟨RQ.pure rfl rfl rfl rfl, RQ.pure rfl rfl rfl rfl⟩, ?_⟩
      refine WQ.nil ?_
      intro m2
      replace hS := hS.drewN m2; generalize hwm2 : World.drewN _ _ = w at *; clear hwm2
      refine WL.stF rfl rfl rfl 2 hS rfl rfl rfl rfl rfl ag_46 (fun w hS => ?_)
      replace hS : St g (cel b2 #[.int .i64 k, .int .i64 z] 46 :: Arn a A1 :: cel b1 #[.int .i64 k, .int .i64 z] 46 :: L) w := hS
      refine WL.nil ?_
      refine ⟨by exact trivial, ?_⟩
      intro m3
      replace hS := hS.drewN m3; generalize hwm3 : World.drewN _ _ = w at *; clear hwm3
      refine WC.ret ?_
      refine ⟨[.int .u32 x1, .agg #[.int .i64 k, .int .i64 z]], ⟨rfl, ⟨_, rfl, hS.lvF 2 rfl ag_46⟩, trivial⟩, ?_⟩
      replace hS := (hS.sel 3 [1] rfl)
      have hrn := hx0.1 hy; subst hrn; subst hy; subst ht; exact ⟨_, _, rfl, hS, ⟨f1.ref.sw.tail0, f1.il, f1.kp, by have := f1.fr; omega, f1.cap⟩⟩
    · refine WC.skip ?_
      refine WC.seq ?_
      refine WC.region ?_
      have hrn : tr ≠ .nil := (fun e => hy (hx0.2 e)); have hps := pop_step (l := tl) (k := k) (v := z) hrn; rw [← ht] at hps; have hpn := Tr.pop_n tr hrn
      refine WL.r 2 rfl ?_
      refine WL.call rfl rfl (ih (tr.n) (by omega) _ _ _ a A1 (x1 :: R) y1 tr (f1.swap) (f1.ir) (hrn) ((by omega)) ((by simp only [List.length_cons]; omega)) rfl (hS.sel 2 [1, 0] rfl)) rfl ?_
      clear hS; rintro _ w ⟨A2, j1, rfl, hS, f2⟩
      replace hS : St g (Arn a A2 :: cel b2 #[.int .i64 k, .int .i64 z] 46 :: cel b1 #[.int .i64 0, .int .i64 0] 46 :: L) w := hS
      refine WL.r 3 rfl ?_
      refine WL.new rfl rfl zv_46 hS (fun b3 w hS => ?_)
      refine WL.r 1 rfl ?_
      refine WL.stF rfl rfl rfl 0 hS rfl rfl rfl rfl rfl ag_46 (fun w hS => ?_)
      replace hS : St g (cel b3 #[.int .i64 (Tr.pop tr).2.1, .int .i64 (Tr.pop tr).2.2] 46 :: Arn a A2 :: cel b2 #[.int .i64 k, .int .i64 z] 46 :: cel b1 #[.int .i64 0, .int .i64 0] 46 :: L) w := hS
      refine WL.nil ?_
      refine WC.seq ?_
      refine WC.plan [([0, 1, 2, 3, 5], some (4, [5])), ([6], some (7, []))] (by kernel_rfl) (by kernel_rfl) ?_
      refine WQ.r 2 rfl ?_
      refine WQ.ldF rfl rfl 2 hS rfl rfl ag_46 ?_
      refine WQ.r 1 rfl ?_
      refine WQ.ldF rfl rfl 0 hS rfl rfl ag_46 ?_
      refine WQ.nil ?_
      intro m1
      replace hS := hS.drewN m1; generalize hwm1 : World.drewN _ _ = w at *; clear hwm1
      refine WL.call rfl rfl (tw_join (a := a) (A := A2) (R := R) (l := x1) (r := j1) (k := k) (z := z) (tl := tl) (tr := (Tr.pop tr).1) (hA := f2.ref.sw) (hl := (f2.kp x1 (by simp) tl f1.il)) (hr := f2.is) (hf := (by have := f2.fr; omega)) (hz := (by omega)) (hS := (hS.sel 2 [1, 0] rfl))) rfl ?_
      clear hS; rintro _ w ⟨A3, i1, rfl, hS, f3⟩
      replace hS : St g (Arn a A3 :: cel b3 #[.int .i64 (Tr.pop tr).2.1, .int .i64 (Tr.pop tr).2.2] 46 :: cel b2 #[.int .i64 k, .int .i64 z] 46 :: cel b1 #[.int .i64 0, .int .i64 0] 46 :: L) w := hS
      refine WL.nil ?_
      refine ⟨by exact RQ.ldF rfl rfl 1 hS rfl rfl ag_46 rfl rfl, ?_⟩
      refine WQ.r 1 rfl ?_
      refine WQ.nil ?_
      intro m2
      replace hS := hS.drewN m2; generalize hwm2 : World.drewN _ _ = w at *; clear hwm2
      refine WL.stF rfl rfl rfl 3 hS rfl rfl rfl rfl rfl ag_46 (fun w hS => ?_)
      replace hS : St g (Arn a A3 :: cel b3 #[.int .i64 (Tr.pop tr).2.1, .int .i64 (Tr.pop tr).2.2] 46 :: cel b2 #[.int .i64 k, .int .i64 z] 46 :: cel b1 #[.int .i64 (Tr.pop tr).2.1, .int .i64 (Tr.pop tr).2.2] 46 :: L) w := hS
      refine WL.nil ?_
      refine ⟨by exact trivial, ?_⟩
      intro m3
      replace hS := hS.drewN m3; generalize hwm3 : World.drewN _ _ = w at *; clear hwm3
      as_aux_lemma =>
        refine WC.ret ?_
        refine ⟨[.int .u32 i1, .agg #[.int .i64 (Tr.pop tr).2.1, .int .i64 (Tr.pop tr).2.2]], ⟨rfl, ⟨_, rfl, hS.lvF 3 rfl ag_46⟩, trivial⟩, ?_⟩
        replace hS := (hS.sel 4 [0] rfl)
        exact ⟨_, _, by rw [hps.1]; rfl, hS, by rw [hps.1, hps.2]; exact f3.after (f1.ch.trans f2.ch sb0 sb1) sb0 (by omega)⟩
theorem tw_pop_all (nM : Nat) : ∀ (g w : World) (L : List HP) (a : Nat) (A : AM) (R : List Int) (i : Int) (t : Tr), (ARf A (i :: R)) → (Is A t i) → (t ≠ .nil) → ((Tr.pc t : Int) ≤ A.s.free) → (R.length + t.n ≤ 650000000) → t.n = nM → St g (Arn a A :: L) w → Sp Try.prog 136 [.pointer (some ⟨a, 0, none⟩), .int .u32 i] w (fun v w' => ∃ (A2 : AM) (j : Int), v = .tuple #[.int .u32 j, .agg #[.int .i64 (Tr.pop t).2.1, .int .i64 (Tr.pop t).2.2]] ∧ St g (Arn a A2 :: L) w' ∧ (TOp A A2 R j (Tr.pop t).1 (Tr.pc t))) := by
  induction nM using Nat.strongRecOn with
  | _ nM ih => intro g w L a A R i t hA hi hne hf hz hM hS; exact tw_pop_step nM ih a A R i t hA hi hne hf hz hM hS
theorem tw_pop {g w : World} {L : List HP} (a : Nat) (A : AM) (R : List Int) (i : Int) (t : Tr) (hA : ARf A (i :: R)) (hi : Is A t i) (hne : t ≠ .nil) (hf : (Tr.pc t : Int) ≤ A.s.free) (hz : R.length + t.n ≤ 650000000) (hS : St g (Arn a A :: L) w) :
    Sp Try.prog 136 [.pointer (some ⟨a, 0, none⟩), .int .u32 i] w (fun v w' => ∃ (A2 : AM) (j : Int), v = .tuple #[.int .u32 j, .agg #[.int .i64 (Tr.pop t).2.1, .int .i64 (Tr.pop t).2.2]] ∧ St g (Arn a A2 :: L) w' ∧ (TOp A A2 R j (Tr.pop t).1 (Tr.pc t))) := tw_pop_all _ g w L a A R i t hA hi hne hf hz rfl hS
theorem tw_cat {g w : World} {L : List HP} (a : Nat) (A : AM) (R : List Int) (l r : Int) (tl tr : Tr) (hA : ARf A (l :: r :: R)) (hl : Is A tl l) (hr : Is A tr r) (hf : (Tr.cc tl tr : Int) ≤ A.s.free) (hz : R.length + tl.n + tr.n ≤ 600000000) (hS : St g (Arn a A :: L) w) :
    Sp Try.prog 115 [.pointer (some ⟨a, 0, none⟩), .int .u32 l, .int .u32 r] w (fun v w' => ∃ (A2 : AM) (i : Int), v = .int .u32 i ∧ St g (Arn a A2 :: L) w' ∧ (TOp A A2 R i (Tr.cat tl tr) (Tr.cc tl tr))) := by
  refine Sp.enter Try.func115 rfl (by kernel_rfl) (by kernel_rfl) ?_
  have _ := hz
  have _ := hf
  refine WC.seq ?_
  refine WC.region ?_
  refine WL.r 1 rfl ?_
  refine WL.nil ?_
  refine WC.seq ?_
  refine WC.seq ?_
  refine WC.region ?_
  have hl0 := Is.nil_iff hl; have hr0 := Is.nil_iff hr
  refine WL.r 2 rfl ?_
  refine WL.nil ?_
  refine WC.ifP rfl (fun hx => ?_) (fun hx => ?_)
  · refine WC.seq ?_
    refine WC.region ?_
    refine WL.r 2 rfl ?_
    refine WL.nil ?_
    refine WC.ret ?_
    refine ⟨[.int .u32 r], rfl, ?_⟩
    have h9 := hl0.1 hx; subst hx; subst h9; exact ⟨_, _, rfl, hS, ARf.refl hA.tail0 hr⟩
  · refine WC.skip ?_
    refine WC.seq ?_
    refine WC.seq ?_
    refine WC.region ?_
    refine WL.r 2 rfl ?_
    refine WL.nil ?_
    refine WC.ifP rfl (fun hy => ?_) (fun hy => ?_)
    · refine WC.seq ?_
      refine WC.region ?_
      refine WL.r 2 rfl ?_
      refine WL.nil ?_
      refine WC.ret ?_
      refine ⟨[.int .u32 l], rfl, ?_⟩
      have h9 := hr0.1 hy; subst hy; subst h9; exact ⟨_, _, rfl, hS, by rw [cat_nilR]; exact (ARf.refl hA.sw.tail0 hl).weak (Nat.zero_le _)⟩
    · refine WC.skip ?_
      refine WC.seq ?_
      refine WC.region ?_
      have hln : tl ≠ .nil := (fun e => hx (hl0.2 e)); have hcs := cat_step hln (fun e => hy (hr0.2 e)); have hpn := Tr.pop_n tl hln
      refine WL.r 2 rfl ?_
      refine WL.call rfl rfl (tw_pop (a := a) (A := A) (R := r :: R) (i := l) (t := tl) (hA := hA) (hi := hl) (hne := hln) (hf := (by omega)) (hz := (by simp only [List.length_cons]; omega)) (hS := hS)) rfl ?_
      clear hS; rintro _ w ⟨A1, j1, rfl, hS, f1⟩
      replace hS : St g (Arn a A1 :: L) w := hS
      refine WL.r 3 rfl ?_
      refine WL.new rfl rfl zv_46 hS (fun b1 w hS => ?_)
      refine WL.r 1 rfl ?_
      refine WL.stF rfl rfl rfl 0 hS rfl rfl rfl rfl rfl ag_46 (fun w hS => ?_)
      replace hS : St g (cel b1 #[.int .i64 (Tr.pop tl).2.1, .int .i64 (Tr.pop tl).2.2] 46 :: Arn a A1 :: L) w := hS
      refine WL.nil ?_
      as_aux_lemma =>
        refine WC.seq ?_
        refine WC.region ?_
        refine WL.r 2 rfl ?_
        refine WL.ldF rfl rfl 0 hS rfl rfl ag_46 ?_
        refine WL.r 1 rfl ?_
        refine WL.call rfl rfl (tw_join (a := a) (A := A1) (R := R) (l := j1) (r := r) (k := (Tr.pop tl).2.1) (z := (Tr.pop tl).2.2) (tl := (Tr.pop tl).1) (tr := tr) (hA := f1.ref) (hl := f1.is) (hr := (f1.kp r (by simp) tr hr)) (hf := (by have := f1.fr; omega)) (hz := (by omega)) (hS := (hS.sel 2 [1, 0] rfl))) rfl ?_
        clear hS; rintro _ w ⟨A2, i1, rfl, hS, f2⟩
        replace hS : St g (Arn a A2 :: cel b1 #[.int .i64 (Tr.pop tl).2.1, .int .i64 (Tr.pop tl).2.2] 46 :: L) w := hS
        refine WL.r 1 rfl ?_
        refine WL.nil ?_
        refine WC.ret ?_
        refine ⟨[.int .u32 i1], rfl, ?_⟩
        replace hS := (hS.sel 2 [0] rfl)
        exact ⟨_, _, rfl, hS, by rw [hcs.1, hcs.2]; exact f2.after f1.ch sb1 (by omega)⟩
set_option maxHeartbeats 1000000 in
set_option maxRecDepth 8192 in
theorem tw_ins_step (nM : Nat) (ih : ∀ mM : Nat, mM < nM → ∀ (g w : World) (L : List HP) (a : Nat) (A : AM) (R : List Int) (i k z : Int) (t : Tr), (ARf A (i :: R)) → (Is A t i) → ((Tr.ic k z t : Int) ≤ A.s.free) → (R.length + t.n ≤ 600000000) → t.n = mM → St g (Arn a A :: L) w → Sp Try.prog 59 [.pointer (some ⟨a, 0, none⟩), .int .u32 i, .agg #[.int .i64 k, .int .i64 z]] w (fun v w' => ∃ (A2 : AM) (j : Int), v = .int .u32 j ∧ St g (Arn a A2 :: L) w' ∧ (TOp A A2 R j (Tr.ins k z t) (Tr.ic k z t)))) {g w : World} {L : List HP} (a : Nat) (A : AM) (R : List Int) (i k z : Int) (t : Tr) (hA : ARf A (i :: R)) (hi : Is A t i) (hf : (Tr.ic k z t : Int) ≤ A.s.free) (hz : R.length + t.n ≤ 600000000) (hM : t.n = nM) (hS : St g (Arn a A :: L) w) :
    Sp Try.prog 59 [.pointer (some ⟨a, 0, none⟩), .int .u32 i, .agg #[.int .i64 k, .int .i64 z]] w (fun v w' => ∃ (A2 : AM) (j : Int), v = .int .u32 j ∧ St g (Arn a A2 :: L) w' ∧ (TOp A A2 R j (Tr.ins k z t) (Tr.ic k z t))) := by
  refine Sp.enter Try.func59 rfl (by kernel_rfl) (by kernel_rfl) ?_
  have _ := hz
  have _ := hf
  refine WC.seq ?_
  refine WC.region ?_
  refine WL.box rfl rfl #[.int .i64 k, .int .i64 z] hS rfl rfl (fun b1 w hS => ?_)
  refine WL.r 1 rfl ?_
  refine WL.nil ?_
  refine WC.seq ?_
  refine WC.seq ?_
  refine WC.region ?_
  have hx0 := Is.nil_iff hi
  refine WL.r 2 rfl ?_
  refine WL.nil ?_
  refine WC.ifP rfl (fun hx => ?_) (fun hx => ?_)
  · refine WC.seq ?_
    refine WC.region ?_
    have h9 := hx0.1 hx; subst h9; have hA0 : ARf A (0 :: 0 :: R) := (by rw [hx] at hA; exact hA.cons0 (by simp; omega)); have hf1 : Tr.ic k z .nil = 1 := rfl
    refine WL.r 1 rfl ?_
    refine WL.ldF rfl rfl 0 hS rfl rfl ag_46 ?_
    refine WL.call rfl rfl (tw_node (a := a) (A := A) (R := R) (l := 0) (r := 0) (k := k) (z := z) (tl := .nil) (tr := .nil) (hA := hA0) (hl := rfl) (hr := rfl) (hf := (by omega)) (hz := (by simp only [Tr.n]; omega)) (hS := (hS.sel 2 [1, 0] rfl))) rfl ?_
    clear hS; rintro _ w ⟨A1, i1, rfl, hS, f1⟩
    replace hS : St g (Arn a A1 :: cel b1 #[.int .i64 k, .int .i64 z] 46 :: L) w := hS
    refine WL.r 1 rfl ?_
    refine WL.nil ?_
    refine WC.ret ?_
    refine ⟨[.int .u32 i1], rfl, ?_⟩
    replace hS := (hS.sel 2 [0] rfl)
    exact ⟨_, _, rfl, hS, f1⟩
  · refine WC.skip ?_
    refine WC.seq ?_
    refine WC.region ?_
    obtain ⟨tl, fk, fz, tr, ht⟩ := nil_or (t := t) (fun e => hx (hx0.2 e)); have htn : t.n = tl.n + tr.n + 1 := (by rw [ht]; rfl); have hi2 : Is A (.node tl fk fz tr) i := ht ▸ hi
    refine WL.r 2 rfl ?_
    refine WL.call rfl rfl (tw_open (a := a) (A := A) (R := R) (i := i) (k := fk) (z := fz) (l := tl) (r := tr) (hA := hA) (hi := hi2) (hz := (by omega)) (hS := (hS.sel 2 [1, 0] rfl))) rfl ?_
    clear hS; rintro _ w ⟨A1, x1, y1, rfl, hS, f1⟩
    replace hS : St g (Arn a A1 :: cel b1 #[.int .i64 k, .int .i64 z] 46 :: L) w := hS
    refine WL.r 4 rfl ?_
    refine WL.new rfl rfl zv_46 hS (fun b2 w hS => ?_)
    refine WL.r 1 rfl ?_
    refine WL.stF rfl rfl rfl 0 hS rfl rfl rfl rfl rfl ag_46 (fun w hS => ?_)
    replace hS : St g (cel b2 #[.int .i64 fk, .int .i64 fz] 46 :: Arn a A1 :: cel b1 #[.int .i64 k, .int .i64 z] 46 :: L) w := hS
    refine WL.r 1 rfl ?_
    refine WL.nil ?_
    as_aux_lemma =>
      refine WC.seq ?_
      refine WC.block ?_
      refine WC.seq ?_
      refine WC.region ?_
      have hr1 := f1.rng; have hfr1 := f1.fr
      refine WL.run 6 [.int .i64 k, .int .i64 fk] rfl (by exact ⟨hS.ld 2 rfl rfl, hS.ld 0 rfl rfl⟩) ?_
      refine WL.nil ?_
      refine WC.ifP rfl (fun hlt => ?_) (fun hlt => ?_)
      · refine WC.seq ?_
        refine WC.plan [([0, 1, 2, 3, 5, 6], some (4, [0, 5, 6])), ([], some (7, [])), ([8], none)] (by kernel_rfl) (by kernel_rfl) ?_
        have hie : Tr.ic k z t = Tr.ic k z tl + Tr.jc (Tr.ins k z tl) tr := (by rw [ht, Tr.ic, if_pos hlt]); have hne : Tr.ins k z t = Tr.join (Tr.ins k z tl) fk fz tr := (by rw [ht, Tr.ins, if_pos hlt]); have hin := Tr.ins_n k z tl
        refine WQ.r 3 rfl ?_
        refine WQ.ldF rfl rfl 2 hS rfl rfl ag_46 ?_
        refine WQ.ldF rfl rfl 0 hS rfl rfl ag_46 ?_
        refine WQ.r 1 rfl ?_
        refine WQ.nil ?_
        intro m1
        replace hS := hS.drewN m1; generalize hwm1 : World.drewN _ _ = w at *; clear hwm1
        refine WL.call rfl rfl (ih (tl.n) (by omega) _ _ _ a A1 (y1 :: R) x1 k z tl (f1.ref) (f1.il) ((by omega)) ((by simp only [List.length_cons]; omega)) rfl (hS.sel 2 [1, 0] rfl)) rfl ?_
        clear hS; rintro _ w ⟨A2, j1, rfl, hS, f2⟩
        replace hS : St g (Arn a A2 :: cel b2 #[.int .i64 fk, .int .i64 fz] 46 :: cel b1 #[.int .i64 k, .int .i64 z] 46 :: L) w := hS
        refine WL.nil ?_
        refine ⟨by exact ⟨RQ.pure rfl rfl rfl rfl, RQ.ldF rfl rfl 1 hS rfl rfl ag_46 rfl rfl, RQ.pure rfl rfl rfl rfl⟩, ?_⟩
        refine WQ.nil ?_
        intro m2
        replace hS := hS.drewN m2; generalize hwm2 : World.drewN _ _ = w at *; clear hwm2
        refine WL.call rfl rfl (tw_join (a := a) (A := A2) (R := R) (l := j1) (r := y1) (k := fk) (z := fz) (tl := Tr.ins k z tl) (tr := tr) (hA := f2.ref) (hl := f2.is) (hr := (f2.kp y1 (by simp) tr f1.ir)) (hf := (by have := f2.fr; omega)) (hz := (by split at hin <;> omega)) (hS := hS)) rfl ?_
        clear hS; rintro _ w ⟨A3, i1, rfl, hS, f3⟩
        replace hS : St g (Arn a A3 :: cel b2 #[.int .i64 fk, .int .i64 fz] 46 :: cel b1 #[.int .i64 k, .int .i64 z] 46 :: L) w := hS
        refine WL.nil ?_
        refine ⟨by exact trivial, ?_⟩
        refine WQ.r 1 rfl ?_
        refine WQ.nil ?_
        intro m3
        replace hS := hS.drewN m3; generalize hwm3 : World.drewN _ _ = w at *; clear hwm3
        as_aux_lemma =>
          refine WC.ret ?_
          refine ⟨[.int .u32 i1], rfl, ?_⟩
          replace hS := (hS.sel 3 [0] rfl)
          exact ⟨_, _, rfl, hS, by rw [hne, hie]; exact f3.after (f1.ch.trans f2.ch sb0 sb1) sb0 (by omega)⟩
      · refine WC.seq ?_
        refine WC.region ?_
        refine WL.run 6 [.int .i64 k, .int .i64 fk] rfl (by exact ⟨hS.ld 2 rfl rfl, hS.ld 0 rfl rfl⟩) ?_
        refine WL.nil ?_
        refine WC.ifP rfl (fun hgt => ?_) (fun hgt => ?_)
        · refine WC.seq ?_
          refine WC.plan [([0, 1, 2, 3, 4, 5], some (6, [0, 1, 2])), ([], some (7, [])), ([8], none)] (by kernel_rfl) (by kernel_rfl) ?_
          have hie : Tr.ic k z t = Tr.ic k z tr + Tr.jc tl (Tr.ins k z tr) := (by rw [ht, Tr.ic, if_neg hlt, if_pos hgt]); have hne : Tr.ins k z t = Tr.join tl fk fz (Tr.ins k z tr) := (by rw [ht, Tr.ins, if_neg hlt, if_pos hgt]); have hin := Tr.ins_n k z tr
          refine WQ.r 2 rfl ?_
          refine WQ.ldF rfl rfl 0 hS rfl rfl ag_46 ?_
          refine WQ.r 2 rfl ?_
          refine WQ.ldF rfl rfl 2 hS rfl rfl ag_46 ?_
          refine WQ.nil ?_
          intro m1
          replace hS := hS.drewN m1; generalize hwm1 : World.drewN _ _ = w at *; clear hwm1
          refine WL.call rfl rfl (ih (tr.n) (by omega) _ _ _ a A1 (x1 :: R) y1 k z tr (f1.swap) (f1.ir) ((by omega)) ((by simp only [List.length_cons]; omega)) rfl (hS.sel 2 [1, 0] rfl)) rfl ?_
          clear hS; rintro _ w ⟨A2, j1, rfl, hS, f2⟩
          replace hS : St g (Arn a A2 :: cel b2 #[.int .i64 fk, .int .i64 fz] 46 :: cel b1 #[.int .i64 k, .int .i64 z] 46 :: L) w := hS
          refine WL.nil ?_
          refine ⟨by exact ⟨RQ.pure rfl rfl rfl rfl, RQ.pure rfl rfl rfl rfl, RQ.ldF rfl rfl 1 hS rfl rfl ag_46 rfl rfl⟩, ?_⟩
          refine WQ.nil ?_
          intro m2
          replace hS := hS.drewN m2; generalize hwm2 : World.drewN _ _ = w at *; clear hwm2
          refine WL.call rfl rfl (tw_join (a := a) (A := A2) (R := R) (l := x1) (r := j1) (k := fk) (z := fz) (tl := tl) (tr := Tr.ins k z tr) (hA := f2.ref.sw) (hl := (f2.kp x1 (by simp) tl f1.il)) (hr := f2.is) (hf := (by have := f2.fr; omega)) (hz := (by split at hin <;> omega)) (hS := hS)) rfl ?_
          clear hS; rintro _ w ⟨A3, i1, rfl, hS, f3⟩
          replace hS : St g (Arn a A3 :: cel b2 #[.int .i64 fk, .int .i64 fz] 46 :: cel b1 #[.int .i64 k, .int .i64 z] 46 :: L) w := hS
          refine WL.nil ?_
          refine ⟨by exact trivial, ?_⟩
          refine WQ.r 1 rfl ?_
          refine WQ.nil ?_
          intro m3
          replace hS := hS.drewN m3; generalize hwm3 : World.drewN _ _ = w at *; clear hwm3
          as_aux_lemma =>
            refine WC.ret ?_
            refine ⟨[.int .u32 i1], rfl, ?_⟩
            replace hS := (hS.sel 3 [0] rfl)
            exact ⟨_, _, rfl, hS, by rw [hne, hie]; exact f3.after (f1.ch.trans f2.ch sb0 sb1) sb0 (by omega)⟩
        · refine WC.skip ?_
          refine WC.seq ?_
          refine WC.region ?_
          have hie : Tr.ic k z t = 1 := (by rw [ht, Tr.ic, if_neg hlt, if_neg hgt]); have hne : Tr.ins k z t = .node tl k z tr := (by rw [ht, Tr.ins, if_neg hlt, if_neg hgt])
          refine WL.r 2 rfl ?_
          refine WL.ldF rfl rfl 2 hS rfl rfl ag_46 ?_
          refine WL.r 1 rfl ?_
          refine WL.call rfl rfl (tw_node (a := a) (A := A1) (R := R) (l := x1) (r := y1) (k := k) (z := z) (tl := tl) (tr := tr) (hA := f1.ref) (hl := f1.il) (hr := f1.ir) (hf := (by omega)) (hz := (by omega)) (hS := (hS.sel 2 [1, 0] rfl))) rfl ?_
          clear hS; rintro _ w ⟨A2, i1, rfl, hS, f2⟩
          replace hS : St g (Arn a A2 :: cel b2 #[.int .i64 fk, .int .i64 fz] 46 :: cel b1 #[.int .i64 k, .int .i64 z] 46 :: L) w := hS
          refine WL.r 1 rfl ?_
          refine WL.nil ?_
          as_aux_lemma =>
            refine WC.ret ?_
            refine ⟨[.int .u32 i1], rfl, ?_⟩
            replace hS := (hS.sel 3 [0] rfl)
            exact ⟨_, _, rfl, hS, by rw [hne, hie]; exact f2.after f1.ch sb0 (by omega)⟩
theorem tw_ins_all (nM : Nat) : ∀ (g w : World) (L : List HP) (a : Nat) (A : AM) (R : List Int) (i k z : Int) (t : Tr), (ARf A (i :: R)) → (Is A t i) → ((Tr.ic k z t : Int) ≤ A.s.free) → (R.length + t.n ≤ 600000000) → t.n = nM → St g (Arn a A :: L) w → Sp Try.prog 59 [.pointer (some ⟨a, 0, none⟩), .int .u32 i, .agg #[.int .i64 k, .int .i64 z]] w (fun v w' => ∃ (A2 : AM) (j : Int), v = .int .u32 j ∧ St g (Arn a A2 :: L) w' ∧ (TOp A A2 R j (Tr.ins k z t) (Tr.ic k z t))) := by
  induction nM using Nat.strongRecOn with
  | _ nM ih => intro g w L a A R i k z t hA hi hf hz hM hS; exact tw_ins_step nM ih a A R i k z t hA hi hf hz hM hS
theorem tw_ins {g w : World} {L : List HP} (a : Nat) (A : AM) (R : List Int) (i k z : Int) (t : Tr) (hA : ARf A (i :: R)) (hi : Is A t i) (hf : (Tr.ic k z t : Int) ≤ A.s.free) (hz : R.length + t.n ≤ 600000000) (hS : St g (Arn a A :: L) w) :
    Sp Try.prog 59 [.pointer (some ⟨a, 0, none⟩), .int .u32 i, .agg #[.int .i64 k, .int .i64 z]] w (fun v w' => ∃ (A2 : AM) (j : Int), v = .int .u32 j ∧ St g (Arn a A2 :: L) w' ∧ (TOp A A2 R j (Tr.ins k z t) (Tr.ic k z t))) := tw_ins_all _ g w L a A R i k z t hA hi hf hz rfl hS
set_option maxHeartbeats 1000000 in
set_option maxRecDepth 8192 in
theorem tw_del_step (nM : Nat) (ih : ∀ mM : Nat, mM < nM → ∀ (g w : World) (L : List HP) (a : Nat) (A : AM) (R : List Int) (i k : Int) (t : Tr), (ARf A (i :: R)) → (Is A t i) → ((Tr.dc k t : Int) ≤ A.s.free) → (R.length + t.n ≤ 550000000) → t.n = mM → St g (Arn a A :: L) w → Sp Try.prog 83 [.pointer (some ⟨a, 0, none⟩), .int .u32 i, .int .i64 k] w (fun v w' => ∃ (A2 : AM) (j : Int), v = .int .u32 j ∧ St g (Arn a A2 :: L) w' ∧ (TOp A A2 R j (Tr.del k t) (Tr.dc k t)))) {g w : World} {L : List HP} (a : Nat) (A : AM) (R : List Int) (i k : Int) (t : Tr) (hA : ARf A (i :: R)) (hi : Is A t i) (hf : (Tr.dc k t : Int) ≤ A.s.free) (hz : R.length + t.n ≤ 550000000) (hM : t.n = nM) (hS : St g (Arn a A :: L) w) :
    Sp Try.prog 83 [.pointer (some ⟨a, 0, none⟩), .int .u32 i, .int .i64 k] w (fun v w' => ∃ (A2 : AM) (j : Int), v = .int .u32 j ∧ St g (Arn a A2 :: L) w' ∧ (TOp A A2 R j (Tr.del k t) (Tr.dc k t))) := by
  refine Sp.enter Try.func83 rfl (by kernel_rfl) (by kernel_rfl) ?_
  have _ := hz
  have _ := hf
  refine WC.seq ?_
  refine WC.region ?_
  refine WL.r 1 rfl ?_
  refine WL.nil ?_
  refine WC.seq ?_
  refine WC.seq ?_
  refine WC.region ?_
  have hx0 := Is.nil_iff hi
  refine WL.r 2 rfl ?_
  refine WL.nil ?_
  refine WC.ifP rfl (fun hx => ?_) (fun hx => ?_)
  · refine WC.seq ?_
    refine WC.region ?_
    refine WL.r 1 rfl ?_
    refine WL.nil ?_
    refine WC.ret ?_
    refine ⟨[.int .u32 0], rfl, ?_⟩
    have h9 := hx0.1 hx; subst hx; subst h9; exact ⟨_, _, rfl, hS, ARf.refl hA hi⟩
  · refine WC.skip ?_
    refine WC.seq ?_
    refine WC.region ?_
    obtain ⟨tl, fk, fz, tr, ht⟩ := nil_or (t := t) (fun e => hx (hx0.2 e)); have htn : t.n = tl.n + tr.n + 1 := (by rw [ht]; rfl); have hi2 : Is A (.node tl fk fz tr) i := ht ▸ hi
    refine WL.r 2 rfl ?_
    refine WL.call rfl rfl (tw_open (a := a) (A := A) (R := R) (i := i) (k := fk) (z := fz) (l := tl) (r := tr) (hA := hA) (hi := hi2) (hz := (by omega)) (hS := hS)) rfl ?_
    clear hS; rintro _ w ⟨A1, x1, y1, rfl, hS, f1⟩
    replace hS : St g (Arn a A1 :: L) w := hS
    refine WL.r 4 rfl ?_
    refine WL.new rfl rfl zv_46 hS (fun b1 w hS => ?_)
    refine WL.r 1 rfl ?_
    refine WL.stF rfl rfl rfl 0 hS rfl rfl rfl rfl rfl ag_46 (fun w hS => ?_)
    replace hS : St g (cel b1 #[.int .i64 fk, .int .i64 fz] 46 :: Arn a A1 :: L) w := hS
    refine WL.r 1 rfl ?_
    refine WL.nil ?_
    as_aux_lemma =>
      refine WC.seq ?_
      refine WC.block ?_
      refine WC.seq ?_
      refine WC.region ?_
      have hr1 := f1.rng; have hfr1 := f1.fr
      refine WL.run 5 [.int .i64 fk] rfl (by exact hS.ld 0 rfl rfl) ?_
      refine WL.nil ?_
      refine WC.ifP rfl (fun hlt => ?_) (fun hlt => ?_)
      · refine WC.seq ?_
        refine WC.plan [([0, 1, 2, 3, 5, 6], some (4, [0, 5, 6])), ([], some (7, [])), ([8], none)] (by kernel_rfl) (by kernel_rfl) ?_
        have hie : Tr.dc k t = Tr.dc k tl + Tr.jc (Tr.del k tl) tr := (by rw [ht, Tr.dc, if_pos hlt]); have hne : Tr.del k t = Tr.join (Tr.del k tl) fk fz tr := (by rw [ht, Tr.del, if_pos hlt]); have hin := Tr.del_n k tl
        refine WQ.r 4 rfl ?_
        refine WQ.ldF rfl rfl 0 hS rfl rfl ag_46 ?_
        refine WQ.r 1 rfl ?_
        refine WQ.nil ?_
        intro m1
        replace hS := hS.drewN m1; generalize hwm1 : World.drewN _ _ = w at *; clear hwm1
        refine WL.call rfl rfl (ih (tl.n) (by omega) _ _ _ a A1 (y1 :: R) x1 k tl (f1.ref) (f1.il) ((by omega)) ((by simp only [List.length_cons]; omega)) rfl (hS.sel 2 [1, 0] rfl)) rfl ?_
        clear hS; rintro _ w ⟨A2, j1, rfl, hS, f2⟩
        replace hS : St g (Arn a A2 :: cel b1 #[.int .i64 fk, .int .i64 fz] 46 :: L) w := hS
        refine WL.nil ?_
        refine ⟨by exact ⟨RQ.pure rfl rfl rfl rfl, RQ.ldF rfl rfl 1 hS rfl rfl ag_46 rfl rfl, RQ.pure rfl rfl rfl rfl⟩, ?_⟩
        refine WQ.nil ?_
        intro m2
        replace hS := hS.drewN m2; generalize hwm2 : World.drewN _ _ = w at *; clear hwm2
        refine WL.call rfl rfl (tw_join (a := a) (A := A2) (R := R) (l := j1) (r := y1) (k := fk) (z := fz) (tl := Tr.del k tl) (tr := tr) (hA := f2.ref) (hl := f2.is) (hr := (f2.kp y1 (by simp) tr f1.ir)) (hf := (by have := f2.fr; omega)) (hz := (by split at hin <;> omega)) (hS := hS)) rfl ?_
        clear hS; rintro _ w ⟨A3, i1, rfl, hS, f3⟩
        replace hS : St g (Arn a A3 :: cel b1 #[.int .i64 fk, .int .i64 fz] 46 :: L) w := hS
        refine WL.nil ?_
        refine ⟨by exact trivial, ?_⟩
        refine WQ.r 1 rfl ?_
        refine WQ.nil ?_
        intro m3
        replace hS := hS.drewN m3; generalize hwm3 : World.drewN _ _ = w at *; clear hwm3
        as_aux_lemma =>
          refine WC.ret ?_
          refine ⟨[.int .u32 i1], rfl, ?_⟩
          replace hS := (hS.sel 2 [0] rfl)
          exact ⟨_, _, rfl, hS, by rw [hne, hie]; exact f3.after (f1.ch.trans f2.ch sb0 sb1) sb0 (by omega)⟩
      · refine WC.seq ?_
        refine WC.region ?_
        refine WL.run 5 [.int .i64 fk] rfl (by exact hS.ld 0 rfl rfl) ?_
        refine WL.nil ?_
        refine WC.ifP rfl (fun hgt => ?_) (fun hgt => ?_)
        · refine WC.seq ?_
          refine WC.plan [([0, 1, 2, 3, 4, 5], some (6, [0, 1, 2])), ([], some (7, [])), ([8], none)] (by kernel_rfl) (by kernel_rfl) ?_
          have hie : Tr.dc k t = Tr.dc k tr + Tr.jc tl (Tr.del k tr) := (by rw [ht, Tr.dc, if_neg hlt, if_pos hgt]); have hne : Tr.del k t = Tr.join tl fk fz (Tr.del k tr) := (by rw [ht, Tr.del, if_neg hlt, if_pos hgt]); have hin := Tr.del_n k tr
          refine WQ.r 2 rfl ?_
          refine WQ.ldF rfl rfl 0 hS rfl rfl ag_46 ?_
          refine WQ.r 3 rfl ?_
          refine WQ.nil ?_
          intro m1
          replace hS := hS.drewN m1; generalize hwm1 : World.drewN _ _ = w at *; clear hwm1
          refine WL.call rfl rfl (ih (tr.n) (by omega) _ _ _ a A1 (x1 :: R) y1 k tr (f1.swap) (f1.ir) ((by omega)) ((by simp only [List.length_cons]; omega)) rfl (hS.sel 2 [1, 0] rfl)) rfl ?_
          clear hS; rintro _ w ⟨A2, j1, rfl, hS, f2⟩
          replace hS : St g (Arn a A2 :: cel b1 #[.int .i64 fk, .int .i64 fz] 46 :: L) w := hS
          refine WL.nil ?_
          refine ⟨by exact ⟨RQ.pure rfl rfl rfl rfl, RQ.pure rfl rfl rfl rfl, RQ.ldF rfl rfl 1 hS rfl rfl ag_46 rfl rfl⟩, ?_⟩
          refine WQ.nil ?_
          intro m2
          replace hS := hS.drewN m2; generalize hwm2 : World.drewN _ _ = w at *; clear hwm2
          refine WL.call rfl rfl (tw_join (a := a) (A := A2) (R := R) (l := x1) (r := j1) (k := fk) (z := fz) (tl := tl) (tr := Tr.del k tr) (hA := f2.ref.sw) (hl := (f2.kp x1 (by simp) tl f1.il)) (hr := f2.is) (hf := (by have := f2.fr; omega)) (hz := (by split at hin <;> omega)) (hS := hS)) rfl ?_
          clear hS; rintro _ w ⟨A3, i1, rfl, hS, f3⟩
          replace hS : St g (Arn a A3 :: cel b1 #[.int .i64 fk, .int .i64 fz] 46 :: L) w := hS
          refine WL.nil ?_
          refine ⟨by exact trivial, ?_⟩
          refine WQ.r 1 rfl ?_
          refine WQ.nil ?_
          intro m3
          replace hS := hS.drewN m3; generalize hwm3 : World.drewN _ _ = w at *; clear hwm3
          as_aux_lemma =>
            refine WC.ret ?_
            refine ⟨[.int .u32 i1], rfl, ?_⟩
            replace hS := (hS.sel 2 [0] rfl)
            exact ⟨_, _, rfl, hS, by rw [hne, hie]; exact f3.after (f1.ch.trans f2.ch sb0 sb1) sb0 (by omega)⟩
        · refine WC.skip ?_
          refine WC.seq ?_
          refine WC.region ?_
          have hie : Tr.dc k t = Tr.cc tl tr := (by rw [ht, Tr.dc, if_neg hlt, if_neg hgt]); have hne : Tr.del k t = Tr.cat tl tr := (by rw [ht, Tr.del, if_neg hlt, if_neg hgt])
          refine WL.r 3 rfl ?_
          refine WL.call rfl rfl (tw_cat (a := a) (A := A1) (R := R) (l := x1) (r := y1) (tl := tl) (tr := tr) (hA := f1.ref) (hl := f1.il) (hr := f1.ir) (hf := (by omega)) (hz := (by omega)) (hS := (hS.sel 2 [1, 0] rfl))) rfl ?_
          clear hS; rintro _ w ⟨A2, i1, rfl, hS, f2⟩
          replace hS : St g (Arn a A2 :: cel b1 #[.int .i64 fk, .int .i64 fz] 46 :: L) w := hS
          refine WL.r 1 rfl ?_
          refine WL.nil ?_
          refine WC.ret ?_
          refine ⟨[.int .u32 i1], rfl, ?_⟩
          replace hS := (hS.sel 2 [0] rfl)
          exact ⟨_, _, rfl, hS, by rw [hne, hie]; exact f2.after f1.ch sb0 (by omega)⟩
theorem tw_del_all (nM : Nat) : ∀ (g w : World) (L : List HP) (a : Nat) (A : AM) (R : List Int) (i k : Int) (t : Tr), (ARf A (i :: R)) → (Is A t i) → ((Tr.dc k t : Int) ≤ A.s.free) → (R.length + t.n ≤ 550000000) → t.n = nM → St g (Arn a A :: L) w → Sp Try.prog 83 [.pointer (some ⟨a, 0, none⟩), .int .u32 i, .int .i64 k] w (fun v w' => ∃ (A2 : AM) (j : Int), v = .int .u32 j ∧ St g (Arn a A2 :: L) w' ∧ (TOp A A2 R j (Tr.del k t) (Tr.dc k t))) := by
  induction nM using Nat.strongRecOn with
  | _ nM ih => intro g w L a A R i k t hA hi hf hz hM hS; exact tw_del_step nM ih a A R i k t hA hi hf hz hM hS
theorem tw_del {g w : World} {L : List HP} (a : Nat) (A : AM) (R : List Int) (i k : Int) (t : Tr) (hA : ARf A (i :: R)) (hi : Is A t i) (hf : (Tr.dc k t : Int) ≤ A.s.free) (hz : R.length + t.n ≤ 550000000) (hS : St g (Arn a A :: L) w) :
    Sp Try.prog 83 [.pointer (some ⟨a, 0, none⟩), .int .u32 i, .int .i64 k] w (fun v w' => ∃ (A2 : AM) (j : Int), v = .int .u32 j ∧ St g (Arn a A2 :: L) w' ∧ (TOp A A2 R j (Tr.del k t) (Tr.dc k t))) := tw_del_all _ g w L a A R i k t hA hi hf hz rfl hS
theorem tw_hold {g w : World} {L : List HP} (a : Nat) (A : AM) (R : List Int) (i : Int) (hA : ARf A R) (hi : i = 0 ∨ (1 ≤ i ∧ A.s.ok i = true)) (hz : R.length ≤ 900000000) (hS : St g (Arn a A :: L) w) :
    Sp Try.prog 55 [.pointer (some ⟨a, 0, none⟩), .int .u32 i] w (fun v w' => v = .int .u32 i ∧ St g (Arn a (A.ret i) :: L) w' ∧ (ARf (A.ret i) (i :: R))) := by
  refine Sp.enter Try.func55 rfl (by kernel_rfl) (by kernel_rfl) ?_
  have _ := hz
  refine WC.seq ?_
  refine WC.region ?_
  refine WL.r 1 rfl ?_
  refine WL.nil ?_
  refine WC.seq ?_
  refine WC.region ?_
  have hri := hA.okrng hi
  refine WL.r 2 rfl ?_
  refine WL.call rfl rfl (ar_retain (a := a) (A := A) (i := i) (hA := hA.toAWf) (hi := (by omega)) (hS := hS)) rfl ?_
  clear hS; rintro _ w ⟨rfl, hS⟩
  replace hS : St g (Arn a (A.ret i) :: L) w := hS
  refine WL.nil ?_
  refine WC.seq ?_
  refine WC.region ?_
  refine WL.r 2 rfl ?_
  refine WL.nil ?_
  refine WC.ret ?_
  refine ⟨[.int .u32 i], rfl, ?_⟩
  exact ⟨rfl, hS, (AM.ret_eq hA hi (by omega)).1⟩
theorem tw_room {g w : World} {L : List HP} (a : Nat) (A : AM) (n : Int) (hA : AWf A) (hS : St g (Arn a A :: L) w) :
    Sp Try.prog 56 [.pointer (some ⟨a, 0, none⟩), .int .i64 n] w (fun v w' => v = .bool (decide (0 ≤ n ∧ n ≤ A.s.free)) ∧ St g (Arn a A :: L) w') := by
  refine Sp.enter Try.func56 rfl (by kernel_rfl) (by kernel_rfl) ?_
  refine WC.seq ?_
  refine WC.region ?_
  refine WL.r 1 rfl ?_
  refine WL.nil ?_
  refine WC.seq ?_
  refine WC.region ?_
  refine WL.r 3 rfl ?_
  by_cases cg1 : 0 ≤ n
  · refine WL.reb 7 (.bool true) (congrArg Value.bool (decide_eq_true cg1)) ?_
    refine WL.ung rfl rfl rfl ?_
    refine WL.r 1 rfl ?_
    refine WL.ung rfl rfl rfl ?_
    refine WL.call rfl rfl (ar_free (a := a) (A := A) (hA := hA) (hS := hS)) rfl ?_
    clear hS; rintro _ w ⟨rfl, hS⟩
    replace hS : St g (Arn a A :: L) w := hS
    refine WL.ung rfl rfl rfl ?_
    refine WL.r 1 rfl ?_
    refine WL.ung rfl rfl rfl ?_
    refine WL.r 3 rfl ?_
    refine WL.nil ?_
    refine WC.ret ?_
    refine ⟨[.bool (decide (n ≤ A.s.free))], rfl, ?_⟩
    first | exact ⟨congrArg Value.bool (dec_congr (by omega)), hS⟩ | exact ⟨congrArg Value.bool (decide_eq_false (by omega)).symm, hS⟩
  · refine WL.reb 7 (.bool false) (congrArg Value.bool (decide_eq_false cg1)) ?_
    refine WL.skp rfl rfl rfl rfl ?_
    refine WL.skp rfl rfl rfl rfl ?_
    refine WL.skp rfl rfl rfl rfl ?_
    refine WL.skp rfl rfl rfl rfl ?_
    refine WL.r 2 rfl ?_
    refine WL.nil ?_
    refine WC.ret ?_
    refine ⟨[.bool false], rfl, ?_⟩
    first | exact ⟨congrArg Value.bool (dec_congr (by omega)), hS⟩ | exact ⟨congrArg Value.bool (decide_eq_false (by omega)).symm, hS⟩
end Go.Proofs.Ytlnlnebibgdjdaa
