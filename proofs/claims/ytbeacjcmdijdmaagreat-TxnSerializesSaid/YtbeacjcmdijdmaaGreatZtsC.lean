/-
  What the proof of Jtz stands on, part 3.
  Conditions: none.
-/
import Derived.Test.YtbeacjcmdijdmaaGreatZtsB
/-! ## W4 -/
namespace Go.Proofs.YtbeacjcmdijdmaaGreat
open Go Go.V
theorem pop_step {l r : Tr} {k v : Int} (h : r ≠ .nil) : Tr.pop (.node l k v r) = (Tr.join l k v (Tr.pop r).1, (Tr.pop r).2) ∧ Tr.pc (.node l k v r) = Tr.pc r + Tr.jc l (Tr.pop r).1 := by
  cases r with
  | nil => exact absurd rfl h
  | node a b c d => exact ⟨by rw [Tr.pop], by rw [Tr.pc]⟩
theorem cat_step {l r : Tr} (hl : l ≠ .nil) (hr : r ≠ .nil) : Tr.cat l r = Tr.join (Tr.pop l).1 (Tr.pop l).2.1 (Tr.pop l).2.2 r ∧ Tr.cc l r = Tr.pc l + Tr.jc (Tr.pop l).1 r := by
  cases l with
  | nil => exact absurd rfl hl
  | node a b c d =>
    cases r with
    | nil => exact absurd rfl hr
    | node a' b' c' d' => exact ⟨rfl, rfl⟩
theorem cat_nilR {l : Tr} : Tr.cat l .nil = l := by cases l <;> rfl
theorem nil_or {t : Tr} (h : t ≠ .nil) : ∃ l k v r, t = .node l k v r := by
  cases t with
  | nil => exact absurd rfl h
  | node l k v r => exact ⟨l, k, v, r, rfl⟩
set_option maxHeartbeats 1000000 in
set_option maxRecDepth 8192 in
theorem tw_pop_step (nM : Nat) (ih : ∀ mM : Nat, mM < nM → ∀ (g w : World) (L : List HP) (a : Nat) (A : AM) (R : List Int) (i : Int) (t : Tr), (ARf A (i :: R)) → (Is A t i) → (t ≠ .nil) → ((Tr.pc t : Int) ≤ A.s.free) → (R.length + t.n ≤ 650000000) → t.n = mM → St g (Arn a A :: L) w → Sp Tryz.prog 211 [.pointer (some ⟨a, 0, none⟩), .int .u32 i] w (fun v w' => ∃ (A2 : AM) (j : Int), v = .tuple #[.int .u32 j, .agg #[.int .i64 (Tr.pop t).2.1, .int .i64 (Tr.pop t).2.2]] ∧ St g (Arn a A2 :: L) w' ∧ (TOp A A2 R j (Tr.pop t).1 (Tr.pc t)))) {g w : World} {L : List HP} (a : Nat) (A : AM) (R : List Int) (i : Int) (t : Tr) (hA : ARf A (i :: R)) (hi : Is A t i) (hne : t ≠ .nil) (hf : (Tr.pc t : Int) ≤ A.s.free) (hz : R.length + t.n ≤ 650000000) (hM : t.n = nM) (hS : St g (Arn a A :: L) w) :
    Sp Tryz.prog 211 [.pointer (some ⟨a, 0, none⟩), .int .u32 i] w (fun v w' => ∃ (A2 : AM) (j : Int), v = .tuple #[.int .u32 j, .agg #[.int .i64 (Tr.pop t).2.1, .int .i64 (Tr.pop t).2.2]] ∧ St g (Arn a A2 :: L) w' ∧ (TOp A A2 R j (Tr.pop t).1 (Tr.pc t))) := by
  refine Sp.enter Tryz.func211 rfl (by kernel_rfl) (by kernel_rfl) ?_
  have _ := hz
  have _ := hf
  refine WC.seq <| WC.region <| WL.r 1 rfl <| WL.new rfl rfl zv_121 hS (fun b1 w hS => ?_)
  refine WL.nil <| WC.seq <| WC.region ?_
  obtain ⟨tl, k, z, tr, ht⟩ := nil_or hne; have htn : t.n = tl.n + tr.n + 1 := (by rw [ht]; rfl); have hi2 : Is A (.node tl k z tr) i := ht ▸ hi
  refine WL.r 2 rfl <| WL.call rfl rfl (tw_open (R := R) (i := i) (k := k) (z := z) (l := tl) (r := tr) (hA := hA) (hi := hi2) (hz := (by omega)) (hS := (hS.sel 2 [1, 0] rfl))) rfl ?_
  clear hS; rintro _ w ⟨A1, x1, y1, rfl, hS, f1⟩
  replace hS : St g (Arn a A1 :: cel b1 #[.int .i64 0, .int .i64 0] 121 :: L) w := hS
  refine WL.r 4 rfl <| WL.new rfl rfl zv_121 hS (fun b2 w hS => ?_)
  refine WL.r 1 rfl <| WL.stF rfl rfl rfl 0 hS rfl rfl rfl rfl rfl ag_121 (fun w hS => ?_)
  replace hS := hS.n3 L (a0 := cel b2 #[.int .i64 k, .int .i64 z] 121) rfl
  refine WL.r 1 rfl <| WL.nil <| WC.seq <| WC.seq <| WC.region ?_
  have hr1 := f1.rng; have hx0 := Is.nil_iff f1.ir; have hfr1 := f1.fr
  refine WL.r 2 rfl <| WL.nil ?_
  as_aux_lemma =>
  refine WC.ifP rfl (fun hy => ?_) (fun hy => ?_)
  · refine WC.seq <| WC.plan [([0, 2], some (1, [0, 2])), ([], some (3, []))] (by kernel_rfl) (by kernel_rfl) ?_
    refine WQ.r 2 rfl <| WQ.nil ?_
    intro m1
    replace hS := hS.drewN m1; generalize hwm1 : World.drewN _ _ = w at *; clear hwm1
    refine WL.ldF rfl rfl 0 hS rfl rfl ag_121 <| WL.nil ?_
    refine ⟨by exact ⟨RQ.pure rfl rfl rfl rfl, RQ.pure rfl rfl rfl rfl⟩, ?_⟩
    refine WQ.nil ?_
    intro m2
    replace hS := hS.drewN m2; generalize hwm2 : World.drewN _ _ = w at *; clear hwm2
    refine WL.stF rfl rfl rfl 2 hS rfl rfl rfl rfl rfl ag_121 (fun w hS => ?_)
    replace hS := hS.n3 L (a2 := cel b1 #[.int .i64 k, .int .i64 z] 121) rfl
    refine WL.nil ?_
    refine ⟨by exact trivial, ?_⟩
    intro m3
    replace hS := hS.drewN m3; generalize hwm3 : World.drewN _ _ = w at *; clear hwm3
    refine WC.ret ?_
    refine ⟨[.int .u32 x1, .agg #[.int .i64 k, .int .i64 z]], ⟨rfl, ⟨_, rfl, hS.lvF 2 rfl ag_121⟩, trivial⟩, ?_⟩
    replace hS := (hS.sel 3 [1] rfl)
    have hrn := hx0.1 hy; subst hrn; subst hy; subst ht; exact ⟨_, _, rfl, hS, ⟨f1.ref.sw.tail0, f1.il, f1.kp, by have := f1.fr; omega, f1.cap⟩⟩
  · refine WC.skip <| WC.seq <| WC.region ?_
    have hrn : tr ≠ .nil := (fun e => hy (hx0.2 e)); have hps := pop_step (l := tl) (k := k) (v := z) hrn; rw [← ht] at hps; have hpn := Tr.pop_n tr hrn
    refine WL.r 2 rfl <| WL.call rfl rfl (ih (tr.n) (by omega) _ _ _ a A1 (x1 :: R) y1 tr (f1.swap) (f1.ir) (hrn) ((by omega)) ((by simp only [List.length_cons]; omega)) rfl (hS.sel 2 [1, 0] rfl)) rfl ?_
    clear hS; rintro _ w ⟨A2, j1, rfl, hS, f2⟩
    replace hS := hS.n3 L (a0 := Arn a A2) rfl
    refine WL.r 3 rfl <| WL.new rfl rfl zv_121 hS (fun b3 w hS => ?_)
    refine WL.r 1 rfl <| WL.stF rfl rfl rfl 0 hS rfl rfl rfl rfl rfl ag_121 (fun w hS => ?_)
    replace hS := hS.n4 L (a0 := cel b3 #[.int .i64 (Tr.pop tr).2.1, .int .i64 (Tr.pop tr).2.2] 121) rfl
    refine WL.nil <| WC.seq <| WC.plan [([0, 1, 2, 3, 5], some (4, [5])), ([6], some (7, []))] (by kernel_rfl) (by kernel_rfl) ?_
    refine WQ.r 2 rfl <| WQ.ldF rfl rfl 2 hS rfl rfl ag_121 <| WQ.r 1 rfl <| WQ.ldF rfl rfl 0 hS rfl rfl ag_121 <| WQ.nil ?_
    intro m1
    replace hS := hS.drewN m1; generalize hwm1 : World.drewN _ _ = w at *; clear hwm1
    refine WL.call rfl rfl (tw_join (R := R) (l := x1) (r := j1) (k := k) (z := z) (tl := tl) (tr := (Tr.pop tr).1) (hA := f2.ref.sw) (hl := (f2.kp x1 (by simp) tl f1.il)) (hr := f2.is) (hf := (by have := f2.fr; omega)) (hz := (by omega)) (hS := (hS.sel 2 [1, 0] rfl))) rfl ?_
    clear hS; rintro _ w ⟨A3, i1, rfl, hS, f3⟩
    replace hS := hS.n4 L (a0 := Arn a A3) rfl
    refine WL.nil ?_
    refine ⟨by exact RQ.ldF rfl rfl 1 hS rfl rfl ag_121 rfl rfl, ?_⟩
    refine WQ.r 1 rfl <| WQ.nil ?_
    intro m2
    replace hS := hS.drewN m2; generalize hwm2 : World.drewN _ _ = w at *; clear hwm2
    refine WL.stF rfl rfl rfl 3 hS rfl rfl rfl rfl rfl ag_121 (fun w hS => ?_)
    replace hS := hS.n4 L (a3 := cel b1 #[.int .i64 (Tr.pop tr).2.1, .int .i64 (Tr.pop tr).2.2] 121) rfl
    refine WL.nil ?_
    refine ⟨by exact trivial, ?_⟩
    intro m3
    replace hS := hS.drewN m3; generalize hwm3 : World.drewN _ _ = w at *; clear hwm3
    as_aux_lemma =>
    refine WC.ret ?_
    refine ⟨[.int .u32 i1, .agg #[.int .i64 (Tr.pop tr).2.1, .int .i64 (Tr.pop tr).2.2]], ⟨rfl, ⟨_, rfl, hS.lvF 3 rfl ag_121⟩, trivial⟩, ?_⟩
    replace hS := (hS.sel 4 [0] rfl)
    exact ⟨_, _, by rw [hps.1]; rfl, hS, by rw [hps.1, hps.2]; exact f3.after (f1.ch.trans f2.ch sb0 sb1) sb0 (by omega)⟩
theorem tw_pop_all (nM : Nat) : ∀ (g w : World) (L : List HP) (a : Nat) (A : AM) (R : List Int) (i : Int) (t : Tr), (ARf A (i :: R)) → (Is A t i) → (t ≠ .nil) → ((Tr.pc t : Int) ≤ A.s.free) → (R.length + t.n ≤ 650000000) → t.n = nM → St g (Arn a A :: L) w → Sp Tryz.prog 211 [.pointer (some ⟨a, 0, none⟩), .int .u32 i] w (fun v w' => ∃ (A2 : AM) (j : Int), v = .tuple #[.int .u32 j, .agg #[.int .i64 (Tr.pop t).2.1, .int .i64 (Tr.pop t).2.2]] ∧ St g (Arn a A2 :: L) w' ∧ (TOp A A2 R j (Tr.pop t).1 (Tr.pc t))) := by
  induction nM using Nat.strongRecOn with
  | _ nM ih => intro g w L a A R i t hA hi hne hf hz hM hS; exact tw_pop_step nM ih a A R i t hA hi hne hf hz hM hS
theorem tw_pop {g w : World} {L : List HP} (a : Nat) (A : AM) (R : List Int) (i : Int) (t : Tr) (hA : ARf A (i :: R)) (hi : Is A t i) (hne : t ≠ .nil) (hf : (Tr.pc t : Int) ≤ A.s.free) (hz : R.length + t.n ≤ 650000000) (hS : St g (Arn a A :: L) w) :
    Sp Tryz.prog 211 [.pointer (some ⟨a, 0, none⟩), .int .u32 i] w (fun v w' => ∃ (A2 : AM) (j : Int), v = .tuple #[.int .u32 j, .agg #[.int .i64 (Tr.pop t).2.1, .int .i64 (Tr.pop t).2.2]] ∧ St g (Arn a A2 :: L) w' ∧ (TOp A A2 R j (Tr.pop t).1 (Tr.pc t))) := tw_pop_all _ g w L a A R i t hA hi hne hf hz rfl hS
set_option maxRecDepth 8192 in
theorem tw_cat {g w : World} {L : List HP} (a : Nat) (A : AM) (R : List Int) (l r : Int) (tl tr : Tr) (hA : ARf A (l :: r :: R)) (hl : Is A tl l) (hr : Is A tr r) (hf : (Tr.cc tl tr : Int) ≤ A.s.free) (hz : R.length + tl.n + tr.n ≤ 600000000) (hS : St g (Arn a A :: L) w) :
    Sp Tryz.prog 176 [.pointer (some ⟨a, 0, none⟩), .int .u32 l, .int .u32 r] w (fun v w' => ∃ (A2 : AM) (i : Int), v = .int .u32 i ∧ St g (Arn a A2 :: L) w' ∧ (TOp A A2 R i (Tr.cat tl tr) (Tr.cc tl tr))) := by
  refine Sp.enter Tryz.func176 rfl (by kernel_rfl) (by kernel_rfl) ?_
  have _ := hz
  have _ := hf
  refine WC.seq <| WC.region <| WL.r 1 rfl <| WL.nil <| WC.seq <| WC.seq <| WC.region ?_
  have hl0 := Is.nil_iff hl; have hr0 := Is.nil_iff hr
  refine WL.r 2 rfl <| WL.nil <| WC.ifP rfl (fun hx => ?_) (fun hx => ?_)
  · refine WC.seq <| WC.region <| WL.r 2 rfl <| WL.nil <| WC.ret ?_
    refine ⟨[.int .u32 r], rfl, ?_⟩
    have h9 := hl0.1 hx; subst hx; subst h9; exact ⟨_, _, rfl, hS, ARf.refl hA.tail0 hr⟩
  · refine WC.skip <| WC.seq <| WC.seq <| WC.region <| WL.r 2 rfl <| WL.nil <| WC.ifP rfl (fun hy => ?_) (fun hy => ?_)
    · refine WC.seq <| WC.region <| WL.r 2 rfl <| WL.nil <| WC.ret ?_
      refine ⟨[.int .u32 l], rfl, ?_⟩
      have h9 := hr0.1 hy; subst hy; subst h9; exact ⟨_, _, rfl, hS, by rw [cat_nilR]; exact (ARf.refl hA.sw.tail0 hl).weak (Nat.zero_le _)⟩
    · refine WC.skip <| WC.seq <| WC.region ?_
      have hln : tl ≠ .nil := (fun e => hx (hl0.2 e)); have hcs := cat_step hln (fun e => hy (hr0.2 e)); have hpn := Tr.pop_n tl hln
      refine WL.r 2 rfl <| WL.call rfl rfl (tw_pop (R := r :: R) (i := l) (t := tl) (hA := hA) (hi := hl) (hne := hln) (hf := (by omega)) (hz := (by simp only [List.length_cons]; omega)) (hS := hS)) rfl ?_
      clear hS; rintro _ w ⟨A1, j1, rfl, hS, f1⟩
      replace hS : St g (Arn a A1 :: L) w := hS
      refine WL.r 3 rfl <| WL.new rfl rfl zv_121 hS (fun b1 w hS => ?_)
      refine WL.r 1 rfl <| WL.stF rfl rfl rfl 0 hS rfl rfl rfl rfl rfl ag_121 (fun w hS => ?_)
      replace hS := hS.n2 L (a0 := cel b1 #[.int .i64 (Tr.pop tl).2.1, .int .i64 (Tr.pop tl).2.2] 121) rfl
      refine WL.nil ?_
      as_aux_lemma =>
      refine WC.seq <| WC.region <| WL.r 2 rfl <| WL.ldF rfl rfl 0 hS rfl rfl ag_121 <| WL.r 1 rfl <| WL.call rfl rfl (tw_join (R := R) (l := j1) (r := r) (k := (Tr.pop tl).2.1) (z := (Tr.pop tl).2.2) (tl := (Tr.pop tl).1) (tr := tr) (hA := f1.ref) (hl := f1.is) (hr := (f1.kp r (by simp) tr hr)) (hf := (by have := f1.fr; omega)) (hz := (by omega)) (hS := (hS.sel 2 [1, 0] rfl))) rfl ?_
      clear hS; rintro _ w ⟨A2, i1, rfl, hS, f2⟩
      replace hS := hS.n2 L (a0 := Arn a A2) rfl
      refine WL.r 1 rfl <| WL.nil <| WC.ret ?_
      refine ⟨[.int .u32 i1], rfl, ?_⟩
      replace hS := (hS.sel 2 [0] rfl)
      exact ⟨_, _, rfl, hS, by rw [hcs.1, hcs.2]; exact f2.after f1.ch sb1 (by omega)⟩
set_option maxHeartbeats 1000000 in
set_option maxRecDepth 8192 in
theorem tw_ins_step (nM : Nat) (ih : ∀ mM : Nat, mM < nM → ∀ (g w : World) (L : List HP) (a : Nat) (A : AM) (R : List Int) (i k z : Int) (t : Tr), (ARf A (i :: R)) → (Is A t i) → ((Tr.ic k z t : Int) ≤ A.s.free) → (R.length + t.n ≤ 600000000) → t.n = mM → St g (Arn a A :: L) w → Sp Tryz.prog 105 [.pointer (some ⟨a, 0, none⟩), .int .u32 i, .agg #[.int .i64 k, .int .i64 z]] w (fun v w' => ∃ (A2 : AM) (j : Int), v = .int .u32 j ∧ St g (Arn a A2 :: L) w' ∧ (TOp A A2 R j (Tr.ins k z t) (Tr.ic k z t)))) {g w : World} {L : List HP} (a : Nat) (A : AM) (R : List Int) (i k z : Int) (t : Tr) (hA : ARf A (i :: R)) (hi : Is A t i) (hf : (Tr.ic k z t : Int) ≤ A.s.free) (hz : R.length + t.n ≤ 600000000) (hM : t.n = nM) (hS : St g (Arn a A :: L) w) :
    Sp Tryz.prog 105 [.pointer (some ⟨a, 0, none⟩), .int .u32 i, .agg #[.int .i64 k, .int .i64 z]] w (fun v w' => ∃ (A2 : AM) (j : Int), v = .int .u32 j ∧ St g (Arn a A2 :: L) w' ∧ (TOp A A2 R j (Tr.ins k z t) (Tr.ic k z t))) := by
  refine Sp.enter Tryz.func105 rfl (by kernel_rfl) (by kernel_rfl) ?_
  have _ := hz
  have _ := hf
  refine WC.seq <| WC.region <| WL.box rfl rfl #[.int .i64 k, .int .i64 z] hS rfl rfl (fun b1 w hS => ?_)
  refine WL.r 1 rfl <| WL.nil <| WC.seq <| WC.seq <| WC.region ?_
  have hx0 := Is.nil_iff hi
  refine WL.r 2 rfl <| WL.nil <| WC.ifP rfl (fun hx => ?_) (fun hx => ?_)
  · refine WC.seq <| WC.region ?_
    have h9 := hx0.1 hx; subst h9; have hA0 : ARf A (0 :: 0 :: R) := (by rw [hx] at hA; exact hA.cons0 (by simp; omega)); have hf1 : Tr.ic k z .nil = 1 := rfl
    refine WL.r 1 rfl <| WL.ldF rfl rfl 0 hS rfl rfl ag_121 <| WL.call rfl rfl (tw_node (R := R) (l := 0) (r := 0) (k := k) (z := z) (tl := .nil) (tr := .nil) (hA := hA0) (hl := rfl) (hr := rfl) (hf := (by omega)) (hz := (by simp only [Tr.n]; omega)) (hS := (hS.sel 2 [1, 0] rfl))) rfl ?_
    clear hS; rintro _ w ⟨A1, i1, rfl, hS, f1⟩
    replace hS : St g (Arn a A1 :: cel b1 #[.int .i64 k, .int .i64 z] 121 :: L) w := hS
    refine WL.r 1 rfl <| WL.nil <| WC.ret ?_
    refine ⟨[.int .u32 i1], rfl, ?_⟩
    replace hS := (hS.sel 2 [0] rfl)
    exact ⟨_, _, rfl, hS, f1⟩
  · refine WC.skip <| WC.seq <| WC.region ?_
    obtain ⟨tl, fk, fz, tr, ht⟩ := nil_or (t := t) (fun e => hx (hx0.2 e)); have htn : t.n = tl.n + tr.n + 1 := (by rw [ht]; rfl); have hi2 : Is A (.node tl fk fz tr) i := ht ▸ hi
    refine WL.r 2 rfl <| WL.call rfl rfl (tw_open (R := R) (i := i) (k := fk) (z := fz) (l := tl) (r := tr) (hA := hA) (hi := hi2) (hz := (by omega)) (hS := (hS.sel 2 [1, 0] rfl))) rfl ?_
    clear hS; rintro _ w ⟨A1, x1, y1, rfl, hS, f1⟩
    replace hS : St g (Arn a A1 :: cel b1 #[.int .i64 k, .int .i64 z] 121 :: L) w := hS
    refine WL.r 4 rfl <| WL.new rfl rfl zv_121 hS (fun b2 w hS => ?_)
    refine WL.r 1 rfl <| WL.stF rfl rfl rfl 0 hS rfl rfl rfl rfl rfl ag_121 (fun w hS => ?_)
    replace hS := hS.n3 L (a0 := cel b2 #[.int .i64 fk, .int .i64 fz] 121) rfl
    refine WL.r 1 rfl <| WL.nil ?_
    as_aux_lemma =>
    refine WC.seq <| WC.block <| WC.seq <| WC.region ?_
    have hr1 := f1.rng; have hfr1 := f1.fr
    refine WL.run 6 [.int .i64 k, .int .i64 fk] rfl (by exact ⟨hS.ld 2 rfl rfl, hS.ld 0 rfl rfl⟩) ?_
    refine WL.nil <| WC.ifP rfl (fun hlt => ?_) (fun hlt => ?_)
    · refine WC.seq <| WC.plan [([0, 1, 2, 3, 5, 6], some (4, [0, 5, 6])), ([], some (7, [])), ([8], none)] (by kernel_rfl) (by kernel_rfl) ?_
      have hie : Tr.ic k z t = Tr.ic k z tl + Tr.jc (Tr.ins k z tl) tr := (by rw [ht, Tr.ic, if_pos hlt]); have hne : Tr.ins k z t = Tr.join (Tr.ins k z tl) fk fz tr := (by rw [ht, Tr.ins, if_pos hlt]); have hin := Tr.ins_n k z tl
      refine WQ.r 3 rfl <| WQ.ldF rfl rfl 2 hS rfl rfl ag_121 <| WQ.ldF rfl rfl 0 hS rfl rfl ag_121 <| WQ.r 1 rfl <| WQ.nil ?_
      intro m1
      replace hS := hS.drewN m1; generalize hwm1 : World.drewN _ _ = w at *; clear hwm1
      refine WL.call rfl rfl (ih (tl.n) (by omega) _ _ _ a A1 (y1 :: R) x1 k z tl (f1.ref) (f1.il) ((by omega)) ((by simp only [List.length_cons]; omega)) rfl (hS.sel 2 [1, 0] rfl)) rfl ?_
      clear hS; rintro _ w ⟨A2, j1, rfl, hS, f2⟩
      replace hS := hS.n3 L (a0 := Arn a A2) rfl
      refine WL.nil ?_
      refine ⟨by exact ⟨RQ.pure rfl rfl rfl rfl, RQ.ldF rfl rfl 1 hS rfl rfl ag_121 rfl rfl, RQ.pure rfl rfl rfl rfl⟩, ?_⟩
      refine WQ.nil ?_
      intro m2
      replace hS := hS.drewN m2; generalize hwm2 : World.drewN _ _ = w at *; clear hwm2
      refine WL.call rfl rfl (tw_join (R := R) (l := j1) (r := y1) (k := fk) (z := fz) (tl := Tr.ins k z tl) (tr := tr) (hA := f2.ref) (hl := f2.is) (hr := (f2.kp y1 (by simp) tr f1.ir)) (hf := (by have := f2.fr; omega)) (hz := (by split at hin <;> omega)) (hS := hS)) rfl ?_
      clear hS; rintro _ w ⟨A3, i1, rfl, hS, f3⟩
      replace hS := hS.n3 L (a0 := Arn a A3) rfl
      refine WL.nil ?_
      refine ⟨by exact trivial, ?_⟩
      refine WQ.r 1 rfl <| WQ.nil ?_
      intro m3
      replace hS := hS.drewN m3; generalize hwm3 : World.drewN _ _ = w at *; clear hwm3
      as_aux_lemma =>
      refine WC.ret ?_
      refine ⟨[.int .u32 i1], rfl, ?_⟩
      replace hS := (hS.sel 3 [0] rfl)
      exact ⟨_, _, rfl, hS, by rw [hne, hie]; exact f3.after (f1.ch.trans f2.ch sb0 sb1) sb0 (by omega)⟩
    · refine WC.seq <| WC.region <| WL.run 6 [.int .i64 k, .int .i64 fk] rfl (by exact ⟨hS.ld 2 rfl rfl, hS.ld 0 rfl rfl⟩) ?_
      refine WL.nil <| WC.ifP rfl (fun hgt => ?_) (fun hgt => ?_)
      · refine WC.seq <| WC.plan [([0, 1, 2, 3, 4, 5], some (6, [0, 1, 2])), ([], some (7, [])), ([8], none)] (by kernel_rfl) (by kernel_rfl) ?_
        have hie : Tr.ic k z t = Tr.ic k z tr + Tr.jc tl (Tr.ins k z tr) := (by rw [ht, Tr.ic, if_neg hlt, if_pos hgt]); have hne : Tr.ins k z t = Tr.join tl fk fz (Tr.ins k z tr) := (by rw [ht, Tr.ins, if_neg hlt, if_pos hgt]); have hin := Tr.ins_n k z tr
        refine WQ.r 2 rfl <| WQ.ldF rfl rfl 0 hS rfl rfl ag_121 <| WQ.r 2 rfl <| WQ.ldF rfl rfl 2 hS rfl rfl ag_121 <| WQ.nil ?_
        intro m1
        replace hS := hS.drewN m1; generalize hwm1 : World.drewN _ _ = w at *; clear hwm1
        refine WL.call rfl rfl (ih (tr.n) (by omega) _ _ _ a A1 (x1 :: R) y1 k z tr (f1.swap) (f1.ir) ((by omega)) ((by simp only [List.length_cons]; omega)) rfl (hS.sel 2 [1, 0] rfl)) rfl ?_
        clear hS; rintro _ w ⟨A2, j1, rfl, hS, f2⟩
        replace hS := hS.n3 L (a0 := Arn a A2) rfl
        refine WL.nil ?_
        refine ⟨by exact ⟨RQ.pure rfl rfl rfl rfl, RQ.pure rfl rfl rfl rfl, RQ.ldF rfl rfl 1 hS rfl rfl ag_121 rfl rfl⟩, ?_⟩
        refine WQ.nil ?_
        intro m2
        replace hS := hS.drewN m2; generalize hwm2 : World.drewN _ _ = w at *; clear hwm2
        refine WL.call rfl rfl (tw_join (R := R) (l := x1) (r := j1) (k := fk) (z := fz) (tl := tl) (tr := Tr.ins k z tr) (hA := f2.ref.sw) (hl := (f2.kp x1 (by simp) tl f1.il)) (hr := f2.is) (hf := (by have := f2.fr; omega)) (hz := (by split at hin <;> omega)) (hS := hS)) rfl ?_
        clear hS; rintro _ w ⟨A3, i1, rfl, hS, f3⟩
        replace hS := hS.n3 L (a0 := Arn a A3) rfl
        refine WL.nil ?_
        refine ⟨by exact trivial, ?_⟩
        refine WQ.r 1 rfl <| WQ.nil ?_
        intro m3
        replace hS := hS.drewN m3; generalize hwm3 : World.drewN _ _ = w at *; clear hwm3
        as_aux_lemma =>
        refine WC.ret ?_
        refine ⟨[.int .u32 i1], rfl, ?_⟩
        replace hS := (hS.sel 3 [0] rfl)
        exact ⟨_, _, rfl, hS, by rw [hne, hie]; exact f3.after (f1.ch.trans f2.ch sb0 sb1) sb0 (by omega)⟩
      · refine WC.skip <| WC.seq <| WC.region ?_
        have hie : Tr.ic k z t = 1 := (by rw [ht, Tr.ic, if_neg hlt, if_neg hgt]); have hne : Tr.ins k z t = .node tl k z tr := (by rw [ht, Tr.ins, if_neg hlt, if_neg hgt])
        refine WL.r 2 rfl <| WL.ldF rfl rfl 2 hS rfl rfl ag_121 <| WL.r 1 rfl <| WL.call rfl rfl (tw_node (R := R) (l := x1) (r := y1) (k := k) (z := z) (tl := tl) (tr := tr) (hA := f1.ref) (hl := f1.il) (hr := f1.ir) (hf := (by omega)) (hz := (by omega)) (hS := (hS.sel 2 [1, 0] rfl))) rfl ?_
        clear hS; rintro _ w ⟨A2, i1, rfl, hS, f2⟩
        replace hS := hS.n3 L (a0 := Arn a A2) rfl
        refine WL.r 1 rfl <| WL.nil ?_
        as_aux_lemma =>
        refine WC.ret ?_
        refine ⟨[.int .u32 i1], rfl, ?_⟩
        replace hS := (hS.sel 3 [0] rfl)
        exact ⟨_, _, rfl, hS, by rw [hne, hie]; exact f2.after f1.ch sb0 (by omega)⟩
theorem tw_ins_all (nM : Nat) : ∀ (g w : World) (L : List HP) (a : Nat) (A : AM) (R : List Int) (i k z : Int) (t : Tr), (ARf A (i :: R)) → (Is A t i) → ((Tr.ic k z t : Int) ≤ A.s.free) → (R.length + t.n ≤ 600000000) → t.n = nM → St g (Arn a A :: L) w → Sp Tryz.prog 105 [.pointer (some ⟨a, 0, none⟩), .int .u32 i, .agg #[.int .i64 k, .int .i64 z]] w (fun v w' => ∃ (A2 : AM) (j : Int), v = .int .u32 j ∧ St g (Arn a A2 :: L) w' ∧ (TOp A A2 R j (Tr.ins k z t) (Tr.ic k z t))) := by
  induction nM using Nat.strongRecOn with
  | _ nM ih => intro g w L a A R i k z t hA hi hf hz hM hS; exact tw_ins_step nM ih a A R i k z t hA hi hf hz hM hS
theorem tw_ins {g w : World} {L : List HP} (a : Nat) (A : AM) (R : List Int) (i k z : Int) (t : Tr) (hA : ARf A (i :: R)) (hi : Is A t i) (hf : (Tr.ic k z t : Int) ≤ A.s.free) (hz : R.length + t.n ≤ 600000000) (hS : St g (Arn a A :: L) w) :
    Sp Tryz.prog 105 [.pointer (some ⟨a, 0, none⟩), .int .u32 i, .agg #[.int .i64 k, .int .i64 z]] w (fun v w' => ∃ (A2 : AM) (j : Int), v = .int .u32 j ∧ St g (Arn a A2 :: L) w' ∧ (TOp A A2 R j (Tr.ins k z t) (Tr.ic k z t))) := tw_ins_all _ g w L a A R i k z t hA hi hf hz rfl hS
set_option maxHeartbeats 1000000 in
set_option maxRecDepth 8192 in
theorem tw_del_step (nM : Nat) (ih : ∀ mM : Nat, mM < nM → ∀ (g w : World) (L : List HP) (a : Nat) (A : AM) (R : List Int) (i k : Int) (t : Tr), (ARf A (i :: R)) → (Is A t i) → ((Tr.dc k t : Int) ≤ A.s.free) → (R.length + t.n ≤ 550000000) → t.n = mM → St g (Arn a A :: L) w → Sp Tryz.prog 106 [.pointer (some ⟨a, 0, none⟩), .int .u32 i, .int .i64 k] w (fun v w' => ∃ (A2 : AM) (j : Int), v = .int .u32 j ∧ St g (Arn a A2 :: L) w' ∧ (TOp A A2 R j (Tr.del k t) (Tr.dc k t)))) {g w : World} {L : List HP} (a : Nat) (A : AM) (R : List Int) (i k : Int) (t : Tr) (hA : ARf A (i :: R)) (hi : Is A t i) (hf : (Tr.dc k t : Int) ≤ A.s.free) (hz : R.length + t.n ≤ 550000000) (hM : t.n = nM) (hS : St g (Arn a A :: L) w) :
    Sp Tryz.prog 106 [.pointer (some ⟨a, 0, none⟩), .int .u32 i, .int .i64 k] w (fun v w' => ∃ (A2 : AM) (j : Int), v = .int .u32 j ∧ St g (Arn a A2 :: L) w' ∧ (TOp A A2 R j (Tr.del k t) (Tr.dc k t))) := by
  refine Sp.enter Tryz.func106 rfl (by kernel_rfl) (by kernel_rfl) ?_
  have _ := hz
  have _ := hf
  refine WC.seq <| WC.region <| WL.r 1 rfl <| WL.nil <| WC.seq <| WC.seq <| WC.region ?_
  have hx0 := Is.nil_iff hi
  refine WL.r 2 rfl <| WL.nil <| WC.ifP rfl (fun hx => ?_) (fun hx => ?_)
  · refine WC.seq <| WC.region <| WL.r 1 rfl <| WL.nil <| WC.ret ?_
    refine ⟨[.int .u32 0], rfl, ?_⟩
    have h9 := hx0.1 hx; subst hx; subst h9; exact ⟨_, _, rfl, hS, ARf.refl hA hi⟩
  · refine WC.skip <| WC.seq <| WC.region ?_
    obtain ⟨tl, fk, fz, tr, ht⟩ := nil_or (t := t) (fun e => hx (hx0.2 e)); have htn : t.n = tl.n + tr.n + 1 := (by rw [ht]; rfl); have hi2 : Is A (.node tl fk fz tr) i := ht ▸ hi
    refine WL.r 2 rfl <| WL.call rfl rfl (tw_open (R := R) (i := i) (k := fk) (z := fz) (l := tl) (r := tr) (hA := hA) (hi := hi2) (hz := (by omega)) (hS := hS)) rfl ?_
    clear hS; rintro _ w ⟨A1, x1, y1, rfl, hS, f1⟩
    replace hS : St g (Arn a A1 :: L) w := hS
    refine WL.r 4 rfl <| WL.new rfl rfl zv_121 hS (fun b1 w hS => ?_)
    refine WL.r 1 rfl <| WL.stF rfl rfl rfl 0 hS rfl rfl rfl rfl rfl ag_121 (fun w hS => ?_)
    replace hS := hS.n2 L (a0 := cel b1 #[.int .i64 fk, .int .i64 fz] 121) rfl
    refine WL.r 1 rfl <| WL.nil ?_
    as_aux_lemma =>
    refine WC.seq <| WC.block <| WC.seq <| WC.region ?_
    have hr1 := f1.rng; have hfr1 := f1.fr
    refine WL.run 5 [.int .i64 fk] rfl (by exact hS.ld 0 rfl rfl) ?_
    refine WL.nil <| WC.ifP rfl (fun hlt => ?_) (fun hlt => ?_)
    · refine WC.seq <| WC.plan [([0, 1, 2, 3, 5, 6], some (4, [0, 5, 6])), ([], some (7, [])), ([8], none)] (by kernel_rfl) (by kernel_rfl) ?_
      have hie : Tr.dc k t = Tr.dc k tl + Tr.jc (Tr.del k tl) tr := (by rw [ht, Tr.dc, if_pos hlt]); have hne : Tr.del k t = Tr.join (Tr.del k tl) fk fz tr := (by rw [ht, Tr.del, if_pos hlt]); have hin := Tr.del_n k tl
      refine WQ.r 4 rfl <| WQ.ldF rfl rfl 0 hS rfl rfl ag_121 <| WQ.r 1 rfl <| WQ.nil ?_
      intro m1
      replace hS := hS.drewN m1; generalize hwm1 : World.drewN _ _ = w at *; clear hwm1
      refine WL.call rfl rfl (ih (tl.n) (by omega) _ _ _ a A1 (y1 :: R) x1 k tl (f1.ref) (f1.il) ((by omega)) ((by simp only [List.length_cons]; omega)) rfl (hS.sel 2 [1, 0] rfl)) rfl ?_
      clear hS; rintro _ w ⟨A2, j1, rfl, hS, f2⟩
      replace hS := hS.n2 L (a0 := Arn a A2) rfl
      refine WL.nil ?_
      refine ⟨by exact ⟨RQ.pure rfl rfl rfl rfl, RQ.ldF rfl rfl 1 hS rfl rfl ag_121 rfl rfl, RQ.pure rfl rfl rfl rfl⟩, ?_⟩
      refine WQ.nil ?_
      intro m2
      replace hS := hS.drewN m2; generalize hwm2 : World.drewN _ _ = w at *; clear hwm2
      refine WL.call rfl rfl (tw_join (R := R) (l := j1) (r := y1) (k := fk) (z := fz) (tl := Tr.del k tl) (tr := tr) (hA := f2.ref) (hl := f2.is) (hr := (f2.kp y1 (by simp) tr f1.ir)) (hf := (by have := f2.fr; omega)) (hz := (by split at hin <;> omega)) (hS := hS)) rfl ?_
      clear hS; rintro _ w ⟨A3, i1, rfl, hS, f3⟩
      replace hS := hS.n2 L (a0 := Arn a A3) rfl
      refine WL.nil ?_
      refine ⟨by exact trivial, ?_⟩
      refine WQ.r 1 rfl <| WQ.nil ?_
      intro m3
      replace hS := hS.drewN m3; generalize hwm3 : World.drewN _ _ = w at *; clear hwm3
      as_aux_lemma =>
      refine WC.ret ?_
      refine ⟨[.int .u32 i1], rfl, ?_⟩
      replace hS := (hS.sel 2 [0] rfl)
      exact ⟨_, _, rfl, hS, by rw [hne, hie]; exact f3.after (f1.ch.trans f2.ch sb0 sb1) sb0 (by omega)⟩
    · refine WC.seq <| WC.region <| WL.run 5 [.int .i64 fk] rfl (by exact hS.ld 0 rfl rfl) ?_
      refine WL.nil <| WC.ifP rfl (fun hgt => ?_) (fun hgt => ?_)
      · refine WC.seq <| WC.plan [([0, 1, 2, 3, 4, 5], some (6, [0, 1, 2])), ([], some (7, [])), ([8], none)] (by kernel_rfl) (by kernel_rfl) ?_
        have hie : Tr.dc k t = Tr.dc k tr + Tr.jc tl (Tr.del k tr) := (by rw [ht, Tr.dc, if_neg hlt, if_pos hgt]); have hne : Tr.del k t = Tr.join tl fk fz (Tr.del k tr) := (by rw [ht, Tr.del, if_neg hlt, if_pos hgt]); have hin := Tr.del_n k tr
        refine WQ.r 2 rfl <| WQ.ldF rfl rfl 0 hS rfl rfl ag_121 <| WQ.r 3 rfl <| WQ.nil ?_
        intro m1
        replace hS := hS.drewN m1; generalize hwm1 : World.drewN _ _ = w at *; clear hwm1
        refine WL.call rfl rfl (ih (tr.n) (by omega) _ _ _ a A1 (x1 :: R) y1 k tr (f1.swap) (f1.ir) ((by omega)) ((by simp only [List.length_cons]; omega)) rfl (hS.sel 2 [1, 0] rfl)) rfl ?_
        clear hS; rintro _ w ⟨A2, j1, rfl, hS, f2⟩
        replace hS := hS.n2 L (a0 := Arn a A2) rfl
        refine WL.nil ?_
        refine ⟨by exact ⟨RQ.pure rfl rfl rfl rfl, RQ.pure rfl rfl rfl rfl, RQ.ldF rfl rfl 1 hS rfl rfl ag_121 rfl rfl⟩, ?_⟩
        refine WQ.nil ?_
        intro m2
        replace hS := hS.drewN m2; generalize hwm2 : World.drewN _ _ = w at *; clear hwm2
        refine WL.call rfl rfl (tw_join (R := R) (l := x1) (r := j1) (k := fk) (z := fz) (tl := tl) (tr := Tr.del k tr) (hA := f2.ref.sw) (hl := (f2.kp x1 (by simp) tl f1.il)) (hr := f2.is) (hf := (by have := f2.fr; omega)) (hz := (by split at hin <;> omega)) (hS := hS)) rfl ?_
        clear hS; rintro _ w ⟨A3, i1, rfl, hS, f3⟩
        replace hS := hS.n2 L (a0 := Arn a A3) rfl
        refine WL.nil ?_
        refine ⟨by exact trivial, ?_⟩
        refine WQ.r 1 rfl <| WQ.nil ?_
        intro m3
        replace hS := hS.drewN m3; generalize hwm3 : World.drewN _ _ = w at *; clear hwm3
        as_aux_lemma =>
        refine WC.ret ?_
        refine ⟨[.int .u32 i1], rfl, ?_⟩
        replace hS := (hS.sel 2 [0] rfl)
        exact ⟨_, _, rfl, hS, by rw [hne, hie]; exact f3.after (f1.ch.trans f2.ch sb0 sb1) sb0 (by omega)⟩
      · refine WC.skip <| WC.seq <| WC.region ?_
        have hie : Tr.dc k t = Tr.cc tl tr := (by rw [ht, Tr.dc, if_neg hlt, if_neg hgt]); have hne : Tr.del k t = Tr.cat tl tr := (by rw [ht, Tr.del, if_neg hlt, if_neg hgt])
        refine WL.r 3 rfl <| WL.call rfl rfl (tw_cat (R := R) (l := x1) (r := y1) (tl := tl) (tr := tr) (hA := f1.ref) (hl := f1.il) (hr := f1.ir) (hf := (by omega)) (hz := (by omega)) (hS := (hS.sel 2 [1, 0] rfl))) rfl ?_
        clear hS; rintro _ w ⟨A2, i1, rfl, hS, f2⟩
        replace hS := hS.n2 L (a0 := Arn a A2) rfl
        refine WL.r 1 rfl <| WL.nil <| WC.ret ?_
        refine ⟨[.int .u32 i1], rfl, ?_⟩
        replace hS := (hS.sel 2 [0] rfl)
        exact ⟨_, _, rfl, hS, by rw [hne, hie]; exact f2.after f1.ch sb0 (by omega)⟩
theorem tw_del_all (nM : Nat) : ∀ (g w : World) (L : List HP) (a : Nat) (A : AM) (R : List Int) (i k : Int) (t : Tr), (ARf A (i :: R)) → (Is A t i) → ((Tr.dc k t : Int) ≤ A.s.free) → (R.length + t.n ≤ 550000000) → t.n = nM → St g (Arn a A :: L) w → Sp Tryz.prog 106 [.pointer (some ⟨a, 0, none⟩), .int .u32 i, .int .i64 k] w (fun v w' => ∃ (A2 : AM) (j : Int), v = .int .u32 j ∧ St g (Arn a A2 :: L) w' ∧ (TOp A A2 R j (Tr.del k t) (Tr.dc k t))) := by
  induction nM using Nat.strongRecOn with
  | _ nM ih => intro g w L a A R i k t hA hi hf hz hM hS; exact tw_del_step nM ih a A R i k t hA hi hf hz hM hS
theorem tw_del {g w : World} {L : List HP} (a : Nat) (A : AM) (R : List Int) (i k : Int) (t : Tr) (hA : ARf A (i :: R)) (hi : Is A t i) (hf : (Tr.dc k t : Int) ≤ A.s.free) (hz : R.length + t.n ≤ 550000000) (hS : St g (Arn a A :: L) w) :
    Sp Tryz.prog 106 [.pointer (some ⟨a, 0, none⟩), .int .u32 i, .int .i64 k] w (fun v w' => ∃ (A2 : AM) (j : Int), v = .int .u32 j ∧ St g (Arn a A2 :: L) w' ∧ (TOp A A2 R j (Tr.del k t) (Tr.dc k t))) := tw_del_all _ g w L a A R i k t hA hi hf hz rfl hS
set_option maxRecDepth 8192 in
theorem tw_hold {g w : World} {L : List HP} (a : Nat) (A : AM) (R : List Int) (i : Int) (hA : ARf A R) (hi : i = 0 ∨ (1 ≤ i ∧ A.s.ok i = true)) (hz : R.length ≤ 900000000) (hS : St g (Arn a A :: L) w) :
    Sp Tryz.prog 104 [.pointer (some ⟨a, 0, none⟩), .int .u32 i] w (fun v w' => v = .int .u32 i ∧ St g (Arn a (A.ret i) :: L) w' ∧ (ARf (A.ret i) (i :: R))) := by
  refine Sp.enter Tryz.func104 rfl (by kernel_rfl) (by kernel_rfl) ?_
  have _ := hz
  refine WC.seq <| WC.region <| WL.r 1 rfl <| WL.nil <| WC.seq <| WC.region ?_
  have hri := hA.okrng hi
  refine WL.r 2 rfl <| WL.call rfl rfl (ar_retain (i := i) (hA := hA.toAWf) (hi := (by omega)) (hS := hS)) rfl ?_
  clear hS; rintro _ w ⟨rfl, hS⟩
  replace hS : St g (Arn a (A.ret i) :: L) w := hS
  refine WL.nil <| WC.seq <| WC.region <| WL.r 2 rfl <| WL.nil <| WC.ret ?_
  refine ⟨[.int .u32 i], rfl, ?_⟩
  exact ⟨rfl, hS, (AM.ret_eq hA hi (by omega)).1⟩
set_option maxRecDepth 8192 in
theorem tw_room {g w : World} {L : List HP} (a : Nat) (A : AM) (n : Int) (hA : AWf A) (hS : St g (Arn a A :: L) w) :
    Sp Tryz.prog 101 [.pointer (some ⟨a, 0, none⟩), .int .i64 n] w (fun v w' => v = .bool (decide (0 ≤ n ∧ n ≤ A.s.free)) ∧ St g (Arn a A :: L) w') := by
  refine Sp.enter Tryz.func101 rfl (by kernel_rfl) (by kernel_rfl) ?_
  refine WC.seq <| WC.region <| WL.r 1 rfl <| WL.nil <| WC.seq <| WC.region <| WL.r 3 rfl ?_
  by_cases cg1 : 0 ≤ n
  · refine WL.reb 7 (.bool true) (congrArg Value.bool (decide_eq_true cg1)) <| WL.ung rfl rfl rfl <| WL.r 1 rfl <| WL.ung rfl rfl rfl <| WL.call rfl rfl (ar_free  (hA := hA) (hS := hS)) rfl ?_
    clear hS; rintro _ w ⟨rfl, hS⟩
    replace hS := hS.n1 L rfl
    refine WL.ung rfl rfl rfl <| WL.r 1 rfl <| WL.ung rfl rfl rfl <| WL.r 3 rfl <| WL.nil <| WC.ret ?_
    refine ⟨[.bool (decide (n ≤ A.s.free))], rfl, ?_⟩
    first | exact ⟨congrArg Value.bool (dec_congr (by omega)), hS⟩ | exact ⟨congrArg Value.bool (decide_eq_false (by omega)).symm, hS⟩
  · refine WL.reb 7 (.bool false) (congrArg Value.bool (decide_eq_false cg1)) <| WL.skp rfl rfl rfl rfl <| WL.skp rfl rfl rfl rfl <| WL.skp rfl rfl rfl rfl <| WL.skp rfl rfl rfl rfl <| WL.r 2 rfl <| WL.nil <| WC.ret ?_
    refine ⟨[.bool false], rfl, ?_⟩
    first | exact ⟨congrArg Value.bool (dec_congr (by omega)), hS⟩ | exact ⟨congrArg Value.bool (decide_eq_false (by omega)).symm, hS⟩
end Go.Proofs.YtbeacjcmdijdmaaGreat
/-! ## W5 -/
namespace Go.Proofs.YtbeacjcmdijdmaaGreat
open Go Go.V
set_option maxRecDepth 8192 in
theorem lk_get {g w : World} {L : List HP} (a : Nat) (A : AM) (R : List Int) (i k : Int) (t : Tr) (hA : ARf A R) (hi : Is A t i) (hS : St g (Arn a A :: L) w) :
    Sp Tryz.prog 96 [.pointer (some ⟨a, 0, none⟩), .int .u32 i, .int .i64 k] w (fun v w' => v = .tuple #[.int .i64 ((Tr.get k t).getD 0), .bool (Tr.get k t).isSome] ∧ St g (Arn a A :: L) w') := by
  refine Sp.enter Tryz.func96 rfl (by kernel_rfl) (by kernel_rfl) ?_
  refine WC.seq <| WC.region <| WL.r 2 rfl <| WL.nil <| WC.seq <| WC.seq <| WC.region <| WL.r 2 rfl <| WL.nil <| WC.block <| WC.loop [0, 2, 8] (fun kM vs w => ∃ (j : Int) (u : Tr), vs = [.pointer (some ⟨a, 0, none⟩), .int .i64 k, .int .u32 j] ∧ St g (Arn a A :: L) w ∧ (Is A u j) ∧ (Tr.get k u = Tr.get k t) ∧ (u.n) = kM) (t.n) ⟨i, t, rfl, hS, (hi), (rfl), rfl⟩ ?_
  clear hS; rintro _ _ w j ⟨j, u, rfl, hS, hu, hg, rfl⟩
  refine WC.seq <| WC.seq <| WC.region <| WL.r 2 rfl <| WL.nil <| WC.ifP rfl (fun cd1 => ?_) (fun cd1 => ?_)
  · refine WC.skip <| WC.block <| WC.seq <| WC.region ?_
    obtain ⟨ul, uk, uz, ur, hue⟩ := nil_or (t := u) (fun e => cd1 ((Is.nil_iff hu).2 e)); have hu2 : Is A (.node ul uk uz ur) j := hue ▸ hu; have hrj := hA.okrng hu.ref; have hlr := hA.okrng hu2.2.2.2.2.1.ref; have hrr := hA.okrng hu2.2.2.2.2.2.ref; have hun : u.n = ul.n + ur.n + 1 := (by rw [hue]; rfl)
    refine WL.r 2 rfl <| WL.call rfl rfl (ar_node (i := j) (hA := hA.toAWf) (hi := (by omega)) (hio := hu2.2.1) (hS := hS)) rfl ?_
    clear hS; rintro _ w ⟨rfl, hS⟩
    replace hS := hS.n1 L rfl
    refine WL.r 3 rfl <| WL.new rfl rfl zv_172 hS (fun b1 w hS => ?_)
    refine WL.stF rfl rfl rfl 0 hS rfl rfl rfl rfl rfl ag_172 (fun w hS => ?_)
    replace hS := hS.n2 L (a0 := cel b1 #[.int .i64 (A.nd j).key, .int .i64 (A.nd j).val, .int .u32 (A.nd j).lf, .int .u32 (A.nd j).rg, .int .i64 (A.nd j).size, .int .i64 (A.nd j).sum, .int .i64 (A.nd j).mn, .int .i64 (A.nd j).mx] 172) rfl
    refine WL.r 1 rfl <| WL.nil ?_
    as_aux_lemma =>
    refine WC.block <| WC.seq <| WC.region <| WL.r 3 rfl <| WL.nil <| WC.ifF rfl rfl <| WC.seq <| WC.region <| WL.run 5 [.int .i64 (A.nd j).key] rfl (by exact hS.ld 0 rfl rfl) ?_
    refine WL.nil <| WC.ifP rfl (fun hlt => ?_) (fun hlt => ?_)
    · refine WC.region <| WL.run 3 [.int .u32 (A.nd j).lf] rfl (by exact hS.ld 0 rfl rfl) ?_
      refine WL.nil ?_
      exact ⟨_, by omega, (A.nd j).lf, ul, rfl, (hS.sel 1 [] rfl), (hu2.2.2.2.2.1), (by rw [← hg, hue, Tr.get, if_pos (by rw [← hu2.2.2.1]; exact hlt)]), rfl⟩
    · refine WC.seq <| WC.region <| WL.run 5 [.int .i64 (A.nd j).key] rfl (by exact hS.ld 0 rfl rfl) ?_
      refine WL.nil <| WC.ifP rfl (fun hgt => ?_) (fun hgt => ?_)
      · refine WC.region <| WL.run 3 [.int .u32 (A.nd j).rg] rfl (by exact hS.ld 0 rfl rfl) ?_
        refine WL.nil ?_
        exact ⟨_, by omega, (A.nd j).rg, ur, rfl, (hS.sel 1 [] rfl), (hu2.2.2.2.2.2), (by rw [← hg, hue, Tr.get, if_neg (by rw [← hu2.2.2.1]; exact hlt), if_pos (by rw [← hu2.2.2.1]; exact hgt)]), rfl⟩
      · refine WC.seq <| WC.region <| WL.run 4 [.int .i64 (A.nd j).val] rfl (by exact hS.ld 0 rfl rfl) ?_
        refine WL.nil <| WC.ret ?_
        refine ⟨[.int .i64 (A.nd j).val, .bool true], ⟨rfl, rfl⟩, ?_⟩
        replace hS := (hS.sel 1 [] rfl)
        have hgv : Tr.get k t = some (A.nd j).val := (by rw [← hg, hue, Tr.get, if_neg (by rw [← hu2.2.2.1]; exact hlt), if_neg (by rw [← hu2.2.2.1]; exact hgt), hu2.2.2.2.1]); exact ⟨by rw [hgv]; rfl, hS⟩
  · refine WC.exit <| WC.seq <| WC.region <| WL.r 2 rfl <| WL.nil <| WC.ret ?_
    refine ⟨[.int .i64 0, .bool false], ⟨rfl, rfl⟩, ?_⟩
    have hgv : Tr.get k t = none := (by rw [← hg, (Is.nil_iff hu).1 (Classical.not_not.1 cd1)]; rfl); exact ⟨by rw [hgv]; rfl, hS⟩
theorem wt_step {h : Nat} (hw : Tr.wt h ≤ 2147483648) : IntKind.i64.wrap ((Tr.wt h : Int) + ((Tr.wt h : Int) + 2) / 3) = (Tr.wt (h + 1) : Int) := by
  rw [w64 (by omega), show Tr.wt (h + 1) = Tr.wt h + (Tr.wt h + 2) / 3 from rfl]; omega
theorem mxA_stop {keys h : Nat} (hh : h < 80) (hs : keys + 1 < Tr.wt (h + 1)) : Tr.mxA keys (80 - h) h = h := by
  rw [show 80 - h = (80 - (h + 1)) + 1 by omega, Tr.mxA, if_pos hs]
theorem mxA_go {keys h : Nat} (hh : h < 80) (hs : ¬ keys + 1 < Tr.wt (h + 1)) : Tr.mxA keys (80 - (h + 1)) (h + 1) = Tr.mxA keys (80 - h) h := by
  rw [show 80 - h = (80 - (h + 1)) + 1 by omega, Tr.mxA, if_neg hs]
theorem wt_small {h : Nat} (hw : Tr.wt h ≤ 2147483648) : Tr.wt (h + 1) ≤ 3000000000 := by
  rw [show Tr.wt (h + 1) = Tr.wt h + (Tr.wt h + 2) / 3 from rfl]; omega
set_option maxRecDepth 8192 in
theorem mx_height {g w : World} {L : List HP} (keys : Nat) (hk : keys ≤ 2147483647) (hS : St g (L) w) :
    Sp Tryz.prog 208 [.int .i64 (keys : Int)] w (fun v w' => v = .int .i64 (Tr.mxH keys : Int) ∧ St g (L) w') := by
  refine Sp.enter Tryz.func208 rfl (by kernel_rfl) (by kernel_rfl) ?_
  have _ := hk
  refine WC.seq <| WC.region <| WL.r 1 rfl <| WL.nil <| WC.seq <| WC.seq <| WC.region <| WL.r 2 rfl <| WL.rG 4 rfl (fun j => ?_)
  refine WL.prop 10 rfl (bor (dd _) (dd _)) <| WL.nil <| WC.ifF rfl (decide_eq_false ((by omega))) ?_
  refine WC.skip <| WC.seq <| WC.region <| WL.r 2 rfl <| WL.nil <| WC.seq <| WC.block <| WC.loop [0, 2, 3, 4] (fun kM vs w => ∃ (h : Nat), vs = [.int .i64 (keys : Int), .int .i64 0, .int .i64 (h : Int), .int .i64 (Tr.wt h : Int)] ∧ St g (L) w ∧ (h ≤ 80) ∧ (Tr.wt h ≤ keys + 1) ∧ (Tr.mxA keys (80 - h) h = Tr.mxH keys) ∧ (80 - h) = kM) (80 - 0) ⟨0, rfl, hS, (by omega), (by simp [Tr.wt]), (rfl), rfl⟩ ?_
  clear hS; rintro _ _ w j ⟨h, rfl, hS, hh, hw, hm, rfl⟩
  refine WC.seq <| WC.seq <| WC.region <| WL.r 2 rfl <| WL.nil ?_
  as_aux_lemma =>
  refine WC.ifP rfl (fun cd1 => ?_) (fun cd1 => ?_)
  · refine WC.skip <| WC.block <| WC.seq <| WC.region ?_
    have hws := wt_small (h := h) (by omega)
    refine WL.r 3 rfl <| WL.nw 15 rfl (w64 (by omega)) ?_
    refine WL.r 1 rfl <| WL.reb 16 (.int .i64 (((Tr.wt h : Int) + 2) / 3)) (congrArg (Value.int .i64) (quo_i64 (p := (Tr.wt h : Int) + 2) (q := 3) (by omega))) ?_
    refine WL.r 1 rfl <| WL.reb 17 (.int .i64 (Tr.wt (h + 1) : Int)) (congrArg (Value.int .i64) (by exact wt_step (by omega))) ?_
    refine WL.r 1 rfl <| WL.nil <| WC.seq <| WC.seq <| WC.region <| WL.r 2 rfl <| WL.nw 19 rfl (w64 (by omega)) ?_
    refine WL.r 2 rfl <| WL.nil <| WC.ifP rfl (fun cd2 => ?_) (fun cd2 => ?_)
    · refine WC.exit <| WC.seq <| WC.region <| WL.r 2 rfl <| WL.nil ?_
      as_aux_lemma =>
      refine WC.ret ?_
      refine ⟨[.int .i64 (h : Int)], rfl, ?_⟩
      exact ⟨congrArg (fun n : Nat => Value.int .i64 n) ((mxA_stop (keys := keys) (by omega) (by omega)).symm.trans hm), hS⟩
    · refine WC.skip <| WC.region <| WL.r 2 rfl <| WL.nw 23 rfl (w64 (by omega)) ?_
      refine WL.r 1 rfl <| WL.nil ?_
      exact ⟨_, by omega, h + 1, rfl, hS, (by omega), (by omega), (by rw [mxA_go (by omega) (by omega)]; exact hm), rfl⟩
  · refine WC.exit <| WC.seq <| WC.region <| WL.r 2 rfl <| WL.nil <| WC.ret ?_
    refine ⟨[.int .i64 (h : Int)], rfl, ?_⟩
    exact ⟨congrArg (fun n : Nat => Value.int .i64 n) (by rw [← hm, show 80 - h = 0 by omega]; rfl), hS⟩
set_option maxRecDepth 8192 in
theorem rs_valid {g w : World} {L : List HP} (l : List Int) (b : Option Addr) (c : Nat) (hl : l.length ≤ 10) (hS : St g (Sh 3 1 (i64s l) b c :: L) w) :
    Sp Tryz.prog 171 [.slice b (List.length (i64s l)) c] w (fun v w' => v = .bool (l.all fun n => decide (0 ≤ n ∧ n ≤ 65536)) ∧ St g (Sh 3 1 (i64s l) b c :: L) w') := by
  refine Sp.enter Tryz.func171 rfl (by kernel_rfl) (by kernel_rfl) ?_
  have _ := hl
  refine WC.seq <| WC.region <| WL.r 1 rfl <| WL.nil <| WC.seq <| WC.seq <| WC.region ?_
  have hll := i64s_len l
  refine WL.r 3 rfl <| WL.nil <| WC.block <| WC.loop [5, 6, 7] (fun kM vs w => ∃ (k : Nat), vs = [.slice b (List.length (i64s l)) c, .int .i64 (List.length (i64s l) : Int), .int .i64 (k : Int)] ∧ St g (Sh 3 1 (i64s l) b c :: L) w ∧ (k ≤ l.length) ∧ (∀ x ∈ l.take k, 0 ≤ x ∧ x ≤ 65536) ∧ (l.length - k) = kM) ((List.length l) - 0) ⟨0, rfl, hS, (Nat.zero_le _), (by simp), rfl⟩ ?_
  clear hS; rintro _ _ w j ⟨k, rfl, hS, hk, ha, rfl⟩
  refine WC.seq <| WC.region ?_
  have hll := i64s_len l
  refine WL.r 1 rfl <| WL.nil <| WC.seq <| WC.ifP rfl (fun cd1 => ?_) (fun cd1 => ?_)
  · refine WC.skip <| WC.seq <| WC.block <| WC.seq <| WC.region ?_
    obtain ⟨x, hx⟩ : ∃ x, l[k]? = some x := ⟨_, List.getElem?_eq_getElem (by omega)⟩
    refine WL.ix rfl rfl (i := (k : Int)) (k) el_56 rfl rfl (by omega) (by omega) (hS.rdS 0 rfl (i64s_at hx)).1 ?_
    refine WL.run 2 [.int .i64 x] rfl (by exact (hS.rdS 0 rfl (i64s_at hx)).2 0 _ rfl) ?_
    refine WL.nil ?_
    as_aux_lemma =>
    refine WC.seq <| WC.region <| WL.r 2 rfl <| WL.rG 4 rfl (fun j => ?_)
    refine WL.prop 16 rfl (bor (dd _) (dd _)) <| WL.nil <| WC.ifP rfl (fun cd2 => ?_) (fun cd2 => ?_)
    · refine WC.seq <| WC.region <| WL.r 1 rfl <| WL.nil <| WC.ret ?_
      refine ⟨[.bool false], rfl, ?_⟩
      exact ⟨congrArg Value.bool (by rw [Eq.comm, List.all_eq_false]; exact ⟨x, List.mem_of_getElem? hx, by simp; omega⟩), hS⟩
    · refine WC.skip <| WC.region <| WL.r 1 rfl <| WL.nw 17 rfl (w64 (by omega)) ?_
      refine WL.r 1 rfl <| WL.nil ?_
      exact ⟨_, by omega, k + 1, rfl, hS, (by omega), (by rw [List.take_add_one, hx]; intro y hy; rcases List.mem_append.1 hy with hy | hy; exact ha y hy; simp at hy; subst hy; omega), rfl⟩
  · refine WC.exit <| WC.seq <| WC.region <| WL.r 1 rfl <| WL.nil ?_
    as_aux_lemma =>
    refine WC.ret ?_
    refine ⟨[.bool true], rfl, ?_⟩
    exact ⟨congrArg Value.bool (by rw [Eq.comm, List.all_eq_true]; intro y hy; rw [List.take_of_length_le (by omega)] at ha; exact decide_eq_true (ha y hy)), hS⟩
theorem mul_rng {f x : Int} (hf : 0 ≤ f ∧ f ≤ 100) (hx : 0 ≤ x ∧ x ≤ 1000) : -9223372036854775808 ≤ f * x ∧ f * x ≤ 9223372036854775807 := by
  have h1 : 0 ≤ f * x := Int.mul_nonneg hf.1 hx.1
  have h2 : f * x ≤ 100 * 1000 := Int.mul_le_mul hf.2 hx.2 hx.1 (by omega)
  omega
set_option maxRecDepth 8192 in
theorem rs_path {g w : World} {L : List HP} (f : Int) (n : Nat) (hf : 0 ≤ f ∧ f ≤ 100) (hn : n ≤ 2147483647) (hS : St g (L) w) :
    Sp Tryz.prog 172 [.int .i64 f, .int .i64 (n : Int)] w (fun v w' => v = .int .i64 (f * ((Tr.mxH n : Int) + 2)) ∧ St g (L) w') := by
  refine Sp.enter Tryz.func172 rfl (by kernel_rfl) (by kernel_rfl) ?_
  refine WC.seq <| WC.region <| WL.r 1 rfl <| WL.nil <| WC.seq <| WC.region <| WL.r 2 rfl <| WL.call rfl rfl (mx_height (keys := n) (hk := hn) (hS := hS)) rfl ?_
  clear hS; rintro _ w ⟨rfl, hS⟩
  replace hS : St g (L) w := hS
  refine WL.r 1 rfl <| WL.reb 8 (.int .i64 ((Tr.mxH n : Int) + 2)) (congrArg (Value.int .i64) (by have := Tr.mxH_le n; rw [w64 (by omega)])) ?_
  refine WL.r 1 rfl <| WL.reb 9 (.int .i64 (f * ((Tr.mxH n : Int) + 2))) (congrArg (Value.int .i64) (by have := Tr.mxH_le n; exact w64 (mul_rng hf (by omega)))) ?_
  refine WL.r 1 rfl <| WL.nil <| WC.ret ?_
  refine ⟨[.int .i64 (f * ((Tr.mxH n : Int) + 2))], rfl, ?_⟩
  exact ⟨rfl, hS⟩
end Go.Proofs.YtbeacjcmdijdmaaGreat
/-! ## W6 -/
namespace Go.Proofs.YtbeacjcmdijdmaaGreat
open Go Go.V
theorem TOp.held {A B : AM} {R : List Int} {i j : Int} {t : Tr} {c : Nat} (h : TOp (A.ret i) B R j t c) : TOp A B R j t c :=
  ⟨h.ref, h.is, (Kp.ret A i R).trans h.kp, by have := h.fr; rw [(AM.ret_same _ _).1] at this; exact this, by rw [h.cap, (AM.ret_same _ _).1]⟩
theorem get_of {k z : Int} {t : Tr} (h1 : (Tr.get k t).isSome = true) (h2 : (Tr.get k t).getD 0 = z) : Tr.get k t = some z := by
  cases hg : Tr.get k t with
  | none => rw [hg] at h1; cases h1
  | some y => rw [hg] at h2; rw [show y = z from h2]
end Go.Proofs.YtbeacjcmdijdmaaGreat
/-! ## H2 -/
namespace Go.Proofs.YtbeacjcmdijdmaaGreat
open Go Go.V
def outP (lo hi : Int) (e : Int × Int) : Bool := decide (e.1 < lo ∨ hi < e.1)
theorem out_in {l : Kvs} {j : Nat} {e : Int × Int} {lo hi : Int} (he : l[j]? = some e) (h : e.1 < lo ∨ hi < e.1) : (l.take (j + 1)).filter (outP lo hi) = (l.take j).filter (outP lo hi) ++ [e] := by
  have : outP lo hi e = true := decide_eq_true h
  rw [List.take_add_one, he, List.filter_append]; simp [this]
theorem out_no {l : Kvs} {j : Nat} {e : Int × Int} {lo hi : Int} (he : l[j]? = some e) (h : ¬ (e.1 < lo ∨ hi < e.1)) : (l.take (j + 1)).filter (outP lo hi) = (l.take j).filter (outP lo hi) := by
  have : outP lo hi e = false := decide_eq_false h
  rw [List.take_add_one, he, List.filter_append]; simp [this]
set_option maxRecDepth 8192 in
theorem ref_out {g w : World} {L : List HP} (l : Kvs) (u : Option Addr) (d : Nat) (lo hi : Int) (hl : l.length ≤ 1000000) (hS : St g (Sh 121 2 (en2 l) u d :: L) w) :
    Sp Tryz.prog 177 [.slice u (List.length (en2 l)) d, .int .i64 lo, .int .i64 hi] w (fun v w' => ∃ (a2 : Option Addr) (c2 : Nat), v = .slice a2 (List.length (en2 (l.filter (outP lo hi)))) c2 ∧ St g (Own 121 2 (en2 (l.filter (outP lo hi))) a2 c2 :: Sh 121 2 (en2 l) u d :: L) w') := by
  refine Sp.enter Tryz.func177 rfl (by kernel_rfl) (by kernel_rfl) ?_
  have _ := hl
  refine WC.seq <| WC.region <| WL.r 1 rfl <| WL.nil <| WC.seq <| WC.region ?_
  have hll := en2_len l
  refine WL.r 1 rfl <| WL.nil <| WC.seq <| WC.seq <| WC.region <| WL.r 1 rfl <| WL.nil <| WC.block ?_
  replace hS := hS.nil_ 121 2
  refine WC.loop [0, 1, 2, 6, 7, 8] (fun kM vs w => ∃ (j : Nat) (out : Kvs) (ua : Option Addr) (uc : Nat), vs = [.slice u (List.length (en2 l)) d, .int .i64 lo, .int .i64 hi, .slice none 0 0, .slice ua (List.length (en2 out)) uc, .int .i64 (j : Int)] ∧ St g (Own 121 2 (en2 out) ua uc :: Sh 121 2 (en2 l) u d :: L) w ∧ (j ≤ l.length) ∧ (out = (l.take j).filter (outP lo hi)) ∧ (l.length - j) = kM) ((List.length l) - 0) ⟨0, [], none, 0, rfl, hS, (Nat.zero_le _), (rfl), rfl⟩ ?_
  clear hS; rintro _ _ w j ⟨j, out, ua, uc, rfl, hS, hj, hP, rfl⟩
  refine WC.seq <| WC.seq <| WC.region <| WL.r 4 rfl <| WL.nil <| WC.ifP rfl (fun cd1 => ?_) (fun cd1 => ?_)
  · refine WC.skip ?_
    as_aux_lemma =>
    refine WC.seq <| WC.block <| WC.seq <| WC.region ?_
    obtain ⟨e, he⟩ : ∃ e, l[j]? = some e := ⟨_, List.getElem?_eq_getElem (by omega)⟩; have hol : out.length ≤ l.length := (by rw [hP]; exact Nat.le_trans (List.length_filter_le _ _) (by simp; omega)); have hoe := en2_len out
    refine WL.r 2 rfl <| WL.ix rfl rfl (i := (j : Int)) (j) el_49 rfl rfl (by omega) (by omega) (hS.rdS 1 rfl (en2_at he)).1 ?_
    refine WL.run 5 [.int .i64 e.1] rfl (by exact (hS.rdS 1 rfl (en2_at he)).2 0 _ rfl) ?_
    by_cases cg1 : e.1 < lo
    · refine WL.reb 22 (.bool true) (congrArg Value.bool (decide_eq_true cg1)) <| WL.skp rfl rfl rfl rfl <| WL.skp rfl rfl rfl rfl <| WL.skp rfl rfl rfl rfl <| WL.skp rfl rfl rfl rfl <| WL.skp rfl rfl rfl rfl <| WL.skp rfl rfl rfl rfl <| WL.skp rfl rfl rfl rfl <| WL.r 1 rfl <| WL.nil <| WC.ifT rfl rfl <| WC.region ?_
      refine WL.r 3 rfl <| WL.ix rfl rfl (i := (j : Int)) (j) el_49 rfl rfl (by omega) (by omega) (hS.rdS 1 rfl (en2_at he)).1 ?_
      refine WL.ldC rfl rfl [.int .i64 e.1, .int .i64 e.2] ag_121 rfl (hS.rdS 1 rfl (en2_at he)).2 <| WL.lit rfl rfl (en2 [(e.1, e.2)]) el_49 hS (by exact ⟨rfl, rfl⟩) (en2_ok _) rfl (Nat.le_of_ble_eq_true rfl) (fun b1 w hS => ?_)
      refine WL.app rfl rfl 1 (en2 (out ++ [(e.1, e.2)])) el_49 hS rfl (hS.srcO 0 rfl) (en2_app _ _).symm (Rm.of (by first | omega | (simp <;> omega)) (by decide)) rfl rfl (fun a1 c1 w hS => ?_)
      replace hS := hS.n3 L (a0 := Own 121 2 (en2 [(e.1, e.2)]) (some ⟨b1, 0, none⟩) (List.length (en2 [(e.1, e.2)]))) (a1 := Own 121 2 (en2 (out ++ [(e.1, e.2)])) a1 c1) rfl
      refine WL.r 1 rfl <| WL.nil ?_
      as_aux_lemma =>
      refine WC.region <| WL.r 2 rfl <| WL.nw 14 rfl (w64 (by omega)) ?_
      refine WL.r 1 rfl <| WL.nil ?_
      exact ⟨_, by omega, j + 1, out ++ [(e.1, e.2)], a1, c1, rfl, (hS.sel 1 [] rfl), (by omega), (by rw [hP]; exact (out_in he (by omega)).symm), rfl⟩
    · refine WL.reb 22 (.bool false) (congrArg Value.bool (decide_eq_false cg1)) <| WL.ung rfl rfl rfl <| WL.r 1 rfl <| WL.ung rfl rfl rfl <| WL.r 1 rfl <| WL.ung rfl rfl rfl <| WL.ix rfl rfl (i := (j : Int)) (j) el_49 rfl rfl (by omega) (by omega) (hS.rdS 1 rfl (en2_at he)).1 ?_
      refine WL.ung rfl rfl rfl <| WL.r 1 rfl <| WL.ung rfl rfl rfl <| WL.run 1 [.int .i64 e.1] rfl (by exact (hS.rdS 1 rfl (en2_at he)).2 0 _ rfl) ?_
      refine WL.ung rfl rfl rfl <| WL.r 1 rfl <| WL.ung rfl rfl rfl <| WL.r 2 rfl <| WL.nil ?_
      as_aux_lemma =>
      refine WC.ifP rfl (fun cd2 => ?_) (fun cd2 => ?_)
      · refine WC.region <| WL.r 3 rfl <| WL.ix rfl rfl (i := (j : Int)) (j) el_49 rfl rfl (by omega) (by omega) (hS.rdS 1 rfl (en2_at he)).1 ?_
        refine WL.ldC rfl rfl [.int .i64 e.1, .int .i64 e.2] ag_121 rfl (hS.rdS 1 rfl (en2_at he)).2 <| WL.lit rfl rfl (en2 [(e.1, e.2)]) el_49 hS (by exact ⟨rfl, rfl⟩) (en2_ok _) rfl (Nat.le_of_ble_eq_true rfl) (fun b1 w hS => ?_)
        refine WL.app rfl rfl 1 (en2 (out ++ [(e.1, e.2)])) el_49 hS rfl (hS.srcO 0 rfl) (en2_app _ _).symm (Rm.of (by first | omega | (simp <;> omega)) (by decide)) rfl rfl (fun a1 c1 w hS => ?_)
        replace hS := hS.n3 L (a0 := Own 121 2 (en2 [(e.1, e.2)]) (some ⟨b1, 0, none⟩) (List.length (en2 [(e.1, e.2)]))) (a1 := Own 121 2 (en2 (out ++ [(e.1, e.2)])) a1 c1) rfl
        refine WL.r 1 rfl <| WL.nil <| WC.region <| WL.r 2 rfl <| WL.nw 14 rfl (w64 (by omega)) ?_
        refine WL.r 1 rfl <| WL.nil ?_
        exact ⟨_, by omega, j + 1, out ++ [(e.1, e.2)], a1, c1, rfl, (hS.sel 1 [] rfl), (by omega), (by rw [hP]; exact (out_in he (by omega)).symm), rfl⟩
      · refine WC.skip <| WC.region <| WL.r 2 rfl <| WL.nw 14 rfl (w64 (by omega)) ?_
        refine WL.r 1 rfl <| WL.nil ?_
        exact ⟨_, by omega, j + 1, out, ua, uc, rfl, hS, (by omega), (by rw [hP]; exact (out_no he (by omega)).symm), rfl⟩
  · refine WC.exit ?_
    as_aux_lemma =>
    refine WC.seq <| WC.region <| WL.r 2 rfl <| WL.nil <| WC.ret ?_
    refine ⟨[.slice ua (List.length (en2 out)) uc], rfl, ?_⟩
    have e9 : out = l.filter (outP lo hi) := (by rw [hP, List.take_of_length_le (by omega)]); rw [e9] at hS ⊢; exact ⟨_, _, rfl, hS⟩
theorem out_del (k : Int) (l : Kvs) : l.filter (outP k k) = ldel k l := by
  unfold ldel
  refine List.filter_congr fun x _ => ?_
  unfold outP
  exact decide_eq_decide.2 ⟨fun h => by omega, fun h => by omega⟩
set_option maxRecDepth 8192 in
theorem ref_del {g w : World} {L : List HP} (l : Kvs) (u : Option Addr) (d : Nat) (k : Int) (hl : l.length ≤ 1000000) (hS : St g (Sh 121 2 (en2 l) u d :: L) w) :
    Sp Tryz.prog 109 [.slice u (List.length (en2 l)) d, .int .i64 k] w (fun v w' => ∃ (a2 : Option Addr) (c2 : Nat), v = .slice a2 (List.length (en2 (ldel k l))) c2 ∧ St g (Own 121 2 (en2 (ldel k l)) a2 c2 :: Sh 121 2 (en2 l) u d :: L) w') := by
  refine Sp.enter Tryz.func109 rfl (by kernel_rfl) (by kernel_rfl) ?_
  refine WC.seq <| WC.region <| WL.r 1 rfl <| WL.nil <| WC.seq <| WC.region <| WL.r 3 rfl <| WL.call rfl rfl (ref_out (lo := k) (hi := k) (hl := hl) (hS := hS)) rfl ?_
  clear hS; rintro _ w ⟨a1, c1, rfl, hS⟩
  replace hS := hS.n2 L (a0 := Own 121 2 (en2 (l.filter (outP k k))) a1 c1) rfl
  refine WL.r 1 rfl <| WL.nil <| WC.ret ?_
  refine ⟨[.slice a1 (List.length (en2 (l.filter (outP k k)))) c1], rfl, ?_⟩
  rw [out_del] at hS ⊢; exact ⟨_, _, rfl, hS⟩
set_option maxRecDepth 8192 in
theorem same9 {g w : World} {L : List HP} (xs ys : Kvs) (a b : Option Addr) (c d : Nat) (hl : xs.length ≤ 1000000000) (hS : St g (Sh 121 2 (en2 xs) a c :: Sh 121 2 (en2 ys) b d :: L) w) :
    Sp Tryz.prog 33 [.slice a (List.length (en2 xs)) c, .slice b (List.length (en2 ys)) d] w (fun v w' => v = .bool (decide (xs = ys)) ∧ St g (Sh 121 2 (en2 xs) a c :: Sh 121 2 (en2 ys) b d :: L) w') := by
  refine Sp.enter Tryz.func33 rfl (by kernel_rfl) (by kernel_rfl) ?_
  have _ := hl
  refine WC.seq <| WC.region <| WL.r 1 rfl <| WL.nil <| WC.seq <| WC.seq <| WC.region ?_
  have h1 := en2_len xs; have h2 := en2_len ys
  refine WL.r 5 rfl <| WL.nil <| WC.ifP rfl (fun cd1 => ?_) (fun cd1 => ?_)
  · refine WC.seq <| WC.region <| WL.r 1 rfl <| WL.nil <| WC.ret ?_
    refine ⟨[.bool false], rfl, ?_⟩
    exact ⟨congrArg Value.bool (decide_eq_false (fun h => by rw [h1, h2, h] at cd1; exact absurd rfl cd1)).symm, hS⟩
  · refine WC.skip <| WC.seq <| WC.seq <| WC.region <| WL.r 1 rfl <| WL.nil <| WC.block <| WC.loop [0, 1, 5] (fun kM vs w => ∃ (k : Nat), vs = [.slice a (List.length (en2 xs)) c, .slice b (List.length (en2 ys)) d, .int .i64 (k : Int)] ∧ St g (Sh 121 2 (en2 xs) a c :: Sh 121 2 (en2 ys) b d :: L) w ∧ (k ≤ xs.length) ∧ (xs.take k = ys.take k) ∧ (xs.length - k) = kM) ((List.length xs) - 0) ⟨0, rfl, hS, (Nat.zero_le _), (rfl), rfl⟩ ?_
    clear hS; rintro _ _ w j ⟨k, rfl, hS, hk, he, rfl⟩
    refine WC.seq <| WC.seq <| WC.region <| WL.r 4 rfl <| WL.nil ?_
    as_aux_lemma =>
    refine WC.ifP rfl (fun cd2 => ?_) (fun cd2 => ?_)
    · refine WC.skip <| WC.seq <| WC.block <| WC.seq <| WC.plan [([0, 1, 4, 5, 2, 6, 3, 7, 8], none)] (by kernel_rfl) (by kernel_rfl) ?_
      refine WQ.r 4 rfl ?_
      obtain ⟨x, hx⟩ : ∃ x, xs[k]? = some x := ⟨_, List.getElem?_eq_getElem (by omega)⟩
      refine WQ.ix rfl rfl (i := (k : Int)) (k) el_49 rfl rfl (by omega) (len_of (en2_at hx)) (hS.rdS 0 rfl (en2_at hx)).1 ?_
      obtain ⟨y, hy⟩ : ∃ y, ys[k]? = some y := ⟨_, List.getElem?_eq_getElem (by omega)⟩
      refine WQ.ix rfl rfl (i := (k : Int)) (k) el_49 rfl rfl (by omega) (len_of (en2_at hy)) (hS.rdS 1 rfl (en2_at hy)).1 ?_
      refine WQ.ldC rfl rfl [.int .i64 x.1, .int .i64 x.2] ag_121 rfl (hS.rdS 0 rfl (en2_at hx)).2 <| WQ.ldC rfl rfl [.int .i64 y.1, .int .i64 y.2] ag_121 rfl (hS.rdS 1 rfl (en2_at hy)).2 <| WQ.neS rfl rfl eq_121 (xs := [.int .i64 x.1, .int .i64 x.2]) (ys := [.int .i64 y.1, .int .i64 y.2]) rfl rfl rfl rfl <| WQ.prop 25 rfl (bnot (band (dd _) (dd _))) <| WQ.nil ?_
      intro m1
      replace hS := hS.drewN m1; generalize hwm1 : World.drewN _ _ = w at *; clear hwm1
      refine WC.ifP rfl (fun cd3 => ?_) (fun cd3 => ?_)
      · refine WC.seq <| WC.region <| WL.r 1 rfl <| WL.nil <| WC.ret ?_
        refine ⟨[.bool false], rfl, ?_⟩
        exact ⟨congrArg Value.bool (decide_eq_false (fun h => by subst h; rw [hx] at hy; cases hy; exact absurd ⟨rfl, rfl⟩ cd3)).symm, hS⟩
      · refine WC.skip <| WC.region <| WL.r 2 rfl <| WL.nw 16 rfl (w64 (by omega)) ?_
        refine WL.r 1 rfl <| WL.nil ?_
        exact ⟨_, by omega, k + 1, rfl, hS, (by omega), (by rw [List.take_add_one, List.take_add_one, he, hx, hy, Prod.ext (Classical.not_not.1 cd3).1 (Classical.not_not.1 cd3).2]), rfl⟩
    · refine WC.exit <| WC.seq <| WC.region <| WL.r 1 rfl <| WL.nil <| WC.ret ?_
      refine ⟨[.bool true], rfl, ?_⟩
      exact ⟨congrArg Value.bool (decide_eq_true (by rw [← List.take_of_length_le (i := k) (l := xs) (by omega), he, List.take_of_length_le (by omega)])).symm, hS⟩
end Go.Proofs.YtbeacjcmdijdmaaGreat
/-! ## Aga -/
namespace Go.V
open Go Go.RowKit Go.Maps Go.Sort
section
variable {g w w' : World} {L : List HP} {e size n : Nat} {v : Value} {xs : List Value}
theorem St.of_row (ls : List (List Value)) (h : St g L w) (hb : Below w.heap.size w w') (hr : w'.ownsRow w.heap.size e size v n xs) (hls : ls.flatten = xs) (hn : ls.length = n) (hok : OkE size ls) :
    ∃ a c, v = .slice a ls.length c ∧ St g (Own e size ls a c :: L) w' := by
  subst hn; subst hls
  have h0 : St g (pur True :: L) w := h.add fun _ _ => trivial
  obtain ⟨b1, b2, b3, b4, b5⟩ := hb
  obtain ⟨_, ⟨rfl, hn⟩ | ⟨q, cap, cur, rfl, hq, hcur, h1, h2, h3, h4⟩⟩ := hr
  · have hz : ls = [] := List.length_eq_zero_iff.1 hn
    subst hz
    refine ⟨none, 0, rfl, h0.upd b1 b2 b3 b4 fun o1 r _ _ _ _ => ⟨fun _ => none, ⟨OkE.nil _, .inl ⟨rfl, rfl, rfl⟩⟩, fun _ _ h => (by cases h), fun k hk => absurd rfl hk, fun k hk _ => b5 k hk⟩⟩
  · refine ⟨some ⟨q, 0, none⟩, cap, rfl, h0.upd b1 b2 b3 b4 fun o1 r _ _ _ _ => ⟨fun k => if k = q then some (.cells cur e (0, 0)) else none, ⟨hok, .inr ⟨q, cur, rfl, by simp, h1, h2, h3, h4⟩⟩, fun k x hx => ?_, fun k hk => ?_, fun k hk _ => b5 k hk⟩⟩
    · simp only at hx
      split at hx
      · rename_i hk; subst hk; simp only [Option.some.injEq] at hx; subst hx; exact hcur
      · cases hx
    · simp only [ne_eq, ite_eq_right_iff, reduceCtorEq, imp_false, Classical.not_not] at hk
      exact .inr (by omega)
end
section
variable {g w : World} {L : List HP} {e c : Nat} {ls : List Int} {b : Nat}
theorem i64s_flat (l : List Int) : (i64s l).flatten = l.map (Value.int .i64) := by
  induction l with
  | nil => rfl
  | cons x l ih => simp only [i64s, List.map_cons, List.flatten_cons, List.singleton_append] at ih ⊢; rw [ih]
end
theorem sort_eqI {ys ss : List Int} (hp : ss.Perm ys) (hs : ss.Pairwise (· ≤ ·)) : ys.mergeSort (fun x y => decide (x ≤ y)) = ss := by
  have h1 := mergeSort_of_perm_i hp
  show ys.mergeSort leI = _
  rw [← h1]
  exact List.mergeSort_of_pairwise (le := leI) (hs.imp fun h => decide_eq_true h)
end Go.V
namespace Go.V
open Go Go.RowKit Go.Maps
structure VN where
  n : Int
  live : Bool
  ab : List Int
  a : Option Addr
  c : Nat
  born : Nat
def VUq (xs : List VN) : Prop := xs.Pairwise fun x y => x.n ≠ y.n
theorem VUq.one {R : List VN} (h : VUq R) {i j : Nat} {x y : VN} (hi : R[i]? = some x) (hj : R[j]? = some y) (he : x.n = y.n) : i = j := by
  have h1 := (List.getElem?_eq_some_iff.1 hi).1
  have h2 := (List.getElem?_eq_some_iff.1 hj).1
  have e1 : R[i] = x := (List.getElem?_eq_some_iff.1 hi).2
  have e2 : R[j] = y := (List.getElem?_eq_some_iff.1 hj).2
  rcases Nat.lt_trichotomy i j with hl | hl | hl
  · exact absurd (by rw [e1, e2]; exact he) (List.pairwise_iff_getElem.1 h i j h1 h2 hl)
  · exact hl
  · exact absurd (by rw [e1, e2]; exact he.symm) (List.pairwise_iff_getElem.1 h j i h2 h1 hl)
def vfind (xs : List VN) (n : Int) : Option VN := xs.find? fun x => decide (x.n = n)
def liveG (xs : List VN) (n : Int) : Bool := ((vfind xs n).map (·.live)).getD false
def preG (xs : List VN) (n : Int) : Bool := (vfind xs n).isSome
def abG (xs : List VN) (n : Int) : List Int := ((vfind xs n).map (·.ab)).getD []
theorem vfind_in {xs : List VN} {k : Nat} {x : VN} (hx : xs[k]? = some x) (hu : VUq xs) : vfind xs x.n = some x := by
  cases hf : vfind xs x.n with
  | none =>
    have := List.find?_eq_none.1 hf x (List.mem_of_getElem? hx)
    exact absurd (decide_eq_true rfl) this
  | some y =>
    have hn : y.n = x.n := of_decide_eq_true (List.find?_some (p := fun q : VN => decide (q.n = x.n)) hf)
    obtain ⟨j, hj⟩ := List.mem_iff_getElem?.1 (List.mem_of_find?_eq_some hf)
    have := hu.one hj hx hn
    subst this
    rw [hj] at hx; exact hx
theorem vfind_out {xs : List VN} {n : Int} (h : ∀ x ∈ xs, x.n ≠ n) : vfind xs n = none := by
  refine List.find?_eq_none.2 fun x hx he => h x hx (of_decide_eq_true he)
theorem vfind_some {xs : List VN} {n : Int} {x : VN} (h : vfind xs n = some x) : x ∈ xs ∧ x.n = n := ⟨List.mem_of_find?_eq_some h, of_decide_eq_true (List.find?_some (p := fun q : VN => decide (q.n = n)) h)⟩
theorem vfind_none {xs : List VN} {n : Int} : vfind xs n = none ↔ ∀ x ∈ xs, x.n ≠ n := ⟨fun h x hx e => List.find?_eq_none.1 h x hx (decide_eq_true e), vfind_out⟩
theorem vfind_mem {xs : List VN} {x : VN} (hx : x ∈ xs) (hu : VUq xs) : vfind xs x.n = some x := by
  obtain ⟨k, hk⟩ := List.mem_iff_getElem?.1 hx
  exact vfind_in hk hu
theorem g_in {xs : List VN} {n : Int} {x : VN} (h : vfind xs n = some x) : liveG xs n = x.live ∧ preG xs n = true ∧ abG xs n = x.ab := by simp [liveG, preG, abG, h]
theorem g_out {xs : List VN} {n : Int} (h : vfind xs n = none) : liveG xs n = false ∧ preG xs n = false ∧ abG xs n = [] := by simp [liveG, preG, abG, h]
theorem live_pre {xs : List VN} {n : Int} (h : liveG xs n = true) : preG xs n = true := by
  unfold liveG at h; unfold preG
  cases hf : vfind xs n with
  | none => rw [hf] at h; cases h
  | some x => rfl
theorem pre_iff {xs : List VN} {n : Int} : preG xs n = true ↔ ∃ x ∈ xs, x.n = n := by
  unfold preG
  cases hf : vfind xs n with
  | none => exact ⟨fun h => (by cases h), fun ⟨x, hx, hn⟩ => absurd hn (vfind_none.1 hf x hx)⟩
  | some x => exact ⟨fun _ => ⟨x, vfind_some hf⟩, fun _ => rfl⟩
structure VOk (xs : List VN) (q : Nat) : Prop where
  uniq : VUq xs
  born : ∀ x ∈ xs, x.born < q
  bnd : (xs.map (·.born)).Nodup
  rng : ∀ x ∈ xs, 1 ≤ x.n ∧ x.n ≤ 1000000000
  num : xs.length ≤ 4096
section
variable {P : Program} {k : TypeId}
def noRdI (_ : Value) : Option (DataW Unit × List MemPlace) := some (.nil, [])
end
end Go.V
namespace Go.V
open Go Go.RowKit
def Asc (l : List Int) : Prop := l.Pairwise fun a b => a < b
def gcm (l m : List Int) : Int := ((l.filter fun z => decide (z ∈ m)).getLast?).getD 0
theorem Asc.nodup {l : List Int} (h : Asc l) : l.Nodup := h.imp fun h => by omega
theorem Asc.last {l : List Int} (h : Asc l) {u : Int} (hu : u ∈ l) (hm : ∀ z ∈ l, z ≤ u) : l.getLast? = some u := by
  induction l with
  | nil => cases hu
  | cons x t ih =>
    have hp := List.pairwise_cons.1 h
    cases t with
    | nil => simp at hu; subst hu; rfl
    | cons y t =>
      rw [List.getLast?_cons_cons]
      refine ih hp.2 ?_ fun z hz => hm z (List.mem_cons_of_mem _ hz)
      rcases List.mem_cons.1 hu with rfl | hu
      · have h1 := hp.1 y (List.mem_cons_self ..)
        have h2 := hm y (List.mem_cons_of_mem _ (List.mem_cons_self ..))
        omega
      · exact hu
theorem gcm_is {l m : List Int} (h : Asc l) {u : Int} (h1 : u ∈ l) (h2 : u ∈ m) (hm : ∀ z ∈ l, z ∈ m → z ≤ u) : gcm l m = u := by
  unfold gcm
  have h3 : Asc (l.filter fun z => decide (z ∈ m)) := h.sublist List.filter_sublist
  rw [h3.last (List.mem_filter.2 ⟨h1, decide_eq_true h2⟩) fun z hz => hm z (List.mem_filter.1 hz).1 (of_decide_eq_true (List.mem_filter.1 hz).2)]
  rfl
theorem gcm_no {l m : List Int} (h : ∀ z ∈ l, z ∉ m) : gcm l m = 0 := by
  unfold gcm
  rw [List.filter_eq_nil_iff.2 fun z hz hd => h z hz (of_decide_eq_true hd)]
  rfl
theorem Asc.max_ex {l : List Int} (h : Asc l) (hne : l ≠ []) : ∃ u ∈ l, ∀ z ∈ l, z ≤ u := by
  refine ⟨l.getLast hne, List.getLast_mem hne, fun z hz => ?_⟩
  induction l with
  | nil => exact absurd rfl hne
  | cons x t ih =>
    have hp := List.pairwise_cons.1 h
    cases t with
    | nil => simp at hz; subst hz; exact Int.le_refl _
    | cons y t =>
      rw [List.getLast_cons (by simp)]
      rcases List.mem_cons.1 hz with rfl | hz
      · have h1 := hp.1 _ (List.getLast_mem (l := y :: t) (by simp)); omega
      · exact ih hp.2 (by simp) hz
theorem gcm_cases {l m : List Int} (h : Asc l) : (gcm l m = 0 ∧ ∀ z ∈ l, z ∉ m) ∨ (gcm l m ∈ l ∧ gcm l m ∈ m ∧ ∀ z ∈ l, z ∈ m → z ≤ gcm l m) := by
  by_cases hne : (l.filter fun z => decide (z ∈ m)) = []
  · have h1 : ∀ z ∈ l, z ∉ m := fun z hz hzm => List.filter_eq_nil_iff.1 hne z hz (decide_eq_true hzm)
    exact .inl ⟨gcm_no h1, h1⟩
  · obtain ⟨u, hu, hm⟩ := (show Asc _ from h.sublist List.filter_sublist).max_ex hne
    have h1 := (List.mem_filter.1 hu).1
    have h2 : u ∈ m := of_decide_eq_true (List.mem_filter.1 hu).2
    have h3 : ∀ z ∈ l, z ∈ m → z ≤ u := fun z hz hzm => hm z (List.mem_filter.2 ⟨hz, decide_eq_true hzm⟩)
    rw [gcm_is h h1 h2 h3]
    exact .inr ⟨h1, h2, h3⟩
def baseG (xs : List VN) (x y : Int) : Int := if liveG xs x = true ∧ liveG xs y = true then gcm (abG xs x) (abG xs y) else 0
structure GOk (xs : List VN) (q : Nat) : Prop extends VOk xs q where
  asc : ∀ x ∈ xs, Asc x.ab
  self : ∀ x ∈ xs, x.n ∈ x.ab
  le : ∀ x ∈ xs, ∀ z ∈ x.ab, z ≤ x.n
  pre : ∀ x ∈ xs, ∀ z ∈ x.ab, preG xs z = true
  tr : ∀ x ∈ xs, ∀ z ∈ x.ab, ∀ u ∈ abG xs z, u ∈ x.ab
theorem nd_le : ∀ {l m : List Int}, l.Nodup → (∀ z ∈ l, z ∈ m) → l.length ≤ m.length
  | [], _, _, _ => Nat.zero_le _
  | x :: t, m, h, hs => by
    have hp := List.nodup_cons.1 h
    have h1 := List.perm_cons_erase (hs x (List.mem_cons_self ..))
    have h2 : t.length ≤ (m.erase x).length := nd_le hp.2 fun z hz => by
      have h3 := h1.mem_iff.1 (hs z (List.mem_cons_of_mem _ hz))
      rcases List.mem_cons.1 h3 with rfl | h3
      · exact absurd hz hp.1
      · exact h3
    have h4 := h1.length_eq
    simp only [List.length_cons] at h4 ⊢
    omega
theorem GOk.len {xs : List VN} {q : Nat} (h : GOk xs q) {x : VN} (hx : x ∈ xs) : x.ab.length ≤ xs.length := by
  have h1 : x.ab.length ≤ (xs.map VN.n).length := by
    refine nd_le (h.asc x hx).nodup fun z hz => ?_
    obtain ⟨y, hy, hn⟩ := pre_iff.1 (h.pre x hx z hz)
    exact List.mem_map.2 ⟨y, hy, hn⟩
  simpa using h1
theorem GOk.nil : GOk [] 0 := ⟨⟨List.Pairwise.nil, fun _ h => (by cases h), List.nodup_nil, fun _ h => (by cases h), by simp⟩, fun _ h => (by cases h), fun _ h => (by cases h), fun _ h => (by cases h), fun _ h => (by cases h), fun _ h => (by cases h)⟩
end Go.V
namespace Go.V
open Go Go.RowKit
def newAb (xs : List VN) (n : Int) (ps : List Int) : List Int := [n] ++ ps.flatMap (abG xs)
theorem vfind_app {xs : List VN} {v : VN} (hn : ∀ x ∈ xs, x.n ≠ v.n) (n : Int) : vfind (xs ++ [v]) n = if n = v.n then some v else vfind xs n := by
  unfold vfind
  rw [List.find?_append]
  by_cases h : n = v.n
  · subst h
    rw [if_pos rfl, show xs.find? (fun x => decide (x.n = v.n)) = none from vfind_out hn]
    simp
  · rw [if_neg h]
    cases hf : xs.find? (fun x => decide (x.n = n)) with
    | some x => rfl
    | none =>
      simp only [Option.none_or, List.find?_cons, List.find?_nil]
      rw [decide_eq_false (fun e => h e.symm)]
theorem GOk.add {xs : List VN} {q : Nat} (h : GOk xs q) {v : VN} {ps : List Int} (hn : ∀ x ∈ xs, x.n < v.n) (hr : 1 ≤ v.n ∧ v.n ≤ 1000000000) (hb : v.born = q) (hl : xs.length < 4096)
    (ha : Asc v.ab) (hm : ∀ z, z ∈ v.ab ↔ z ∈ newAb xs v.n ps) : GOk (xs ++ [v]) (q + 1) := by
  have hne : ∀ x ∈ xs, x.n ≠ v.n := fun x hx e => by have := hn x hx; omega
  have hf := vfind_app hne
  have hold : ∀ z ∈ ps.flatMap (abG xs), ∃ x ∈ xs, z ∈ x.ab := fun z hz => by
    obtain ⟨p, _, hz⟩ := List.mem_flatMap.1 hz
    cases hp : vfind xs p with
    | none => rw [(g_out hp).2.2] at hz; cases hz
    | some x => rw [(g_in hp).2.2] at hz; exact ⟨x, (vfind_some hp).1, hz⟩
  have hm2 : ∀ z, z ∈ v.ab ↔ z = v.n ∨ z ∈ ps.flatMap (abG xs) := fun z => by rw [hm]; simp [newAb]
  have hpre : ∀ z, preG xs z = true → preG (xs ++ [v]) z = true := fun z hz => by
    obtain ⟨x, hx, e⟩ := pre_iff.1 hz
    exact pre_iff.2 ⟨x, List.mem_append_left _ hx, e⟩
  have hlt : ∀ z, preG xs z = true → z < v.n := fun z hz => by
    obtain ⟨x, hx, e⟩ := pre_iff.1 hz
    have := hn x hx; omega
  have hab : ∀ z, z ≠ v.n → abG (xs ++ [v]) z = abG xs z := fun z hz => by unfold abG; rw [hf, if_neg hz]
  refine ⟨⟨?_, fun x hx => ?_, ?_, fun x hx => ?_, by simp; omega⟩, fun x hx => ?_, fun x hx => ?_, fun x hx z hz => ?_, fun x hx z hz => ?_, fun x hx z hz u hu => ?_⟩
  · refine List.pairwise_append.2 ⟨h.uniq, List.pairwise_singleton _ _, fun a hax b hbx => ?_⟩
    simp only [List.mem_singleton] at hbx; subst hbx; exact hne a hax
  · rcases List.mem_append.1 hx with hx | hx
    · have := h.born x hx; omega
    · simp only [List.mem_singleton] at hx; subst hx; omega
  · rw [List.map_append, List.nodup_append]
    refine ⟨h.bnd, by simp, fun a ha b hb2 => ?_⟩
    obtain ⟨x, hx, rfl⟩ := List.mem_map.1 ha
    simp only [List.map_cons, List.map_nil, List.mem_singleton] at hb2
    have := h.born x hx; omega
  · rcases List.mem_append.1 hx with hx | hx
    · exact h.rng x hx
    · simp only [List.mem_singleton] at hx; subst hx; exact hr
  · rcases List.mem_append.1 hx with hx | hx
    · exact h.asc x hx
    · simp only [List.mem_singleton] at hx; subst hx; exact ha
  · rcases List.mem_append.1 hx with hx | hx
    · exact h.self x hx
    · simp only [List.mem_singleton] at hx; subst hx; exact (hm2 _).2 (.inl rfl)
  · rcases List.mem_append.1 hx with hx | hx
    · exact h.le x hx z hz
    · simp only [List.mem_singleton] at hx; subst hx
      rcases (hm2 z).1 hz with rfl | hz
      · exact Int.le_refl _
      · obtain ⟨y, hy, hzy⟩ := hold z hz
        have := h.le y hy z hzy
        have := hn y hy
        omega
  · rcases List.mem_append.1 hx with hx | hx
    · exact hpre z (h.pre x hx z hz)
    · simp only [List.mem_singleton] at hx; subst hx
      rcases (hm2 z).1 hz with rfl | hz
      · exact pre_iff.2 ⟨x, List.mem_append_right _ (List.mem_singleton.2 rfl), rfl⟩
      · obtain ⟨y, hy, hzy⟩ := hold z hz
        exact hpre z (h.pre y hy z hzy)
  · rcases List.mem_append.1 hx with hx | hx
    · have h1 := hlt z (h.pre x hx z hz)
      rw [hab z (by omega)] at hu
      exact h.tr x hx z hz u hu
    · simp only [List.mem_singleton] at hx; subst hx
      rcases (hm2 z).1 hz with rfl | hz
      · unfold abG at hu; rw [hf, if_pos rfl] at hu; exact hu
      · obtain ⟨p, hp, hzp⟩ := List.mem_flatMap.1 hz
        cases hfp : vfind xs p with
        | none => rw [(g_out hfp).2.2] at hzp; cases hzp
        | some y =>
          rw [(g_in hfp).2.2] at hzp
          have hy := (vfind_some hfp).1
          have h1 := hlt z (h.pre y hy z hzp)
          rw [hab z (by omega)] at hu
          refine (hm2 u).2 (.inr (List.mem_flatMap.2 ⟨p, hp, ?_⟩))
          rw [(g_in hfp).2.2]
          exact h.tr y hy z hzp u hu
end Go.V
namespace Go.V
open Go Go.RowKit
def vw (xs : List VN) (z : Int) : Option (Bool × List Int) := (vfind xs z).map fun x => (x.live, x.ab)
theorem live_vw (xs : List VN) (z : Int) : liveG xs z = ((vw xs z).map (·.1)).getD false := by
  unfold liveG vw; cases vfind xs z <;> rfl
theorem pre_vw (xs : List VN) (z : Int) : preG xs z = (vw xs z).isSome := by
  unfold preG vw; cases vfind xs z <;> rfl
theorem ab_vw (xs : List VN) (z : Int) : abG xs z = ((vw xs z).map (·.2)).getD [] := by
  unfold abG vw; cases vfind xs z <;> rfl
theorem VUq.set {xs : List VN} {j : Nat} {u u' : VN} (hu : VUq xs) (hj : xs[j]? = some u) (hn : u'.n = u.n) : VUq (xs.set j u') := by
  unfold VUq at hu ⊢
  rw [← List.pairwise_map (f := VN.n) (R := fun a b => a ≠ b)] at hu ⊢
  have hl := (List.getElem?_eq_some_iff.1 hj).1
  have he := (List.getElem?_eq_some_iff.1 hj).2
  have : (xs.set j u').map VN.n = xs.map VN.n := by
    rw [List.map_set, hn]
    have h5 : (xs.map VN.n)[j]'(by simpa using hl) = u.n := by simp [he]
    rw [← h5]; exact List.set_getElem_self _
  rw [this]; exact hu
theorem VOk.rem {xs : List VN} {q : Nat} (h : VOk xs q) (j : Nat) : VOk (xs.eraseIdx j) q := by
  have hs := List.eraseIdx_sublist xs j
  exact ⟨h.uniq.sublist hs, fun x hx => h.born x (hs.subset hx), h.bnd.sublist (hs.map _), fun x hx => h.rng x (hs.subset hx), Nat.le_trans hs.length_le h.num⟩
theorem VOk.set {xs : List VN} {q j : Nat} {u u' : VN} (h : VOk xs q) (hj : xs[j]? = some u) (hn : u'.n = u.n) (hb : u'.born = u.born) : VOk (xs.set j u') q := by
  have hm := List.mem_of_getElem? hj
  have hl := (List.getElem?_eq_some_iff.1 hj).1
  have he := (List.getElem?_eq_some_iff.1 hj).2
  have hmem : ∀ x ∈ xs.set j u', x = u' ∨ x ∈ xs := fun x hx => (List.mem_or_eq_of_mem_set hx).symm
  refine ⟨h.uniq.set hj hn, fun x hx => ?_, ?_, fun x hx => ?_, by rw [List.length_set]; exact h.num⟩
  · rcases hmem x hx with rfl | hx
    · rw [hb]; exact h.born u hm
    · exact h.born x hx
  · have : (xs.set j u').map VN.born = xs.map VN.born := by
      rw [List.map_set, hb]
      have h5 : (xs.map VN.born)[j]'(by simpa using hl) = u.born := by simp [he]
      rw [← h5]; exact List.set_getElem_self _
    rw [this]; exact h.bnd
  · rcases hmem x hx with rfl | hx
    · rw [hn]; exact h.rng u hm
    · exact h.rng x hx
end Go.V
namespace Go.V
open Go Go.RowKit
def needG (xs : List VN) (z : Int) : Prop := liveG xs z = true ∨ (0 < z ∧ ∃ x y, liveG xs x = true ∧ liveG xs y = true ∧ x < y ∧ baseG xs x y = z)
structure Keys (xs : List VN) (ss : List Int) : Prop where
  perm : ss.Perm (xs.map VN.n)
  asc : Asc ss
theorem Keys.le {xs : List VN} {ss : List Int} (h : Keys xs ss) : ss.Pairwise (· ≤ ·) := h.asc.imp fun h => by omega
theorem Keys.mem {xs : List VN} {ss : List Int} (h : Keys xs ss) (z : Int) : z ∈ ss ↔ preG xs z = true := by
  rw [h.perm.mem_iff, pre_iff, List.mem_map]
end Go.V
namespace Go.V
open Go Go.RowKit
structure GF (f : Int → Option (Bool × List Int)) : Prop where
  asc : ∀ z l a, f z = some (l, a) → Asc a
  self : ∀ z l a, f z = some (l, a) → z ∈ a
  le : ∀ z l a, f z = some (l, a) → ∀ u ∈ a, u ≤ z
  pre : ∀ z l a, f z = some (l, a) → ∀ u ∈ a, (f u).isSome = true
  tr : ∀ z l a, f z = some (l, a) → ∀ u ∈ a, ∀ l' a', f u = some (l', a') → ∀ t ∈ a', t ∈ a
theorem vw_some {xs : List VN} {z : Int} {l : Bool} {a : List Int} (h : vw xs z = some (l, a)) : ∃ x, vfind xs z = some x ∧ x.live = l ∧ x.ab = a := by
  unfold vw at h
  cases hf : vfind xs z with
  | none => rw [hf] at h; cases h
  | some x => rw [hf] at h; simp at h; exact ⟨x, rfl, h.1, h.2⟩
theorem vw_mem {xs : List VN} (hu : VUq xs) {x : VN} (hx : x ∈ xs) : vw xs x.n = some (x.live, x.ab) := by unfold vw; rw [vfind_mem hx hu]; rfl
theorem GOk.gf {xs : List VN} {q : Nat} (h : GOk xs q) : GF (vw xs) := by
  refine ⟨fun z l a hz => ?_, fun z l a hz => ?_, fun z l a hz => ?_, fun z l a hz u hu => ?_, fun z l a hz u hu l' a' hu' t ht => ?_⟩
  all_goals obtain ⟨x, hx, rfl, rfl⟩ := vw_some hz
  all_goals obtain ⟨h1, h2⟩ := vfind_some hx
  · exact h.asc x h1
  · subst h2; exact h.self x h1
  · subst h2; exact h.le x h1
  · rw [← pre_vw]; exact h.pre x h1 u hu
  · refine h.tr x h1 u hu t ?_
    rw [ab_vw, hu']; exact ht
def keep (N : Int → Bool) (f : Int → Option (Bool × List Int)) (z : Int) : Option (Bool × List Int) := if N z = true then (f z).map fun p => (p.1, p.2.filter N) else none
theorem keep_some {N : Int → Bool} {f : Int → Option (Bool × List Int)} {z : Int} {l : Bool} {a : List Int} (h : keep N f z = some (l, a)) : N z = true ∧ ∃ a0, f z = some (l, a0) ∧ a = a0.filter N := by
  unfold keep at h
  split at h
  · rename_i hN
    cases hf : f z with
    | none => rw [hf] at h; cases h
    | some p => rw [hf] at h; simp at h; exact ⟨hN, p.2, by rw [← h.1], h.2.symm⟩
  · cases h
theorem GF.keep {f : Int → Option (Bool × List Int)} (h : GF f) (N : Int → Bool) : GF (keep N f) := by
  refine ⟨fun z l a hz => ?_, fun z l a hz => ?_, fun z l a hz => ?_, fun z l a hz u hu => ?_, fun z l a hz u hu l' a' hu' t ht => ?_⟩
  all_goals obtain ⟨hN, a0, h0, rfl⟩ := keep_some hz
  · exact (h.asc z l a0 h0).sublist List.filter_sublist
  · exact List.mem_filter.2 ⟨h.self z l a0 h0, hN⟩
  · exact fun u hu => h.le z l a0 h0 u (List.mem_filter.1 hu).1
  · obtain ⟨h1, h2⟩ := List.mem_filter.1 hu
    have h3 := h.pre z l a0 h0 u h1
    unfold Go.V.keep
    rw [if_pos h2]
    cases hf : f u with
    | none => rw [hf] at h3; cases h3
    | some p => rfl
  · obtain ⟨_, a1, h1, rfl⟩ := keep_some hu'
    obtain ⟨h2, h3⟩ := List.mem_filter.1 ht
    exact List.mem_filter.2 ⟨h.tr z l a0 h0 u (List.mem_filter.1 hu).1 l' a1 h1 t h2, h3⟩
def dead (f : Int → Option (Bool × List Int)) (n : Int) (z : Int) : Option (Bool × List Int) := if z = n then (f z).map fun p => (false, p.2) else f z
theorem dead_some {f : Int → Option (Bool × List Int)} {n z : Int} {l : Bool} {a : List Int} (h : dead f n z = some (l, a)) : ∃ l0, f z = some (l0, a) := by
  unfold dead at h
  split at h
  · cases hf : f z with
    | none => rw [hf] at h; cases h
    | some p => rw [hf] at h; simp at h; exact ⟨p.1, by rw [← h.2]⟩
  · exact ⟨l, h⟩
theorem dead_iss (f : Int → Option (Bool × List Int)) (n z : Int) : (dead f n z).isSome = (f z).isSome := by
  unfold dead; split
  · cases f z <;> rfl
  · rfl
theorem GF.dead {f : Int → Option (Bool × List Int)} (h : GF f) (n : Int) : GF (dead f n) := by
  refine ⟨fun z l a hz => ?_, fun z l a hz => ?_, fun z l a hz => ?_, fun z l a hz u hu => ?_, fun z l a hz u hu l' a' hu' t ht => ?_⟩
  all_goals obtain ⟨l0, h0⟩ := dead_some hz
  · exact h.asc z l0 a h0
  · exact h.self z l0 a h0
  · exact h.le z l0 a h0
  · rw [dead_iss]; exact h.pre z l0 a h0 u hu
  · obtain ⟨l1, h1⟩ := dead_some hu'
    exact h.tr z l0 a h0 u hu l1 a' h1 t ht
def RelP (xs : List VN) (n : Int) (xs2 : List VN) : Prop := ∃ (xs1 : List VN) (N : Int → Bool), (∀ z, vw xs1 z = dead (vw xs) n z) ∧ (∀ z, N z = true ↔ needG xs1 z) ∧ ∀ z, vw xs2 z = keep N (vw xs1) z
end Go.V
namespace Go.V
open Go Go.RowKit
def okPs (ps : List Int) : Prop := ps.length ≤ 2 ∧ ∀ x y, ps = [x, y] → x ≠ y
instance (ps : List Int) : Decidable (okPs ps) := match ps with
  | [] => isTrue ⟨by simp, fun _ _ h => by cases h⟩
  | [_] => isTrue ⟨by simp, fun _ _ h => by cases h⟩
  | [x, y] => if h : x = y then isFalse (fun k => k.2 x y rfl h) else isTrue ⟨by simp, fun _ _ e => by cases e; exact h⟩
  | _ :: _ :: _ :: _ => isFalse (fun k => by have := k.1; simp at this)
structure GI (xs : List VN) (q : Nat) (cap last : Int) : Prop where
  ok : GOk xs q
  le : ∀ x ∈ xs, x.n ≤ last
  la : 0 ≤ last
  cp : 1 ≤ cap ∧ cap ≤ 4096
def addE (xs : List VN) (cap : Int) (ps : List Int) : Int :=
  if ¬ okPs ps then 1 else if ¬ (∀ z ∈ ps, liveG xs z = true) then 4 else if cap ≤ xs.length then 2 else 0
def AddP (xs : List VN) (cap last : Int) (ps : List Int) (xs2 : List VN) (last2 : Int) : Prop :=
  (addE xs cap ps ≠ 0 ∧ xs2 = xs ∧ last2 = last) ∨ (addE xs cap ps = 0 ∧ last2 = last + 1 ∧ ∃ vn : VN, xs2 = xs ++ [vn] ∧ vn.n = last + 1 ∧ vn.live = true ∧ Asc vn.ab ∧ ∀ z, z ∈ vn.ab ↔ z ∈ newAb xs (last + 1) ps)
def relE (xs : List VN) (n : Int) : Int := if liveG xs n = true then 0 else 4
def RelQ (xs : List VN) (n : Int) (xs2 : List VN) : Prop := (liveG xs n = true ∧ RelP xs n xs2) ∨ (liveG xs n = false ∧ xs2 = xs)
theorem vw_app {xs : List VN} {v : VN} (hn : ∀ x ∈ xs, x.n ≠ v.n) (z : Int) : vw (xs ++ [v]) z = if z = v.n then some (v.live, v.ab) else vw xs z := by
  unfold vw
  rw [vfind_app hn]
  split <;> rfl
theorem RelP.le {xs xs2 : List VN} {n last : Int} (hu : VUq xs2) (h : RelP xs n xs2) (hl : ∀ x ∈ xs, x.n ≤ last) : ∀ x ∈ xs2, x.n ≤ last := fun x hx => by
  obtain ⟨xs1, N, h1, _, h3⟩ := h
  have h4 := vw_mem hu hx
  rw [h3] at h4
  obtain ⟨_, a0, h5, _⟩ := keep_some h4
  rw [h1] at h5
  obtain ⟨l0, h6⟩ := dead_some h5
  obtain ⟨y, hy, _, _⟩ := vw_some h6
  obtain ⟨h7, h8⟩ := vfind_some hy
  rw [← h8]; exact hl y h7
theorem AddP.vw {xs xs2 : List VN} {cap last last2 : Int} {ps : List Int} (h : AddP xs cap last ps xs2 last2) (hl : ∀ x ∈ xs, x.n ≤ last) (h0 : addE xs cap ps = 0) : last2 = last + 1 ∧ xs2.length = xs.length + 1 ∧ ∃ ab, Asc ab ∧ (∀ z, z ∈ ab ↔ z ∈ newAb xs (last + 1) ps) ∧ ∀ z, Go.V.vw xs2 z = if z = last + 1 then some (true, ab) else Go.V.vw xs z := by
  rcases h with ⟨h, _⟩ | ⟨_, h2, v, rfl, h4, h5, h6, h7⟩
  · exact absurd h0 h
  · refine ⟨h2, by simp, v.ab, h6, h7, fun z => ?_⟩
    rw [vw_app (fun x hx e => by have := hl x hx; omega), h4, h5]
theorem AddP.bnd {xs xs2 : List VN} {cap last last2 : Int} {ps : List Int} (h : AddP xs cap last ps xs2 last2) : last ≤ last2 ∧ last2 ≤ last + 1 := by
  rcases h with ⟨_, _, h⟩ | ⟨_, h, _⟩ <;> omega
end Go.V
namespace Go.V
open Go Go.RowKit
def KO (xs : List VN) : Prop := ∀ z, preG xs z = true → needG xs z
theorem KO.nil : KO [] := fun z h => by cases h
theorem baseG_pos {xs : List VN} {x y : Int} (hx : liveG xs x = true) (hy : liveG xs y = true) : baseG xs x y = gcm (abG xs x) (abG xs y) := by rw [baseG, if_pos ⟨hx, hy⟩]
theorem KO.add {xs xs2 : List VN} {cap last last2 : Int} {ps : List Int} (h : KO xs) (hl : ∀ x ∈ xs, x.n ≤ last) (ha : AddP xs cap last ps xs2 last2) : KO xs2 := by
  by_cases h0 : addE xs cap ps = 0
  · obtain ⟨_, _, ab, _, _, hv⟩ := ha.vw hl h0
    have hlt : ∀ z, preG xs z = true → z ≤ last := fun z hz => by
      obtain ⟨x, hx, e⟩ := pre_iff.1 hz
      rw [← e]; exact hl x hx
    have hlv : ∀ z, z ≠ last + 1 → liveG xs2 z = liveG xs z ∧ abG xs2 z = abG xs z := fun z hz => by rw [live_vw, live_vw, ab_vw, ab_vw, hv, if_neg hz]; exact ⟨rfl, rfl⟩
    intro z hz
    by_cases hn : z = last + 1
    · subst hn; exact .inl (by rw [live_vw, hv, if_pos rfl]; rfl)
    · have hz1 : preG xs z = true := by rw [pre_vw, hv, if_neg hn, ← pre_vw] at hz; exact hz
      rcases h z hz1 with h1 | ⟨h1, x, y, hx, hy, hxy, he⟩
      · exact .inl (by rw [(hlv z hn).1]; exact h1)
      · have nx : x ≠ last + 1 := by have := hlt x (live_pre hx); omega
        have ny : y ≠ last + 1 := by have := hlt y (live_pre hy); omega
        have lx : liveG xs2 x = true := by rw [(hlv x nx).1]; exact hx
        have ly : liveG xs2 y = true := by rw [(hlv y ny).1]; exact hy
        refine .inr ⟨h1, x, y, lx, ly, hxy, ?_⟩
        rw [baseG_pos lx ly, (hlv x nx).2, (hlv y ny).2, ← baseG_pos hx hy]; exact he
  · rcases ha with ⟨_, rfl, _⟩ | ⟨h2, _⟩
    · exact h
    · exact absurd h2 h0
theorem keep_base {xs1 xs2 : List VN} {N : Int → Bool} (hG : GF (vw xs1)) (hpos : ∀ z, (vw xs1 z).isSome = true → 1 ≤ z) (hN : ∀ z, N z = true ↔ needG xs1 z) (hv : ∀ z, vw xs2 z = keep N (vw xs1) z) :
    (∀ z, liveG xs2 z = liveG xs1 z) ∧ (∀ z, N z = true → abG xs2 z = (abG xs1 z).filter N) ∧ ∀ x y, x < y → liveG xs1 x = true → liveG xs1 y = true → baseG xs2 x y = baseG xs1 x y := by
  have hlv : ∀ z, liveG xs2 z = liveG xs1 z := fun z => by
    cases hN1 : N z with
    | true => rw [live_vw, live_vw, hv, keep, if_pos hN1]; cases vw xs1 z <;> rfl
    | false =>
      have h1 : liveG xs1 z = false := by
        cases hl : liveG xs1 z with
        | false => rfl
        | true => rw [(hN z).2 (.inl hl)] at hN1; cases hN1
      rw [h1, live_vw, hv, keep, if_neg (by rw [hN1]; decide)]; rfl
  have hab : ∀ z, N z = true → abG xs2 z = (abG xs1 z).filter N := fun z h => by
    rw [ab_vw, ab_vw, hv, keep, if_pos h]
    cases vw xs1 z <;> rfl
  refine ⟨hlv, hab, fun x y hxy hx hy => ?_⟩
  have nx := (hN x).2 (.inl hx)
  have ny := (hN y).2 (.inl hy)
  have ax : Asc (abG xs1 x) := by
    rw [ab_vw]
    cases hf : vw xs1 x with
    | none => exact List.Pairwise.nil
    | some p => exact hG.asc x p.1 p.2 hf
  rw [baseG_pos (by rw [hlv]; exact hx) (by rw [hlv]; exact hy), baseG_pos hx hy, hab x nx, hab y ny]
  rcases gcm_cases (l := abG xs1 x) (m := abG xs1 y) ax with ⟨h1, h2⟩ | ⟨h1, h2, h3⟩
  · rw [h1]
    exact gcm_no fun z hz hz2 => h2 z (List.mem_filter.1 hz).1 (List.mem_filter.1 hz2).1
  · have hp : 0 < gcm (abG xs1 x) (abG xs1 y) ∨ ¬ 0 < gcm (abG xs1 x) (abG xs1 y) := by omega
    have hNb : N (gcm (abG xs1 x) (abG xs1 y)) = true ∨ gcm (abG xs1 x) (abG xs1 y) ≤ 0 := by
      rcases hp with hp | hp
      · exact .inl ((hN _).2 (.inr ⟨hp, x, y, hx, hy, hxy, by rw [baseG_pos hx hy]⟩))
      · exact .inr (by omega)
    rcases hNb with hNb | hNb
    · exact gcm_is (ax.sublist List.filter_sublist) (List.mem_filter.2 ⟨h1, hNb⟩) (List.mem_filter.2 ⟨h2, hNb⟩) fun z hz hz2 => h3 z (List.mem_filter.1 hz).1 (List.mem_filter.1 hz2).1
    · exfalso
      generalize gcm (abG xs1 x) (abG xs1 y) = b at *
      rw [ab_vw] at h1
      cases hf : vw xs1 x with
      | none => rw [hf] at h1; cases h1
      | some p =>
        rw [hf] at h1
        have h5 := hpos _ (hG.pre x p.1 p.2 hf _ h1)
        omega
theorem GOk.pos {xs : List VN} {q : Nat} (h : GOk xs q) (z : Int) (hz : (vw xs z).isSome = true) : 1 ≤ z := by
  rw [← pre_vw] at hz
  obtain ⟨x, hx, e⟩ := pre_iff.1 hz
  rw [← e]; exact (h.rng x hx).1
theorem RelP.facts {xs xs2 : List VN} {q : Nat} {n : Int} (hG : GOk xs q) (h : RelP xs n xs2) : (∀ z, liveG xs2 z = (liveG xs z && decide (z ≠ n))) ∧ (∀ z, preG xs2 z = true → preG xs z = true) ∧ KO xs2 := by
  obtain ⟨xs1, N, h1, h2, h3⟩ := h
  have hG1 : GF (vw xs1) := by rw [show vw xs1 = dead (vw xs) n from funext h1]; exact hG.gf.dead n
  have hpos : ∀ z, (vw xs1 z).isSome = true → 1 ≤ z := fun z hz => by rw [h1, dead_iss] at hz; exact hG.pos z hz
  obtain ⟨k1, k2, k3⟩ := keep_base hG1 hpos h2 h3
  have hlive : ∀ z, liveG xs1 z = (liveG xs z && decide (z ≠ n)) := fun z => by
    rw [live_vw, live_vw, h1, dead]
    by_cases hz : z = n
    · rw [if_pos hz, decide_eq_false (fun h => h hz), Bool.and_false]
      cases vw xs z <;> rfl
    · rw [if_neg hz, decide_eq_true hz, Bool.and_true]
  refine ⟨fun z => by rw [k1, hlive], fun z hz => ?_, fun z hz => ?_⟩
  · rw [pre_vw, h3] at hz
    rw [pre_vw]
    unfold keep at hz
    split at hz
    · cases hf : vw xs1 z with
      | none => rw [hf] at hz; cases hz
      | some p =>
        rw [← dead_iss (vw xs) n, ← h1, hf]; rfl
    · cases hz
  · rw [pre_vw, h3] at hz
    unfold keep at hz
    split at hz
    · rename_i hN
      rcases (h2 z).1 hN with h | ⟨h, x, y, hx, hy, hxy, he⟩
      · exact .inl (by rw [k1]; exact h)
      · exact .inr ⟨h, x, y, by rw [k1]; exact hx, by rw [k1]; exact hy, hxy, by rw [k3 x y hxy hx hy]; exact he⟩
    · cases hz
theorem KO.rel {xs xs2 : List VN} {q : Nat} {n : Int} (h : KO xs) (hG : GOk xs q) (hR : RelQ xs n xs2) : KO xs2 := by
  rcases hR with ⟨_, hR⟩ | ⟨_, rfl⟩
  · exact (hR.facts hG).2.2
  · exact h
theorem AddP.facts {xs xs2 : List VN} {cap last last2 : Int} {ps : List Int} (hl : ∀ x ∈ xs, x.n ≤ last) (ha : AddP xs cap last ps xs2 last2) : (addE xs cap ps ≠ 0 ∧ xs2 = xs ∧ last2 = last) ∨ (addE xs cap ps = 0 ∧ last2 = last + 1 ∧ preG xs (last + 1) = false ∧ (∀ z, liveG xs2 z = (liveG xs z || decide (z = last + 1))) ∧ (∀ z, preG xs2 z = (preG xs z || decide (z = last + 1))) ∧ xs2.length = xs.length + 1) := by
  by_cases h0 : addE xs cap ps = 0
  · obtain ⟨h1, h2, ab, _, _, hv⟩ := ha.vw hl h0
    have hn : preG xs (last + 1) = false := by
      cases hp : preG xs (last + 1) with
      | false => rfl
      | true =>
        obtain ⟨x, hx, e⟩ := pre_iff.1 hp
        have := hl x hx; omega
    refine .inr ⟨h0, h1, hn, fun z => ?_, fun z => ?_, h2⟩
    · rw [live_vw, live_vw, hv]
      by_cases hz : z = last + 1
      · rw [if_pos hz, decide_eq_true hz, Bool.or_true]; rfl
      · rw [if_neg hz, decide_eq_false hz, Bool.or_false]
    · rw [pre_vw, pre_vw, hv]
      by_cases hz : z = last + 1
      · rw [if_pos hz, decide_eq_true hz, Bool.or_true]; rfl
      · rw [if_neg hz, decide_eq_false hz, Bool.or_false]
  · rcases ha with h | ⟨h2, _⟩
    · exact .inl h
    · exact absurd h2 h0
theorem RelQ.live {xs xs2 : List VN} {q : Nat} {n : Int} (hG : GOk xs q) (h : RelQ xs n xs2) {z : Int} (hz : liveG xs2 z = true) : liveG xs z = true ∧ z ≠ n := by
  rcases h with ⟨_, h⟩ | ⟨h, rfl⟩
  · rw [(h.facts hG).1 z] at hz
    simp only [Bool.and_eq_true, decide_eq_true_eq] at hz
    exact hz
  · exact ⟨hz, fun e => by rw [e, h] at hz; cases hz⟩
theorem RelQ.same {xs xs2 : List VN} {n : Int} (h : RelQ xs n xs2) (hl : liveG xs n = false) : xs2 = xs := by
  rcases h with ⟨h, _⟩ | ⟨_, h⟩
  · rw [hl] at h; cases h
  · exact h
theorem relE_yes {xs : List VN} {n : Int} (h : relE xs n = 0) : liveG xs n = true := by
  unfold relE at h
  split at h
  · assumption
  · omega
def Gon (xs : List VN) (la : Int) (gn : List Int) : Prop := ∀ v ∈ gn, liveG xs v = false ∧ v ≤ la
theorem Gon.rel {xs xs2 : List VN} {q : Nat} {n la : Int} {gn : List Int} (h : Gon xs la gn) (hG : GOk xs q) (hR : RelQ xs n xs2) : Gon xs2 la gn := fun v hv => by
  refine ⟨?_, (h v hv).2⟩
  cases hl : liveG xs2 v with
  | false => rfl
  | true => have := (hR.live hG hl).1; rw [(h v hv).1] at this; cases this
theorem Gon.snoc {xs xs2 : List VN} {q : Nat} {n cap la : Int} {gn : List Int} (h : Gon xs la gn) (hI : GI xs q cap la) (hR : RelQ xs n xs2) (h0 : relE xs n = 0) : Gon xs2 la (gn ++ [n]) := fun v hv => by
  rcases List.mem_append.1 hv with hv | hv
  · exact h.rel hI.ok hR v hv
  · rw [List.mem_singleton.1 hv]
    refine ⟨?_, ?_⟩
    · cases hl : liveG xs2 n with
      | false => rfl
      | true => exact absurd rfl (hR.live hI.ok hl).2
    · obtain ⟨x, hx, e⟩ := pre_iff.1 (live_pre (relE_yes h0))
      rw [← e]; exact hI.le x hx
theorem Gon.add {xs xs2 : List VN} {q : Nat} {cap la la2 : Int} {ps gn : List Int} (h : Gon xs la gn) (hI : GI xs q cap la) (hA : AddP xs cap la ps xs2 la2) : Gon xs2 la2 gn := by
  rcases hA.facts hI.le with ⟨_, rfl, rfl⟩ | ⟨_, rfl, _, h4, _⟩
  · exact h
  · intro v hv
    obtain ⟨h5, h6⟩ := h v hv
    refine ⟨?_, by omega⟩
    rw [h4, h5, decide_eq_false (by omega)]; rfl
structure Cg where
  rel : Bool
  ver : Int
  ps : List Int
  a : Option Addr
  c : Nat
def cgC (z : Cg) : List Value := [.bool z.rel, .int .i64 z.ver, .slice z.a (i64s z.ps).length z.c]
def enG (l : List Cg) : List (List Value) := l.map cgC
@[simp] theorem enG_len (l : List Cg) : (enG l).length = l.length := by simp [enG]
abbrev Ir (n : Int) : Prop := -9223372036854775808 ≤ n ∧ n ≤ 9223372036854775807
structure CgOk (z : Cg) : Prop where
  ver : Ir z.ver
  ps : ∀ x ∈ z.ps, Ir x
end Go.V
namespace Go.V
open Go Go.RowKit Go.Maps Go.Sort
structure KOk {α : Type} (f : α → Value × Value × Nat) (n : α → Int) (xs : List α) (q : Nat) : Prop where
  key : ∀ x ∈ xs, (f x).1 = .int .i64 (n x)
  uniq : xs.Pairwise fun x y => n x ≠ n y
  born : ∀ x ∈ xs, (f x).2.2 < q
  bnd : (xs.map fun x => (f x).2.2).Nodup
  rng : ∀ x ∈ xs, -9223372036854775808 ≤ n x ∧ n x ≤ 9223372036854775807
  num : xs.length ≤ 4096
section
variable {P : Program} {k : TypeId} {α : Type} {f : α → Value × Value × Nat} {n : α → Int}
theorem keys_of (xs : List α) (q : Nat) (h : KOk f n xs q) (hk : P.underlying k = some (.int .i64)) {w : World} {b : Nat} (hb : w.heap[b]? = some (.map (mE (xs.map f)) q)) :
    ∃ D : DataW Unit, w.ownsMap P k noRdI b 4096 D ∧ Maps.size D = xs.length ∧ (intKeys D).Perm (xs.map n) := by
  have hrd : ∀ x : α, x ∈ xs → Go.WideElems.rd P k noRdI ⟨(f x).1, (f x).2.1, (f x).2.2⟩ = some (.int .i64 (n x), .nil) := fun x hx => by
    have h1 := h.rng x hx
    have h2 : (Lit.int .i64 (n x)).wf = true := by
      have e1 : IntKind.i64.min = -9223372036854775808 := by decide
      have e2 : IntKind.i64.max = 9223372036854775807 := by decide
      simp only [Lit.wf, e1, e2, Bool.and_eq_true, decide_eq_true_eq]
      omega
    have h3 : keyOf P k (.int .i64 (n x)) = some (.int .i64 (n x)) := by simp [keyOf, hk, mapKey, h2]
    simp [Go.WideElems.rd, h.key x hx, h3, noRdI]
  have hF : Go.WideElems.Fit P k noRdI (mE (xs.map f)) q := by
    refine ⟨by rw [mE_size, List.length_map]; exact Nat.le_trans h.num (by decide), ⟨?_, ?_, ?_⟩, ?_⟩
    · intro x hx
      simp only [mE_toList, List.map_map, List.mem_map] at hx
      obtain ⟨y, hy, rfl⟩ := hx
      exact h.born y hy
    · rw [mE_toList, List.map_map, List.map_map]
      exact h.bnd
    · rw [mE_toList, List.map_map, List.map_map]
      refine List.pairwise_map.2 (List.Pairwise.imp_of_mem (R := fun x y => n x ≠ n y) (fun {a b} ha hb' hne he => hne ?_) h.uniq)
      simp only [Function.comp_def, h.key a ha, h.key b hb'] at he
      exact (Value.int.inj he).2
    · intro x hx
      simp only [mE_toList, List.map_map, List.mem_map] at hx
      obtain ⟨y, hy, rfl⟩ := hx
      exact ⟨_, hrd y hy⟩
  refine ⟨_, ⟨_, _, hb, hF, by rw [mE_size, List.length_map]; exact h.num, rfl⟩, ?_, ?_⟩
  · rw [Maps.size_eq, (WideShapes.sorted_perm _).length_eq]; simp
  · refine ((WideShapes.sorted_perm _).map _).trans ?_
    rw [mE_toList, List.map_map, List.map_map, List.map_map]
    refine List.Perm.of_eq (List.map_congr_left fun x hx => ?_)
    simp only [Function.comp_def, Go.WideElems.rg, hrd x hx, Option.getD_some, intOf]
theorem ki_key {xs : List α} (h : ∀ x ∈ xs, (f x).1 = .int .i64 (n x)) : ∀ x ∈ xs.map f, MapKept.IsKey (.int .i64) x.1 := fun x hx => by
  obtain ⟨y, hy, rfl⟩ := List.mem_map.1 hx
  rw [h y hy]; rfl
theorem ki_in {xs : List α} (h1 : ∀ x ∈ xs, (f x).1 = .int .i64 (n x)) (hu : xs.Pairwise fun x y => n x ≠ n y) {k : Nat} {x : α} (hx : xs[k]? = some x) : mfind (.int .i64) (.int .i64 (n x)) (xs.map f) = some (some (k, (f x).2.1)) := by
  refine mfind_some (d := .int .i64) (k := .int .i64 (n x)) (b := (f x).2.2) rfl (ki_key h1) (by rw [List.getElem?_map, hx]; show some (f x) = _; rw [← h1 x (List.mem_of_getElem? hx)]) fun j hj y hy => ?_
  rw [List.getElem?_map] at hy
  cases hz : xs[j]? with
  | none => rw [hz] at hy; cases hy
  | some u =>
    rw [hz] at hy
    simp only [Option.map_some, Option.some.injEq] at hy
    subst hy
    intro he
    rw [h1 u (List.mem_of_getElem? hz)] at he
    have he2 : n u = n x := (Value.int.inj he).2
    have hl := (List.getElem?_eq_some_iff.1 hz).1
    have hl2 := (List.getElem?_eq_some_iff.1 hx).1
    refine List.pairwise_iff_getElem.1 hu j k hl hl2 hj ?_
    rw [(List.getElem?_eq_some_iff.1 hz).2, (List.getElem?_eq_some_iff.1 hx).2, he2]
theorem ki_out {xs : List α} (h1 : ∀ x ∈ xs, (f x).1 = .int .i64 (n x)) {m : Int} (h : ∀ x ∈ xs, n x ≠ m) : mfind (.int .i64) (.int .i64 m) (xs.map f) = some none := by
  refine mfind_none (d := .int .i64) (k := .int .i64 m) rfl (ki_key h1) fun x hx => ?_
  obtain ⟨y, hy, rfl⟩ := List.mem_map.1 hx
  rw [h1 y hy]
  intro he
  exact h y hy (Value.int.inj he).2
theorem ki_cases (n : α → Int) (xs : List α) (m : Int) : (∃ (k : Nat) (x : α), xs[k]? = some x ∧ n x = m) ∨ ∀ x ∈ xs, n x ≠ m := by
  by_cases h : ∃ x ∈ xs, n x = m
  · obtain ⟨x, hx, hn⟩ := h
    obtain ⟨k, hk⟩ := List.mem_iff_getElem?.1 hx
    exact .inl ⟨k, x, hk, hn⟩
  · exact .inr fun x hx hn => h ⟨x, hx, hn⟩
theorem KOk.nil : KOk f n [] 0 := ⟨fun _ h => (by cases h), List.Pairwise.nil, fun _ h => (by cases h), List.nodup_nil, fun _ h => (by cases h), by simp⟩
theorem KOk.snoc {xs : List α} {q : Nat} (h : KOk f n xs q) {x : α} (hk : (f x).1 = .int .i64 (n x)) (hn : ∀ y ∈ xs, n y ≠ n x) (hb : (f x).2.2 = q) (hr : -9223372036854775808 ≤ n x ∧ n x ≤ 9223372036854775807) (hl : xs.length < 4096) : KOk f n (xs ++ [x]) (q + 1) := by
  refine ⟨fun y hy => ?_, ?_, fun y hy => ?_, ?_, fun y hy => ?_, by simp; omega⟩
  · rcases List.mem_append.1 hy with hy | hy
    · exact h.key y hy
    · rw [List.mem_singleton.1 hy]; exact hk
  · refine List.pairwise_append.2 ⟨h.uniq, List.pairwise_singleton _ _, fun a ha b hb' => ?_⟩
    rw [List.mem_singleton.1 hb']; exact hn a ha
  · rcases List.mem_append.1 hy with hy | hy
    · exact Nat.lt_succ_of_lt (h.born y hy)
    · rw [List.mem_singleton.1 hy, hb]; exact Nat.lt_succ_self _
  · rw [List.map_append]
    refine List.nodup_append.2 ⟨h.bnd, List.pairwise_singleton _ _, fun a ha b hb' e => ?_⟩
    rw [List.map_singleton, List.mem_singleton] at hb'
    obtain ⟨y, hy, rfl⟩ := List.mem_map.1 ha
    have := h.born y hy
    rw [e, hb', hb] at this; omega
  · rcases List.mem_append.1 hy with hy | hy
    · exact h.rng y hy
    · rw [List.mem_singleton.1 hy]; exact hr
theorem KOk.erase {xs : List α} {q : Nat} (h : KOk f n xs q) (j : Nat) : KOk f n (xs.eraseIdx j) q := by
  have hs := List.eraseIdx_sublist xs j
  exact ⟨fun y hy => h.key y (hs.subset hy), h.uniq.sublist hs, fun y hy => h.born y (hs.subset hy), h.bnd.sublist (hs.map _), fun y hy => h.rng y (hs.subset hy), Nat.le_trans hs.length_le h.num⟩
theorem erase_mem' {xs : List α} (hu : xs.Pairwise fun x y => n x ≠ n y) {j : Nat} {u : α} (hj : xs[j]? = some u) (x : α) : x ∈ xs.eraseIdx j ↔ x ∈ xs ∧ n x ≠ n u := by
  induction xs generalizing j with
  | nil => simp at hj
  | cons y ys ih =>
    obtain ⟨h1, h2⟩ := List.pairwise_cons.1 hu
    cases j with
    | zero =>
      simp only [List.getElem?_cons_zero, Option.some.injEq] at hj
      subst hj
      rw [List.eraseIdx_cons_zero, List.mem_cons]
      constructor
      · intro hx; exact ⟨.inr hx, fun e => h1 x hx e.symm⟩
      · rintro ⟨rfl | hx, hn⟩
        · exact absurd rfl hn
        · exact hx
    | succ j =>
      rw [List.getElem?_cons_succ] at hj
      rw [List.eraseIdx_cons_succ, List.mem_cons, List.mem_cons, ih h2 hj]
      constructor
      · rintro (rfl | ⟨hx, hn⟩)
        · exact ⟨.inl rfl, h1 u (List.mem_of_getElem? hj)⟩
        · exact ⟨.inr hx, hn⟩
      · rintro ⟨rfl | hx, hn⟩
        · exact .inl rfl
        · exact .inr ⟨hx, hn⟩
end
end Go.V
/-! ## Wm -/
namespace Go.V
open Go Go.RowKit Go.Maps Go.Sort
structure WE where
  k : Int
  p : Bool
  v : Int
  b : Nat
def wK (x : WE) : Value × Value × Nat := (.int .i64 x.k, .agg #[.bool x.p, .int .i64 x.v], x.b)
abbrev Wrs := List (Int × Bool × Int)
def wT (x : WE) : Int × Bool × Int := (x.k, x.p, x.v)
def wSrt (M : Wrs) : Prop := M.Pairwise fun a b => a.1 < b.1
def wget (k : Int) (M : Wrs) : Option (Bool × Int) := (M.find? fun x => decide (x.1 = k)).map (·.2)
def wput (k : Int) (y : Bool × Int) (M : Wrs) : Wrs := M.filter (fun x => decide (x.1 < k)) ++ (k, y) :: M.filter (fun x => decide (k < x.1))
theorem wput_srt {k : Int} {y : Bool × Int} {M : Wrs} (h : wSrt M) : wSrt (wput k y M) := by
  unfold wput
  refine List.pairwise_append.2 ⟨h.sublist List.filter_sublist, List.pairwise_cons.2 ⟨fun y hy => ?_, h.sublist List.filter_sublist⟩, fun x hx y hy => ?_⟩
  · exact of_decide_eq_true (List.mem_filter.1 hy).2
  · have h1 := of_decide_eq_true (List.mem_filter.1 hx).2
    rcases List.mem_cons.1 hy with rfl | hy
    · exact h1
    · have h2 := of_decide_eq_true (List.mem_filter.1 hy).2
      omega
theorem wput_mem {k : Int} {y : Bool × Int} {M : Wrs} (x : Int × Bool × Int) : x ∈ wput k y M ↔ x = (k, y) ∨ (x ∈ M ∧ x.1 ≠ k) := by
  unfold wput
  rw [List.mem_append, List.mem_cons, List.mem_filter, List.mem_filter, decide_eq_true_iff, decide_eq_true_iff]
  constructor
  · rintro (⟨h1, h2⟩ | h | ⟨h1, h2⟩)
    · exact .inr ⟨h1, by omega⟩
    · exact .inl h
    · exact .inr ⟨h1, by omega⟩
  · rintro (h | ⟨h1, h2⟩)
    · exact .inr (.inl h)
    · by_cases h3 : x.1 < k
      · exact .inl ⟨h1, h3⟩
      · exact .inr (.inr ⟨h1, by omega⟩)
theorem wSrt.nodup {M : Wrs} (h : wSrt M) : M.Nodup := h.imp fun {a b} h e => by rw [e] at h; omega
theorem wget_some {k : Int} {M : Wrs} (hs : wSrt M) {y : Bool × Int} : wget k M = some y ↔ (k, y) ∈ M := by
  unfold wget
  constructor
  · intro h
    cases hf : M.find? fun x => decide (x.1 = k) with
    | none => rw [hf] at h; cases h
    | some z =>
      rw [hf] at h
      have h1 : z.1 = k := of_decide_eq_true (List.find?_some (p := fun x : Int × Bool × Int => decide (x.1 = k)) hf)
      simp only [Option.map_some, Option.some.injEq] at h
      have h2 := List.mem_of_find?_eq_some hf
      rw [← h1, ← h]; exact h2
  · intro h
    induction M with
    | nil => cases h
    | cons x t ih =>
      obtain ⟨h1, h2⟩ := List.pairwise_cons.1 hs
      rw [List.find?_cons]
      rcases List.mem_cons.1 h with rfl | h
      · simp
      · have h3 : x.1 < k := h1 _ h
        rw [decide_eq_false (show ¬ x.1 = k by omega)]
        exact ih h2 h
theorem wget_none {k : Int} {M : Wrs} (h : ∀ x ∈ M, x.1 ≠ k) : wget k M = none := by
  unfold wget
  rw [List.find?_eq_none.2 fun x hx e => h x hx (of_decide_eq_true e)]; rfl
structure WOk (xs : List WE) (q : Nat) (M : Wrs) : Prop where
  k : KOk wK WE.k xs q
  perm : (xs.map wT).Perm M
  srt : wSrt M
theorem WOk.nil : WOk [] 0 [] := ⟨KOk.nil, List.Perm.refl _, List.Pairwise.nil⟩
section
variable {xs : List WE} {q : Nat} {M : Wrs}
theorem WOk.len (h : WOk xs q M) : xs.length = M.length := by rw [← h.perm.length_eq, List.length_map]
theorem WOk.mem (h : WOk xs q M) (x : Int × Bool × Int) : x ∈ M ↔ ∃ y ∈ xs, wT y = x := by rw [← h.perm.mem_iff, List.mem_map]
theorem WOk.get (h : WOk xs q M) {j : Nat} {x : WE} (hx : xs[j]? = some x) : wget x.k M = some (x.p, x.v) :=
  (wget_some h.srt).2 ((h.mem _).2 ⟨x, List.mem_of_getElem? hx, rfl⟩)
theorem WOk.no (h : WOk xs q M) {k : Int} (hx : ∀ x ∈ xs, x.k ≠ k) : wget k M = none :=
  wget_none fun x hm => by
    obtain ⟨y, hy, rfl⟩ := (h.mem x).1 hm
    exact hx y hy
theorem KOk.set {α : Type} {f : α → Value × Value × Nat} {n : α → Int} {l : List α} {q : Nat} (h : KOk f n l q) {j : Nat} {x y : α} (hx : l[j]? = some x) (h1 : n y = n x) (h2 : (f y).1 = (f x).1) (h3 : (f y).2.2 = (f x).2.2) : KOk f n (l.set j y) q := by
  have hj := (List.getElem?_eq_some_iff.1 hx).1
  have hxe := (List.getElem?_eq_some_iff.1 hx).2
  have hm : ∀ {β : Type} (g : α → β), g y = g x → (l.set j y).map g = l.map g := fun g hg => by
    apply List.ext_getElem?
    intro i
    rw [List.getElem?_map, List.getElem?_map, List.getElem?_set]
    split
    · rename_i hij; subst hij
      rw [hx]; simp [hg]
    · rfl
  have hxm := List.mem_of_getElem? hx
  refine ⟨fun z hz => ?_, ?_, fun z hz => ?_, ?_, fun z hz => ?_, by rw [List.length_set]; exact h.num⟩
  · rcases List.mem_or_eq_of_mem_set hz with hz | rfl
    · exact h.key z hz
    · rw [h2, h1]; exact h.key x hxm
  · have := List.pairwise_map.2 h.uniq
    rw [← hm n h1] at this
    exact List.pairwise_map.1 this
  · rcases List.mem_or_eq_of_mem_set hz with hz | rfl
    · exact h.born z hz
    · rw [h3]; exact h.born x hxm
  · rw [hm (fun x => (f x).2.2) h3]; exact h.bnd
  · rcases List.mem_or_eq_of_mem_set hz with hz | rfl
    · exact h.rng z hz
    · rw [h1]; exact h.rng x hxm
theorem WOk.ofMem {xs' : List WE} {q' : Nat} {M' : Wrs} (hk : KOk wK WE.k xs' q') (hs : wSrt M') (hm : ∀ x, (∃ y ∈ xs', wT y = x) ↔ x ∈ M') : WOk xs' q' M' := by
  refine ⟨hk, ?_, hs⟩
  have hn : (xs'.map wT).Nodup := List.pairwise_map.2 (hk.uniq.imp fun {a b} h e => h (congrArg Prod.fst e))
  exact (List.perm_ext_iff_of_nodup hn hs.nodup).2 fun x => by rw [List.mem_map]; exact hm x
theorem WOk.set (h : WOk xs q M) {j : Nat} {x : WE} (hx : xs[j]? = some x) (p : Bool) (v : Int) : WOk (xs.set j ⟨x.k, p, v, x.b⟩) q (wput x.k (p, v) M) := by
  refine WOk.ofMem (h.k.set hx rfl rfl rfl) (wput_srt h.srt) fun z => ?_
  rw [wput_mem, h.mem]
  have hj := (List.getElem?_eq_some_iff.1 hx).1
  constructor
  · rintro ⟨y, hy, rfl⟩
    obtain ⟨i, hi⟩ := List.mem_iff_getElem?.1 hy
    rw [List.getElem?_set] at hi
    split at hi
    · rw [← Option.some.inj hi]; exact .inl rfl
    · rename_i hij
      have hil := (List.getElem?_eq_some_iff.1 hi).1
      refine .inr ⟨⟨y, List.mem_of_getElem? hi, rfl⟩, fun e => ?_⟩
      have hu := List.pairwise_iff_getElem.1 h.k.uniq
      have e1 := (List.getElem?_eq_some_iff.1 hi).2
      have e2 := (List.getElem?_eq_some_iff.1 hx).2
      have he : y.k = x.k := e
      rcases Nat.lt_or_gt_of_ne hij with hlt | hgt
      · exact hu j i hj hil hlt (by rw [e1, e2]; exact he.symm)
      · exact hu i j hil hj hgt (by rw [e1, e2]; exact he)
  · rintro (rfl | ⟨⟨y, hy, rfl⟩, hn⟩)
    · exact ⟨⟨x.k, p, v, x.b⟩, List.mem_iff_getElem?.2 ⟨j, by rw [List.getElem?_set, if_pos rfl]; simp [hj]⟩, rfl⟩
    · obtain ⟨i, hi⟩ := List.mem_iff_getElem?.1 hy
      refine ⟨y, List.mem_iff_getElem?.2 ⟨i, ?_⟩, rfl⟩
      rw [List.getElem?_set, if_neg (fun e => ?_), hi]
      subst e
      rw [hx] at hi
      have := Option.some.inj hi
      subst this
      exact hn rfl
theorem WOk.snoc (h : WOk xs q M) {k : Int} (hn : ∀ x ∈ xs, x.k ≠ k) (hr : -9223372036854775808 ≤ k ∧ k ≤ 9223372036854775807) (hl : xs.length < 4096) (p : Bool) (v : Int) : WOk (xs ++ [⟨k, p, v, q⟩]) (q + 1) (wput k (p, v) M) := by
  refine WOk.ofMem (h.k.snoc rfl hn rfl hr hl) (wput_srt h.srt) fun z => ?_
  rw [wput_mem, h.mem]
  constructor
  · rintro ⟨y, hy, rfl⟩
    rcases List.mem_append.1 hy with hy | hy
    · exact .inr ⟨⟨y, hy, rfl⟩, hn y hy⟩
    · rw [List.mem_singleton.1 hy]; exact .inl rfl
  · rintro (rfl | ⟨⟨y, hy, rfl⟩, _⟩)
    · exact ⟨_, List.mem_append_right _ (List.mem_singleton.2 rfl), rfl⟩
    · exact ⟨y, List.mem_append_left _ hy, rfl⟩
theorem WOk.keys (h : WOk xs q M) : (M.map (·.1)).Perm (xs.map WE.k) ∧ (M.map (·.1)).Pairwise (· ≤ ·) := by
  refine ⟨?_, List.pairwise_map.2 (h.srt.imp fun {a b} h => by omega)⟩
  have := (h.perm.map (fun x : Int × Bool × Int => x.1)).symm
  rw [List.map_map] at this
  exact this
end
def wC (x : Int × Bool × Int) : Int × Int × Int × Int := if x.2.1 then (3, x.1, 0, x.2.2) else (2, x.1, 0, 0)
structure RdS where
  lo : Int
  hi : Int
  less : Kvs
  gr : Kvs
def rdStep (s : RdS) (x : Int × Int) : RdS :=
  if x.2 + 1 < s.lo then ⟨s.lo, s.hi, s.less ++ [x], s.gr⟩
  else if s.hi < x.1 - 1 then ⟨s.lo, s.hi, s.less, s.gr ++ [x]⟩
  else ⟨min s.lo x.1, max s.hi x.2, s.less, s.gr⟩
def rdAll (lo hi : Int) (S : Kvs) : RdS := S.foldl rdStep ⟨lo, hi, [], []⟩
def rdF (lo hi : Int) (S : Kvs) : Kvs := let r := rdAll lo hi S; r.less ++ [(r.lo, r.hi)] ++ r.gr
def i64R (z : Int) : Prop := -9223372036854775808 ≤ z ∧ z ≤ 9223372036854775807
def SpR (S : Kvs) : Prop := ∀ s ∈ S, i64R s.1 ∧ i64R s.2
theorem rdAll_snoc {lo hi : Int} {S : Kvs} {k : Nat} {e : Int × Int} (h : S[k]? = some e) : rdAll lo hi (S.take (k + 1)) = rdStep (rdAll lo hi (S.take k)) e := by
  unfold rdAll
  rw [List.take_add_one, h, List.foldl_append]; rfl
theorem rdStep_R {s : RdS} {x : Int × Int} (h : i64R s.lo ∧ i64R s.hi ∧ SpR s.less ∧ SpR s.gr) (hx : i64R x.1 ∧ i64R x.2) : i64R (rdStep s x).lo ∧ i64R (rdStep s x).hi ∧ SpR (rdStep s x).less ∧ SpR (rdStep s x).gr := by
  obtain ⟨h1, h2, h3, h4⟩ := h
  unfold rdStep
  have ha : ∀ {S : Kvs}, SpR S → SpR (S ++ [x]) := fun hS s hs => by
    rcases List.mem_append.1 hs with hs | hs
    · exact hS s hs
    · rw [List.mem_singleton.1 hs]; exact hx
  split
  · exact ⟨h1, h2, ha h3, h4⟩
  · split
    · exact ⟨h1, h2, h3, ha h4⟩
    · refine ⟨?_, ?_, h3, h4⟩
      · show i64R (min _ _); unfold i64R at *; omega
      · show i64R (max _ _); unfold i64R at *; omega
theorem rdAll_R {lo hi : Int} {S : Kvs} (hl : i64R lo ∧ i64R hi) (hS : SpR S) : ∀ k, i64R (rdAll lo hi (S.take k)).lo ∧ i64R (rdAll lo hi (S.take k)).hi ∧ SpR (rdAll lo hi (S.take k)).less ∧ SpR (rdAll lo hi (S.take k)).gr
  | 0 => ⟨hl.1, hl.2, fun _ h => (by cases h), fun _ h => (by cases h)⟩
  | k + 1 => by
    cases h : S[k]? with
    | none => rw [List.take_add_one, h]; simpa using rdAll_R hl hS k
    | some e => rw [rdAll_snoc h]; exact rdStep_R (rdAll_R hl hS k) (hS e (List.mem_of_getElem? h))
theorem rdF_R {lo hi : Int} {S : Kvs} (hl : i64R lo ∧ i64R hi) (hS : SpR S) : SpR (rdF lo hi S) := by
  have h := rdAll_R hl hS S.length
  rw [List.take_length] at h
  obtain ⟨h1, h2, h3, h4⟩ := h
  intro s hs
  rcases List.mem_append.1 hs with hs | hs
  · rcases List.mem_append.1 hs with hs | hs
    · exact h3 s hs
    · rw [List.mem_singleton.1 hs]; exact ⟨h1, h2⟩
  · exact h4 s hs
theorem rdAll_len (lo hi : Int) (S : Kvs) : ∀ k, (rdAll lo hi (S.take k)).less.length + (rdAll lo hi (S.take k)).gr.length ≤ k
  | 0 => Nat.le_refl _
  | k + 1 => by
    have ih := rdAll_len lo hi S k
    cases h : S[k]? with
    | none => rw [List.take_add_one, h]; simp only [Option.toList_none, List.append_nil]; omega
    | some e =>
      rw [rdAll_snoc h]
      unfold rdStep
      split
      · simp only [List.length_append, List.length_singleton]; omega
      · split
        · simp only [List.length_append, List.length_singleton]; omega
        · show (rdAll lo hi (S.take k)).less.length + (rdAll lo hi (S.take k)).gr.length ≤ k + 1; omega
theorem rdF_len (lo hi : Int) (S : Kvs) : (rdF lo hi S).length ≤ S.length + 1 := by
  have h := rdAll_len lo hi S S.length
  rw [List.take_length] at h
  unfold rdF
  simp only [List.length_append, List.length_singleton]; omega
end Go.V
/-! ## Ws -/
namespace Go.V
open Go
def gapP (a b : Int × Int) : Prop := a.2 + 1 < b.1
def SpG (S : Kvs) : Prop := S.Pairwise gapP ∧ ∀ s ∈ S, s.1 ≤ s.2
def inS (x : Int) (S : Kvs) : Prop := ∃ s ∈ S, s.1 ≤ x ∧ x ≤ s.2
theorem inS_nil (x : Int) : ¬ inS x [] := fun ⟨_, h, _⟩ => by cases h
theorem inS_app {x : Int} {A B : Kvs} : inS x (A ++ B) ↔ inS x A ∨ inS x B := by
  constructor
  · rintro ⟨s, hs, h⟩
    rcases List.mem_append.1 hs with hs | hs
    · exact .inl ⟨s, hs, h⟩
    · exact .inr ⟨s, hs, h⟩
  · rintro (⟨s, hs, h⟩ | ⟨s, hs, h⟩)
    · exact ⟨s, List.mem_append_left _ hs, h⟩
    · exact ⟨s, List.mem_append_right _ hs, h⟩
theorem inS_cons {x : Int} {s : Int × Int} {B : Kvs} : inS x (s :: B) ↔ (s.1 ≤ x ∧ x ≤ s.2) ∨ inS x B := by
  constructor
  · rintro ⟨y, hy, h⟩
    rcases List.mem_cons.1 hy with rfl | hy
    · exact .inl h
    · exact .inr ⟨y, hy, h⟩
  · rintro (h | ⟨y, hy, h⟩)
    · exact ⟨s, List.mem_cons_self .., h⟩
    · exact ⟨y, List.mem_cons_of_mem _ hy, h⟩
structure RdI (r : RdS) (T : Kvs) : Prop where
  less : SpG r.less
  gr : SpG r.gr
  le : r.lo ≤ r.hi
  lb : ∀ y ∈ r.less, y.2 + 1 < r.lo
  gb : ∀ y ∈ r.gr, r.hi < y.1 - 1
  lt : ∀ y ∈ r.less, ∀ e ∈ T, gapP y e
  gt : ∀ y ∈ r.gr, ∀ e ∈ T, gapP y e
  rest : SpG T
theorem SpG.snoc {S : Kvs} {e : Int × Int} (h : SpG S) (he : e.1 ≤ e.2) (hg : ∀ y ∈ S, gapP y e) : SpG (S ++ [e]) := by
  refine ⟨List.pairwise_append.2 ⟨h.1, List.pairwise_singleton _ _, fun a ha b hb => ?_⟩, fun s hs => ?_⟩
  · rw [List.mem_singleton.1 hb]; exact hg a ha
  · rcases List.mem_append.1 hs with hs | hs
    · exact h.2 s hs
    · rw [List.mem_singleton.1 hs]; exact he
def rdOut (r : RdS) : Kvs := r.less ++ [(r.lo, r.hi)] ++ r.gr
theorem RdI.out {r : RdS} (h : RdI r []) : SpG (rdOut r) := by
  refine ⟨List.pairwise_append.2 ⟨List.pairwise_append.2 ⟨h.less.1, List.pairwise_singleton _ _, fun a ha b hb => ?_⟩, h.gr.1, fun a ha b hb => ?_⟩, fun s hs => ?_⟩
  · rw [List.mem_singleton.1 hb]; exact h.lb a ha
  · have hb' := h.gb b hb
    have hl := h.le
    rcases List.mem_append.1 ha with ha | ha
    · have := h.lb a ha; unfold gapP; omega
    · rw [List.mem_singleton.1 ha]; unfold gapP; show r.hi + 1 < b.1; omega
  · rcases List.mem_append.1 hs with hs | hs
    · rcases List.mem_append.1 hs with hs | hs
      · exact h.less.2 s hs
      · rw [List.mem_singleton.1 hs]; exact h.le
    · exact h.gr.2 s hs
theorem RdI.step {r : RdS} {e : Int × Int} {T : Kvs} (h : RdI r (e :: T)) : RdI (rdStep r e) T ∧ ∀ x, inS x (rdOut (rdStep r e)) ↔ inS x (rdOut r) ∨ (e.1 ≤ x ∧ x ≤ e.2) := by
  have hee := h.rest.2 e (List.mem_cons_self ..)
  obtain ⟨hp1, hp2⟩ := List.pairwise_cons.1 h.rest.1
  have hT : SpG T := ⟨hp2, fun s hs => h.rest.2 s (List.mem_cons_of_mem _ hs)⟩
  have hle := h.le
  have hlt : ∀ y ∈ r.less, ∀ z ∈ T, gapP y z := fun y hy z hz => h.lt y hy z (List.mem_cons_of_mem _ hz)
  have hgt : ∀ y ∈ r.gr, ∀ z ∈ T, gapP y z := fun y hy z hz => h.gt y hy z (List.mem_cons_of_mem _ hz)
  unfold rdStep
  by_cases c1 : e.2 + 1 < r.lo
  · rw [if_pos c1]
    refine ⟨⟨h.less.snoc hee fun y hy => h.lt y hy e (List.mem_cons_self ..), h.gr, hle, fun y hy => ?_, h.gb, fun y hy z hz => ?_, hgt, hT⟩, fun x => ?_⟩
    · rcases List.mem_append.1 hy with hy | hy
      · exact h.lb y hy
      · rw [List.mem_singleton.1 hy]; exact c1
    · rcases List.mem_append.1 hy with hy | hy
      · exact hlt y hy z hz
      · rw [List.mem_singleton.1 hy]; exact hp1 z hz
    · simp only [rdOut, inS_app, inS_cons, inS_nil, or_false]
      constructor
      · rintro (((h1 | h1) | h1) | h1)
        · exact .inl (.inl (.inl h1))
        · exact .inr h1
        · exact .inl (.inl (.inr h1))
        · exact .inl (.inr h1)
      · rintro (((h1 | h1) | h1) | h1)
        · exact .inl (.inl (.inl h1))
        · exact .inl (.inr h1)
        · exact .inr h1
        · exact .inl (.inl (.inr h1))
  · rw [if_neg c1]
    by_cases c2 : r.hi < e.1 - 1
    · rw [if_pos c2]
      refine ⟨⟨h.less, h.gr.snoc hee fun y hy => h.gt y hy e (List.mem_cons_self ..), hle, h.lb, fun y hy => ?_, hlt, fun y hy z hz => ?_, hT⟩, fun x => ?_⟩
      · rcases List.mem_append.1 hy with hy | hy
        · exact h.gb y hy
        · rw [List.mem_singleton.1 hy]; exact c2
      · rcases List.mem_append.1 hy with hy | hy
        · exact hgt y hy z hz
        · rw [List.mem_singleton.1 hy]; exact hp1 z hz
      · simp only [rdOut, inS_app, inS_cons, inS_nil, or_false, or_assoc]
    · rw [if_neg c2]
      have hgr : r.gr = [] := by
        cases hg : r.gr with
        | nil => rfl
        | cons y t =>
          have hy : y ∈ r.gr := by rw [hg]; exact List.mem_cons_self ..
          have h1 := h.gb y hy
          have h2 : y.2 + 1 < e.1 := h.gt y hy e (List.mem_cons_self ..)
          have h3 := h.gr.2 y hy
          omega
      refine ⟨⟨h.less, h.gr, ?_, fun y hy => ?_, fun y hy => ?_, hlt, hgt, hT⟩, fun x => ?_⟩
      · show min r.lo e.1 ≤ max r.hi e.2; omega
      · have h1 := h.lb y hy
        have h2 : y.2 + 1 < e.1 := h.lt y hy e (List.mem_cons_self ..)
        show y.2 + 1 < min r.lo e.1; omega
      · have hy' : y ∈ r.gr := hy
        rw [hgr] at hy'; cases hy'
      · have e1 : (min r.lo e.1 ≤ x ∧ x ≤ max r.hi e.2) ↔ ((r.lo ≤ x ∧ x ≤ r.hi) ∨ (e.1 ≤ x ∧ x ≤ e.2)) := by omega
        simp only [rdOut, inS_app, inS_cons, inS_nil, or_false, e1]
        constructor
        · rintro ((h1 | h1 | h1) | h1)
          · exact .inl (.inl (.inl h1))
          · exact .inl (.inl (.inr h1))
          · exact .inr h1
          · exact .inl (.inr h1)
        · rintro (((h1 | h1) | h1) | h1)
          · exact .inl (.inl h1)
          · exact .inl (.inr (.inl h1))
          · exact .inr h1
          · exact .inl (.inr (.inr h1))
theorem RdI.all : ∀ (T : Kvs) {r : RdS}, RdI r T → SpG (rdOut (T.foldl rdStep r)) ∧ ∀ x, inS x (rdOut (T.foldl rdStep r)) ↔ inS x (rdOut r) ∨ inS x T
  | [], r, h => ⟨h.out, fun x => ⟨.inl, fun h => h.elim id fun h => (inS_nil x h).elim⟩⟩
  | e :: T, r, h => by
    obtain ⟨h1, h2⟩ := h.step
    obtain ⟨h3, h4⟩ := RdI.all T h1
    refine ⟨h3, fun x => ?_⟩
    rw [List.foldl_cons, h4 x, h2 x, inS_cons, or_assoc]
def rdS (lo hi : Int) (S : Kvs) : Kvs := if lo ≤ hi then rdF lo hi S else S
theorem rdS_ok {lo hi : Int} {S : Kvs} (h : SpG S) : SpG (rdS lo hi S) ∧ ∀ x, inS x (rdS lo hi S) ↔ inS x S ∨ (lo ≤ x ∧ x ≤ hi) := by
  unfold rdS
  split
  · rename_i hl
    have h0 : RdI ⟨lo, hi, [], []⟩ S := ⟨⟨List.Pairwise.nil, fun _ h => (by cases h)⟩, ⟨List.Pairwise.nil, fun _ h => (by cases h)⟩, hl, fun _ h => (by cases h), fun _ h => (by cases h), fun _ h => (by cases h), fun _ h => (by cases h), h⟩
    obtain ⟨h1, h2⟩ := h0.all S
    refine ⟨h1, fun x => ?_⟩
    have h3 := h2 x
    have h4 : inS x (rdOut ⟨lo, hi, [], []⟩) ↔ (lo ≤ x ∧ x ≤ hi) := by simp only [rdOut, inS_app, inS_cons, inS_nil, or_false, false_or]
    rw [h4] at h3
    exact h3.trans or_comm
  · rename_i hl
    refine ⟨h, fun x => ⟨.inl, fun h => h.elim id fun h => ?_⟩⟩
    omega
theorem rdS_R {lo hi : Int} {S : Kvs} (hl : i64R lo ∧ i64R hi) (hS : SpR S) : SpR (rdS lo hi S) := by
  unfold rdS; split
  · exact rdF_R hl hS
  · exact hS
theorem rdS_len (lo hi : Int) (S : Kvs) : (rdS lo hi S).length ≤ S.length + 1 := by
  unfold rdS; split
  · exact rdF_len lo hi S
  · omega
def rdL (l : Kvs) : Kvs := l.foldl (fun S x => rdS x.1 x.2 S) []
theorem rdL_snoc {l : Kvs} {k : Nat} {e : Int × Int} (h : l[k]? = some e) : rdL (l.take (k + 1)) = rdS e.1 e.2 (rdL (l.take k)) := by
  unfold rdL
  rw [List.take_add_one, h, List.foldl_append]; rfl
theorem rdL_ok : ∀ (l : Kvs) (S : Kvs), SpG S → SpG (l.foldl (fun S x => rdS x.1 x.2 S) S) ∧ ∀ x, inS x (l.foldl (fun S x => rdS x.1 x.2 S) S) ↔ inS x S ∨ inS x l
  | [], S, h => ⟨h, fun x => ⟨.inl, fun h => h.elim id fun h => (inS_nil x h).elim⟩⟩
  | e :: l, S, h => by
    obtain ⟨h1, h2⟩ := rdS_ok (lo := e.1) (hi := e.2) h
    obtain ⟨h3, h4⟩ := rdL_ok l _ h1
    refine ⟨h3, fun x => ?_⟩
    rw [List.foldl_cons, h4 x, h2 x, inS_cons, or_assoc]
theorem rdL_is (l : Kvs) : SpG (rdL l) ∧ ∀ x, inS x (rdL l) ↔ inS x l := by
  obtain ⟨h1, h2⟩ := rdL_ok l [] ⟨List.Pairwise.nil, fun _ h => by cases h⟩
  exact ⟨h1, fun x => (h2 x).trans ⟨fun h => h.elim (fun h => (inS_nil x h).elim) id, .inr⟩⟩
theorem rdL_R {l : Kvs} (h : SpR l) : ∀ k, SpR (rdL (l.take k))
  | 0 => fun _ h => by cases h
  | k + 1 => by
    cases hk : l[k]? with
    | none => rw [List.take_add_one, hk]; simpa using rdL_R h k
    | some e => rw [rdL_snoc hk]; exact rdS_R (h e (List.mem_of_getElem? hk)) (rdL_R h k)
end Go.V
/-! ## Pr -/
namespace Go.V
open Go Go.RowKit
inductive Pt where
  | sub (i : Int) (t : Tr)
  | one (k v : Int)
def ptC : Pt → List Value
  | .sub i t => [.int .u32 i, .int .i64 (t.n : Int), .int .i64 0, .int .i64 0, .bool false]
  | .one k v => [.int .u32 0, .int .i64 0, .int .i64 k, .int .i64 v, .bool true]
def pts (l : List Pt) : List (List Value) := l.map ptC
@[simp] theorem pts_len (l : List Pt) : (pts l).length = l.length := by simp [pts]
theorem pts_app (l m : List Pt) : pts (l ++ m) = pts l ++ pts m := by simp [pts]
theorem pts_take (l : List Pt) (k : Nat) : (pts l).take k = pts (l.take k) := by simp [pts]
theorem pts_ok (l : List Pt) : OkE 5 (pts l) := fun x hx => by
  obtain ⟨y, _, rfl⟩ := List.mem_map.1 hx
  cases y
  · exact ⟨rfl, fun u hu => by simp [ptC] at hu; rcases hu with rfl | rfl | rfl | rfl | rfl <;> rfl⟩
  · exact ⟨rfl, fun u hu => by simp [ptC] at hu; rcases hu with rfl | rfl | rfl | rfl | rfl <;> rfl⟩
def pI : Option Pt → Int
  | some (.sub i _) => i
  | _ => 0
def pN : Option Pt → Int
  | some (.sub _ t) => t.n
  | _ => 0
def pK : Option Pt → Int
  | some (.one k _) => k
  | _ => 0
def pV : Option Pt → Int
  | some (.one _ v) => v
  | _ => 0
def pS : Option Pt → Bool
  | some (.one _ _) => true
  | _ => false
def topP (P : List Pt) : Option Pt := P.getLast?
theorem pts_at {l : List Pt} {k : Nat} {x : Pt} (h : l[k]? = some x) : (pts l)[k]? = some [.int .u32 (pI (some x)), .int .i64 (pN (some x)), .int .i64 (pK (some x)), .int .i64 (pV (some x)), .bool (pS (some x))] := by
  cases x <;> simp [pts, h, ptC, pI, pN, pK, pV, pS]
def ptL : Pt → Kvs
  | .sub _ t => t.ls
  | .one k v => [(k, v)]
def rem (P : List Pt) : Kvs := (P.reverse.map ptL).flatten
theorem rem_snoc (P : List Pt) (x : Pt) : rem (P ++ [x]) = ptL x ++ rem P := by simp [rem]
def ptW : Pt → Nat
  | .sub _ t => 3 * t.n
  | .one _ _ => 1
def wgt (P : List Pt) : Nat := (P.map ptW).sum
theorem wgt_snoc (P : List Pt) (x : Pt) : wgt (P ++ [x]) = wgt P + ptW x := by simp [wgt]
def PtOk (A : AM) : Pt → Prop
  | .sub i t => Is A t i ∧ i ≠ 0
  | .one _ _ => True
structure PsOk (A : AM) (P : List Pt) : Prop where
  ok : ∀ x ∈ P, PtOk A x
theorem PsOk.app {A : AM} {P : List Pt} (h : PsOk A P) {x : Pt} (hx : PtOk A x) : PsOk A (P ++ [x]) := ⟨fun y hy => by
  rcases List.mem_append.1 hy with hy | hy
  · exact h.ok y hy
  · rw [List.mem_singleton.1 hy]; exact hx⟩
theorem PsOk.sub {A : AM} {P Q : List Pt} (h : PsOk A (P ++ Q)) : PsOk A P := ⟨fun y hy => h.ok y (List.mem_append_left _ hy)⟩
def pushP (P : List Pt) (i : Int) (t : Tr) : List Pt := if i = 0 then P else P ++ [.sub i t]
theorem pushP_rem {A : AM} {P : List Pt} {i : Int} {t : Tr} (h : Is A t i) : rem (pushP P i t) = t.ls ++ rem P := by
  unfold pushP
  split
  · rename_i e; rw [(Is.nil_iff h).1 e]; rfl
  · rw [rem_snoc]; rfl
theorem pushP_wgt {A : AM} {P : List Pt} {i : Int} {t : Tr} (h : Is A t i) : wgt (pushP P i t) = wgt P + 3 * t.n := by
  unfold pushP
  split
  · rename_i e; rw [(Is.nil_iff h).1 e]; rfl
  · rw [wgt_snoc]; rfl
theorem pushP_ok {A : AM} {P : List Pt} {i : Int} {t : Tr} (hP : PsOk A P) (h : Is A t i) : PsOk A (pushP P i t) := by
  unfold pushP
  split
  · exact hP
  · rename_i e; exact hP.app ⟨h, e⟩
theorem pushP_len (P : List Pt) (i : Int) (t : Tr) : (pushP P i t).length ≤ P.length + 1 := by
  unfold pushP; split <;> simp
def expP (P : List Pt) (A : AM) (i k v : Int) (l r : Tr) : List Pt := pushP (pushP P (A.nd i).rg r ++ [.one k v]) (A.nd i).lf l
theorem expP_rem {A : AM} {P : List Pt} {i k v : Int} {l r : Tr} (h : Is A (.node l k v r) i) : rem (expP P A i k v l r) = (Tr.node l k v r).ls ++ rem P := by
  unfold expP
  rw [pushP_rem h.2.2.2.2.1, rem_snoc, pushP_rem h.2.2.2.2.2]
  simp [ptL, Tr.ls]
theorem expP_wgt {A : AM} {P : List Pt} {i k v : Int} {l r : Tr} (h : Is A (.node l k v r) i) : wgt (expP P A i k v l r) + 2 = wgt P + ptW (.sub i (.node l k v r)) := by
  unfold expP
  rw [pushP_wgt h.2.2.2.2.1, wgt_snoc, pushP_wgt h.2.2.2.2.2]
  simp only [ptW, Tr.n]; omega
theorem expP_ok {A : AM} {P : List Pt} {i k v : Int} {l r : Tr} (hP : PsOk A P) (h : Is A (.node l k v r) i) : PsOk A (expP P A i k v l r) :=
  pushP_ok ((pushP_ok hP h.2.2.2.2.2).app trivial) h.2.2.2.2.1
theorem wgt_len {A : AM} : ∀ {P : List Pt}, PsOk A P → P.length ≤ wgt P
  | [], _ => by simp
  | x :: P, h => by
    have ih := wgt_len (A := A) (P := P) ⟨fun y hy => h.ok y (List.mem_cons_of_mem _ hy)⟩
    have hx := h.ok x (List.mem_cons_self ..)
    have h1 : 1 ≤ ptW x := by
      cases x with
      | one => simp [ptW]
      | sub i t =>
        have : t ≠ .nil := fun e => hx.2 ((Is.nil_iff hx.1).2 e)
        cases t with
        | nil => exact absurd rfl this
        | node => simp only [ptW, Tr.n]; omega
    simp only [wgt, List.map_cons, List.sum_cons, List.length_cons] at ih ⊢
    omega
abbrev Chg := Int × Int × Int × Int
def dif : Kvs → Kvs → List Chg
  | [], [] => []
  | [], (k, w) :: r => (1, k, 0, w) :: dif [] r
  | (k, v) :: l, [] => (2, k, v, 0) :: dif l []
  | (k, v) :: l, (k', w) :: r => if k < k' then (2, k, v, 0) :: dif l ((k', w) :: r) else if k' < k then (1, k', 0, w) :: dif ((k, v) :: l) r else if v ≠ w then (3, k, v, w) :: dif l r else dif l r
termination_by l r => l.length + r.length
theorem dif_common (l r : Kvs) : ∀ c : Kvs, dif (c ++ l) (c ++ r) = dif l r
  | [] => rfl
  | (k, v) :: c => by
    rw [List.cons_append, List.cons_append, dif, if_neg (by omega), if_neg (by omega), if_neg (by simp)]
    exact dif_common l r c
theorem dif_keys (l r : Kvs) : ∀ c ∈ dif l r, (∃ x ∈ l, x.1 = c.2.1) ∨ ∃ x ∈ r, x.1 = c.2.1 := by
  fun_induction dif l r
  case case1 => intro c hc; cases hc
  case case2 k w r ih =>
    intro c hc
    rcases List.mem_cons.1 hc with rfl | hc
    · exact .inr ⟨(k, w), by simp, rfl⟩
    · rcases ih c hc with ⟨x, hx, _⟩ | ⟨x, hx, e⟩
      · cases hx
      · exact .inr ⟨x, List.mem_cons_of_mem _ hx, e⟩
  case case3 k v l ih =>
    intro c hc
    rcases List.mem_cons.1 hc with rfl | hc
    · exact .inl ⟨(k, v), by simp, rfl⟩
    · rcases ih c hc with ⟨x, hx, e⟩ | ⟨x, hx, _⟩
      · exact .inl ⟨x, List.mem_cons_of_mem _ hx, e⟩
      · cases hx
  case case4 k v l k' w r h ih =>
    intro c hc
    rcases List.mem_cons.1 hc with rfl | hc
    · exact .inl ⟨(k, v), by simp, rfl⟩
    · rcases ih c hc with ⟨x, hx, e⟩ | h
      · exact .inl ⟨x, List.mem_cons_of_mem _ hx, e⟩
      · exact .inr h
  case case5 k v l k' w r h1 h2 ih =>
    intro c hc
    rcases List.mem_cons.1 hc with rfl | hc
    · exact .inr ⟨(k', w), by simp, rfl⟩
    · rcases ih c hc with h | ⟨x, hx, e⟩
      · exact .inl h
      · exact .inr ⟨x, List.mem_cons_of_mem _ hx, e⟩
  case case6 k v l k' w r h1 h2 h3 ih =>
    intro c hc
    rcases List.mem_cons.1 hc with rfl | hc
    · exact .inl ⟨(k, v), by simp, rfl⟩
    · rcases ih c hc with ⟨x, hx, e⟩ | ⟨x, hx, e⟩
      · exact .inl ⟨x, List.mem_cons_of_mem _ hx, e⟩
      · exact .inr ⟨x, List.mem_cons_of_mem _ hx, e⟩
  case case7 k v l k' w r h1 h2 h3 ih =>
    intro c hc
    rcases ih c hc with ⟨x, hx, e⟩ | ⟨x, hx, e⟩
    · exact .inl ⟨x, List.mem_cons_of_mem _ hx, e⟩
    · exact .inr ⟨x, List.mem_cons_of_mem _ hx, e⟩
def inR (lo hi : Int) (l : List Chg) : List Chg := l.filter fun c => decide (lo ≤ c.2.1 ∧ c.2.1 ≤ hi)
theorem inR_nil {lo hi : Int} {l r : Kvs} (h1 : ∀ x ∈ l, hi < x.1) (h2 : ∀ x ∈ r, hi < x.1) : inR lo hi (dif l r) = [] := by
  refine List.filter_eq_nil_iff.2 fun c hc => ?_
  rcases dif_keys l r c hc with ⟨x, hx, e⟩ | ⟨x, hx, e⟩
  · have := h1 x hx; simp; omega
  · have := h2 x hx; simp; omega
def pChg (k v w : Int) (il ir : Bool) : Option Chg := if il = false then some (1, k, 0, w) else if ir = false then some (2, k, v, 0) else if v ≠ w then some (3, k, v, w) else none
def oneR (lo hi : Int) (c : Option Chg) : List Chg := match c with
  | some c => if lo ≤ c.2.1 ∧ c.2.1 ≤ hi then [c] else []
  | none => []
def goOn (hi : Int) (c : Option Chg) : Bool := match c with
  | some c => decide (c.2.1 < hi)
  | none => true
theorem inR_cons (lo hi : Int) (c : Chg) (l : List Chg) : inR lo hi (c :: l) = oneR lo hi (some c) ++ inR lo hi l := by
  unfold inR oneR
  by_cases h : lo ≤ c.2.1 ∧ c.2.1 ≤ hi
  · rw [List.filter_cons_of_pos (by simpa using h)]; simp [h]
  · rw [List.filter_cons_of_neg (by simpa using h)]; simp [h]
theorem Is.fn {A : AM} : ∀ {t u : Tr} {i : Int}, Is A t i → Is A u i → t = u
  | .nil, .nil, _, _, _ => rfl
  | .nil, .node _ _ _ _, _, h, k => absurd k.1 (by rw [show _ = (0 : Int) from h]; omega)
  | .node _ _ _ _, .nil, _, h, k => absurd h.1 (by rw [show _ = (0 : Int) from k]; omega)
  | .node _ _ _ _, .node _ _ _ _, _, ⟨_, _, h3, h4, h5, h6⟩, ⟨_, _, k3, k4, k5, k6⟩ => by
    rw [Is.fn h5 k5, Is.fn h6 k6, ← h3, ← h4, ← k3, ← k4]
theorem top_split {P : List Pt} {q : Pt} (h : topP P = some q) : P = P.dropLast ++ [q] := by
  have hne : P ≠ [] := fun e => by subst e; cases h
  have h2 : P.getLast hne = q := by
    unfold topP at h
    rw [List.getLast?_eq_some_getLast hne] at h
    exact Option.some.inj h
  rw [← h2]; exact (List.dropLast_concat_getLast hne).symm
theorem top_none {P : List Pt} (h : (topP P).isSome = false) : P = [] := by
  cases ht : topP P with
  | none => exact List.getLast?_eq_none_iff.1 ht
  | some q => rw [ht] at h; cases h
theorem top_ne {P : List Pt} (h : (topP P).isSome = true) : P ≠ [] := fun e => by subst e; cases h
theorem top_sub {P : List Pt} (h : (topP P).isSome = true) (hs : pS (topP P) = false) : ∃ i t, topP P = some (.sub i t) := by
  cases ht : topP P with
  | none => rw [ht] at h; cases h
  | some q =>
    cases q with
    | sub i t => exact ⟨i, t, rfl⟩
    | one k v => rw [ht] at hs; cases hs
theorem top_one {P : List Pt} (h : (topP P).isSome = true) (hs : pS (topP P) = true) : P = P.dropLast ++ [.one (pK (topP P)) (pV (topP P))] ∧ rem P = (pK (topP P), pV (topP P)) :: rem P.dropLast ∧ wgt P = wgt P.dropLast + 1 := by
  cases ht : topP P with
  | none => rw [ht] at h; cases h
  | some q =>
    cases q with
    | sub i t => rw [ht] at hs; cases hs
    | one k v =>
      have h1 := top_split ht
      refine ⟨h1, ?_, ?_⟩
      · show rem P = (k, v) :: rem P.dropLast
        have e := congrArg rem h1
        rw [rem_snoc] at e; exact e
      · have e := congrArg wgt h1
        rw [wgt_snoc] at e; exact e
structure Pv (A : AM) (lo hi : Int) (F : List Chg) (m : Nat) (PL PR : List Pt) (out : List Chg) : Prop where
  oL : PsOk A PL
  oR : PsOk A PR
  sL : Srt (rem PL)
  sR : Srt (rem PR)
  d : out ++ inR lo hi (dif (rem PL) (rem PR)) = F
  w : out.length + wgt PL + wgt PR ≤ m
section
variable {A : AM} {lo hi : Int} {F : List Chg} {m : Nat} {PL PR : List Pt} {out : List Chg}
theorem PsOk.top {P : List Pt} {q : Pt} (h : PsOk A P) (ht : topP P = some q) : PtOk A q ∧ PsOk A P.dropLast := by
  have h1 := top_split ht
  refine ⟨h.ok q (by rw [h1]; simp), ⟨fun y hy => h.ok y ((List.dropLast_sublist _).subset hy)⟩⟩
theorem Pv.both (h : Pv A lo hi F m PL PR out) {i : Int} {t u : Tr} (hl : topP PL = some (.sub i t)) (hr : topP PR = some (.sub i u)) : Pv A lo hi F m PL.dropLast PR.dropLast out ∧ wgt PL.dropLast + wgt PR.dropLast < wgt PL + wgt PR := by
  obtain ⟨a1, a2⟩ := h.oL.top hl
  obtain ⟨b1, b2⟩ := h.oR.top hr
  have e : t = u := Is.fn a1.1 b1.1
  subst e
  have e1 := congrArg rem (top_split hl)
  have e2 := congrArg rem (top_split hr)
  have w1 := congrArg wgt (top_split hl)
  have w2 := congrArg wgt (top_split hr)
  rw [rem_snoc] at e1 e2
  rw [wgt_snoc] at w1 w2
  have h1 := h.sL
  have h2 := h.sR
  have h3 := h.d
  rw [e1] at h1 h3
  rw [e2] at h2 h3
  have hw : 1 ≤ ptW (.sub i t) := by
    have : t ≠ .nil := fun e => a1.2 ((Is.nil_iff a1.1).2 e)
    cases t with
    | nil => exact absurd rfl this
    | node => simp only [ptW, Tr.n]; omega
  refine ⟨⟨a2, b2, (Srt.app h1).2.1, (Srt.app h2).2.1, by rw [← h3, dif_common], by have := h.w; omega⟩, by omega⟩
theorem Pv.expL (h : Pv A lo hi F m PL PR out) {i : Int} {t : Tr} (hl : topP PL = some (.sub i t)) : ∃ k z tl tr, topP PL = some (.sub i (.node tl k z tr)) ∧ Is A (.node tl k z tr) i ∧ Pv A lo hi F m (expP PL.dropLast A i k z tl tr) PR out ∧ wgt (expP PL.dropLast A i k z tl tr) < wgt PL := by
  obtain ⟨a1, a2⟩ := h.oL.top hl
  have e1 := congrArg rem (top_split hl)
  have w1 := congrArg wgt (top_split hl)
  rw [rem_snoc] at e1
  rw [wgt_snoc] at w1
  cases t with
  | nil => exact absurd a1.1 a1.2
  | node tl k z tr =>
    have r1 := expP_rem (P := PL.dropLast) a1.1
    have r2 := expP_wgt (P := PL.dropLast) a1.1
    refine ⟨k, z, tl, tr, hl, a1.1, ⟨expP_ok a2 a1.1, h.oR, by rw [r1]; have := h.sL; rw [e1] at this; exact this, h.sR, by rw [r1]; have := h.d; rw [e1] at this; exact this, by have := h.w; omega⟩, by omega⟩
theorem Pv.expR (h : Pv A lo hi F m PL PR out) {i : Int} {t : Tr} (hl : topP PR = some (.sub i t)) : ∃ k z tl tr, topP PR = some (.sub i (.node tl k z tr)) ∧ Is A (.node tl k z tr) i ∧ Pv A lo hi F m PL (expP PR.dropLast A i k z tl tr) out ∧ wgt (expP PR.dropLast A i k z tl tr) < wgt PR := by
  obtain ⟨a1, a2⟩ := h.oR.top hl
  have e1 := congrArg rem (top_split hl)
  have w1 := congrArg wgt (top_split hl)
  rw [rem_snoc] at e1
  rw [wgt_snoc] at w1
  cases t with
  | nil => exact absurd a1.1 a1.2
  | node tl k z tr =>
    have r1 := expP_rem (P := PR.dropLast) a1.1
    have r2 := expP_wgt (P := PR.dropLast) a1.1
    refine ⟨k, z, tl, tr, hl, a1.1, ⟨h.oL, expP_ok a2 a1.1, h.sL, by rw [r1]; have := h.sR; rw [e1] at this; exact this, by rw [r1]; have := h.d; rw [e1] at this; exact this, by have := h.w; omega⟩, by omega⟩
theorem Pv.done (h : Pv A lo hi F m [] [] out) : out = F := by
  have := h.d
  rw [show rem [] = [] from rfl, dif] at this
  simpa [inR] using this
theorem Pv.go (h : Pv A lo hi F m PL PR out) {PL2 PR2 : List Pt} {k v w : Int} {il ir : Bool} (oL : PsOk A PL2) (oR : PsOk A PR2) (sL : Srt (rem PL2)) (sR : Srt (rem PR2))
    (hd : dif (rem PL) (rem PR) = (pChg k v w il ir).toList ++ dif (rem PL2) (rem PR2)) (hw : wgt PL2 + wgt PR2 + 1 ≤ wgt PL + wgt PR) (g1 : ∀ x ∈ rem PL2, k < x.1) (g2 : ∀ x ∈ rem PR2, k < x.1) (hk : ∀ c, pChg k v w il ir = some c → c.2.1 = k) :
    (goOn hi (pChg k v w il ir) = true → Pv A lo hi F m PL2 PR2 (out ++ oneR lo hi (pChg k v w il ir))) ∧ wgt PL2 + wgt PR2 < wgt PL + wgt PR ∧ (goOn hi (pChg k v w il ir) = false → out ++ oneR lo hi (pChg k v w il ir) = F) := by
  have h1 := h.d
  rw [hd] at h1
  have hol : (oneR lo hi (pChg k v w il ir)).length ≤ 1 := by
    unfold oneR
    split
    · split <;> simp
    · simp
  have h2 : inR lo hi ((pChg k v w il ir).toList ++ dif (rem PL2) (rem PR2)) = oneR lo hi (pChg k v w il ir) ++ inR lo hi (dif (rem PL2) (rem PR2)) := by
    cases hc : pChg k v w il ir with
    | none => rfl
    | some c => exact inR_cons lo hi c _
  rw [h2, ← List.append_assoc] at h1
  refine ⟨fun _ => ⟨oL, oR, sL, sR, h1, by have := h.w; rw [List.length_append]; omega⟩, by omega, fun hg => ?_⟩
  rw [← h1]
  cases hc : pChg k v w il ir with
  | none => rw [hc] at hg; cases hg
  | some c =>
    rw [hc] at hg
    have hck := hk c hc
    have hh : hi ≤ k := by simp [goOn] at hg; omega
    rw [inR_nil (fun x hx => by have := g1 x hx; omega) (fun x hx => by have := g2 x hx; omega), List.append_nil]
theorem pChg_key {k v w : Int} {il ir : Bool} : ∀ c, pChg k v w il ir = some c → c.2.1 = k := fun c hc => by
  unfold pChg at hc
  split at hc
  · cases hc; rfl
  · split at hc
    · cases hc; rfl
    · split at hc
      · cases hc; rfl
      · cases hc
theorem Pv.vLR (h : Pv A lo hi F m PL PR out) (l1 : (topP PL).isSome = true) (l2 : pS (topP PL) = true) (r1 : (topP PR).isSome = true) (r2 : pS (topP PR) = true) (hk : pK (topP PL) = pK (topP PR)) {k v w : Int} (e1 : k = pK (topP PR)) (e2 : v = pV (topP PL)) (e3 : w = pV (topP PR)) :
    (goOn hi (pChg k v w true true) = true → Pv A lo hi F m PL.dropLast PR.dropLast (out ++ oneR lo hi (pChg k v w true true))) ∧ wgt PL.dropLast + wgt PR.dropLast < wgt PL + wgt PR ∧ (goOn hi (pChg k v w true true) = false → out ++ oneR lo hi (pChg k v w true true) = F) := by
  obtain ⟨a1, a2, a3⟩ := top_one l1 l2
  obtain ⟨b1, b2, b3⟩ := top_one r1 r2
  have s1 := h.sL
  have s2 := h.sR
  rw [a2] at s1
  rw [b2] at s2
  obtain ⟨s3, s4⟩ := List.pairwise_cons.1 s1
  obtain ⟨s5, s6⟩ := List.pairwise_cons.1 s2
  refine h.go ⟨fun y hy => h.oL.ok y ((List.dropLast_sublist _).subset hy)⟩ ⟨fun y hy => h.oR.ok y ((List.dropLast_sublist _).subset hy)⟩ s4 s6 ?_ (by omega) (fun x hx => by rw [e1, ← hk]; exact s3 x hx) (fun x hx => by rw [e1]; exact s5 x hx) pChg_key
  have hp : pChg k v w true true = if v ≠ w then some (3, k, v, w) else none := by unfold pChg; rw [if_neg (by simp), if_neg (by simp)]
  rw [hp, a2, b2, hk, dif, if_neg (by omega), if_neg (by omega), e1, e2, e3]
  by_cases hvw : pV (topP PL) ≠ pV (topP PR)
  · rw [if_pos hvw, if_pos hvw]; rfl
  · rw [if_neg hvw, if_neg hvw]; rfl
theorem Pv.vL (h : Pv A lo hi F m PL PR out) (l1 : (topP PL).isSome = true) (l2 : pS (topP PL) = true) (hr : (topP PR).isSome = true → pS (topP PR) = true ∧ pK (topP PL) < pK (topP PR)) {k v w : Int} (e1 : k = pK (topP PL)) (e2 : v = pV (topP PL)) :
    (goOn hi (pChg k v w true false) = true → Pv A lo hi F m PL.dropLast PR (out ++ oneR lo hi (pChg k v w true false))) ∧ wgt PL.dropLast + wgt PR < wgt PL + wgt PR ∧ (goOn hi (pChg k v w true false) = false → out ++ oneR lo hi (pChg k v w true false) = F) := by
  obtain ⟨a1, a2, a3⟩ := top_one l1 l2
  have s1 := h.sL
  rw [a2] at s1
  obtain ⟨s3, s4⟩ := List.pairwise_cons.1 s1
  have hg : ∀ x ∈ rem PR, k < x.1 := fun x hx => by
    cases ht : (topP PR).isSome with
    | false => rw [top_none ht] at hx; cases hx
    | true =>
      obtain ⟨h1, h2⟩ := hr ht
      obtain ⟨_, b2, _⟩ := top_one ht h1
      have s2 := h.sR
      rw [b2] at s2 hx
      rcases List.mem_cons.1 hx with rfl | hx
      · rw [e1]; exact h2
      · have := (List.pairwise_cons.1 s2).1 x hx
        rw [e1]
        exact Int.lt_trans h2 this
  refine h.go ⟨fun y hy => h.oL.ok y ((List.dropLast_sublist _).subset hy)⟩ h.oR s4 h.sR ?_ (by omega) (fun x hx => by rw [e1]; exact s3 x hx) hg pChg_key
  rw [a2]
  have hp : pChg k v w true false = some (2, k, v, 0) := by unfold pChg; rw [if_neg (by simp), if_pos rfl]
  rw [hp, e1, e2]
  cases hq : rem PR with
  | nil => rw [dif]; rfl
  | cons x r =>
    obtain ⟨x1, x2⟩ := x
    have := hg (x1, x2) (by rw [hq]; simp)
    rw [dif, if_pos (by rw [← e1]; exact this)]; rfl
theorem Pv.vR (h : Pv A lo hi F m PL PR out) (r1 : (topP PR).isSome = true) (r2 : pS (topP PR) = true) (hl : (topP PL).isSome = true → pS (topP PL) = true ∧ pK (topP PR) < pK (topP PL)) {k v w : Int} (e1 : k = pK (topP PR)) (e3 : w = pV (topP PR)) :
    (goOn hi (pChg k v w false true) = true → Pv A lo hi F m PL PR.dropLast (out ++ oneR lo hi (pChg k v w false true))) ∧ wgt PL + wgt PR.dropLast < wgt PL + wgt PR ∧ (goOn hi (pChg k v w false true) = false → out ++ oneR lo hi (pChg k v w false true) = F) := by
  obtain ⟨b1, b2, b3⟩ := top_one r1 r2
  have s2 := h.sR
  rw [b2] at s2
  obtain ⟨s5, s6⟩ := List.pairwise_cons.1 s2
  have hg : ∀ x ∈ rem PL, k < x.1 := fun x hx => by
    cases ht : (topP PL).isSome with
    | false => rw [top_none ht] at hx; cases hx
    | true =>
      obtain ⟨h1, h2⟩ := hl ht
      obtain ⟨_, a2, _⟩ := top_one ht h1
      have s1 := h.sL
      rw [a2] at s1 hx
      rcases List.mem_cons.1 hx with rfl | hx
      · rw [e1]; exact h2
      · have := (List.pairwise_cons.1 s1).1 x hx
        rw [e1]
        exact Int.lt_trans h2 this
  refine h.go h.oL ⟨fun y hy => h.oR.ok y ((List.dropLast_sublist _).subset hy)⟩ h.sL s6 ?_ (by omega) hg (fun x hx => by rw [e1]; exact s5 x hx) pChg_key
  rw [b2]
  have hp : pChg k v w false true = some (1, k, 0, w) := by unfold pChg; rw [if_pos rfl]
  rw [hp, e1, e3]
  cases hq : rem PL with
  | nil => rw [dif]; rfl
  | cons x r =>
    obtain ⟨x1, x2⟩ := x
    have := hg (x1, x2) (by rw [hq]; simp)
    rw [dif, if_neg (by rw [e1] at this; exact Int.not_lt.2 (Int.le_of_lt this)), if_pos (by rw [← e1]; exact this)]; rfl
end
theorem b_both {a b sl sr : Bool} {p : Prop} [Decidable p] (h : (bif (bif (bif (bif a then b else false) then (!sl) else false) then (!sr) else false) then decide p else false) = true) : a = true ∧ b = true ∧ sl = false ∧ sr = false ∧ p := by
  cases a <;> cases b <;> cases sl <;> cases sr <;> simp_all
theorem b_left {a b sl sr : Bool} {p : Prop} [Decidable p] (h : (bif (bif a then (!sl) else false) then (bif (bif (!b) then true else sr) then true else decide p) else false) = true) : a = true ∧ sl = false := by
  cases a <;> cases sl <;> simp_all
theorem b_right {b sr : Bool} (h : (bif b then (!sr) else false) = true) : b = true ∧ sr = false := by
  cases b <;> cases sr <;> simp_all
theorem b_ones {a b sl sr : Bool} {p : Prop} [Decidable p] (h1 : (bif (!a) then (!b) else false) = false) (h3 : (bif (bif a then (!sl) else false) then (bif (bif (!b) then true else sr) then true else decide p) else false) = false) (h4 : (bif b then (!sr) else false) = false) : (a = true → sl = true) ∧ (b = true → sr = true) ∧ (a = false → b = true) := by
  cases a <;> cases b <;> cases sl <;> cases sr <;> simp_all
end Go.V
/-! ## Dfk -/
namespace Go.V
open Go
theorem lget_cons (z k v : Int) (l : Kvs) : lget z ((k, v) :: l) = if k = z then some v else lget z l := by
  unfold lget
  rw [List.find?_cons]
  by_cases h : k = z
  · rw [if_pos h, decide_eq_true h]; rfl
  · rw [if_neg h, decide_eq_false h]
theorem lget_low {z k v : Int} {l : Kvs} (hs : Srt ((k, v) :: l)) (h : z ≤ k) : lget z l = none := lget_none fun x hx => by
  have h9 : k < x.1 := (List.pairwise_cons.1 hs).1 x hx
  omega
theorem dif_get : ∀ (l r : Kvs), Srt l → Srt r → ∀ z, (∃ c ∈ dif l r, c.2.1 = z) ↔ lget z l ≠ lget z r
  | [], [], _, _, z => by rw [dif]; simp
  | [], (k, w) :: r, hl, hr, z => by
    have ih := dif_get [] r hl (List.pairwise_cons.1 hr).2 z
    rw [dif, lget_cons]
    by_cases h : k = z
    · rw [if_pos h]; exact ⟨fun _ e => (by cases e), fun _ => ⟨_, List.mem_cons_self .., h⟩⟩
    · rw [if_neg h, ← ih]
      constructor
      · rintro ⟨c, hc, e⟩
        rcases List.mem_cons.1 hc with rfl | hc
        · exact absurd e h
        · exact ⟨c, hc, e⟩
      · rintro ⟨c, hc, e⟩; exact ⟨c, List.mem_cons_of_mem _ hc, e⟩
  | (k, v) :: l, [], hl, hr, z => by
    have ih := dif_get l [] (List.pairwise_cons.1 hl).2 hr z
    rw [dif, lget_cons]
    by_cases h : k = z
    · rw [if_pos h]; exact ⟨fun _ e => (by cases e), fun _ => ⟨_, List.mem_cons_self .., h⟩⟩
    · rw [if_neg h, ← ih]
      constructor
      · rintro ⟨c, hc, e⟩
        rcases List.mem_cons.1 hc with rfl | hc
        · exact absurd e h
        · exact ⟨c, hc, e⟩
      · rintro ⟨c, hc, e⟩; exact ⟨c, List.mem_cons_of_mem _ hc, e⟩
  | (k, v) :: l, (k', w) :: r, hl, hr, z => by
    have h1 := (List.pairwise_cons.1 hl).2
    have h2 := (List.pairwise_cons.1 hr).2
    rw [dif]
    have hstep : ∀ {c0 : Chg} {D : List Chg}, c0.2.1 ≠ z → ((∃ c ∈ c0 :: D, c.2.1 = z) ↔ ∃ c ∈ D, c.2.1 = z) := fun {c0 D} hne => by
      constructor
      · rintro ⟨c, hc, e⟩
        rcases List.mem_cons.1 hc with rfl | hc
        · exact absurd e hne
        · exact ⟨c, hc, e⟩
      · rintro ⟨c, hc, e⟩; exact ⟨c, List.mem_cons_of_mem _ hc, e⟩
    split
    · rename_i hlt
      have ih := dif_get l ((k', w) :: r) h1 hr z
      by_cases h : k = z
      · subst h
        rw [lget_cons, if_pos rfl, lget_cons, if_neg (by omega), lget_low hr (by omega)]
        exact ⟨fun _ e => (by cases e), fun _ => ⟨_, List.mem_cons_self .., rfl⟩⟩
      · rw [hstep h, ih, lget_cons z k v l, if_neg h]
    · split
      · rename_i hlt hgt
        have ih := dif_get ((k, v) :: l) r hl h2 z
        by_cases h : k' = z
        · subst h
          rw [lget_cons k' k' w, if_pos rfl, lget_cons, if_neg (by omega), lget_low hl (by omega)]
          exact ⟨fun _ e => (by cases e), fun _ => ⟨_, List.mem_cons_self .., rfl⟩⟩
        · rw [hstep h, ih, lget_cons z k' w r, if_neg h]
      · rename_i hlt hgt
        have hk : k' = k := by omega
        subst hk
        have ih := dif_get l r h1 h2 z
        split
        · rename_i hvw
          by_cases h : k' = z
          · subst h
            rw [lget_cons, if_pos rfl, lget_cons, if_pos rfl]
            exact ⟨fun _ e => hvw (Option.some.inj e), fun _ => ⟨_, List.mem_cons_self .., rfl⟩⟩
          · rw [hstep h, ih, lget_cons z k' v, if_neg h, lget_cons z k' w, if_neg h]
        · rename_i hvw
          have hvw : v = w := Classical.not_not.1 hvw
          subst hvw
          rw [ih, lget_cons z k' v l, lget_cons z k' v r]
          by_cases h : k' = z
          · rw [if_pos h, if_pos h, lget_low hl (by omega), lget_low hr (by omega)]
            exact ⟨fun e => absurd rfl e, fun e => absurd rfl e⟩
          · rw [if_neg h, if_neg h]
  termination_by l r => l.length + r.length
theorem inR_all {l r : Kvs} (hl : Srt l) (hr : Srt r) (lo hi : Int) : inR lo hi (dif l r) = [] ↔ ∀ k, lo ≤ k → k ≤ hi → lget k l = lget k r := by
  unfold inR
  rw [List.filter_eq_nil_iff]
  constructor
  · intro h1 k h2 h3
    refine Classical.not_not.1 fun hn => ?_
    obtain ⟨c, hc, e⟩ := (dif_get l r hl hr k).2 hn
    exact h1 c hc (by simp; omega)
  · intro h1 c hc h2
    have h3 : lo ≤ c.2.1 ∧ c.2.1 ≤ hi := by simpa using h2
    exact (dif_get l r hl hr c.2.1).1 ⟨c, hc, rfl⟩ (h1 _ h3.1 h3.2)
theorem lget_lins {k v : Int} {l : Kvs} (hs : Srt l) (z : Int) : lget z (lins k v l) = if z = k then some v else lget z l := by
  have h := lins_srt (k := k) (v := v) hs
  have hm : ∀ y, (z, y) ∈ lins k v l ↔ (z = k ∧ y = v) ∨ (z ≠ k ∧ (z, y) ∈ l) := fun y => by
    unfold lins
    rw [List.mem_append, List.mem_cons, List.mem_filter, List.mem_filter, decide_eq_true_iff, decide_eq_true_iff, Prod.mk.injEq]
    constructor
    · rintro (⟨h1, h2⟩ | h | ⟨h1, h2⟩)
      · exact .inr ⟨Int.ne_of_lt h2, h1⟩
      · exact .inl h
      · exact .inr ⟨Int.ne_of_gt h2, h1⟩
    · rintro (h | ⟨h1, h2⟩)
      · exact .inr (.inl h)
      · rcases Int.lt_or_gt_of_ne h1 with h3 | h3
        · exact .inl ⟨h2, h3⟩
        · exact .inr (.inr ⟨h2, h3⟩)
  by_cases hz : z = k
  · rw [if_pos hz]; exact (lget_some h).2 ((hm v).2 (.inl ⟨hz, rfl⟩))
  · rw [if_neg hz]
    cases hc : lget z l with
    | some y => exact (lget_some h).2 ((hm y).2 (.inr ⟨hz, (lget_some hs).1 hc⟩))
    | none =>
      cases hd : lget z (lins k v l) with
      | none => rfl
      | some y =>
        rcases (hm y).1 ((lget_some h).1 hd) with h1 | h1
        · exact absurd h1.1 hz
        · rw [(lget_some hs).2 h1.2] at hc; cases hc
end Go.V
/-! ## Pm -/
namespace Go.V
open Go Go.RowKit Go.Maps Go.Sort
section
variable {α β : Type}
def pSrt (M : List (Int × β)) : Prop := M.Pairwise fun a b => a.1 < b.1
def pget (k : Int) (M : List (Int × β)) : Option β := (M.find? fun x => decide (x.1 = k)).map (·.2)
def pput (k : Int) (y : β) (M : List (Int × β)) : List (Int × β) := M.filter (fun x => decide (x.1 < k)) ++ (k, y) :: M.filter (fun x => decide (k < x.1))
def pdel (k : Int) (M : List (Int × β)) : List (Int × β) := M.filter fun x => decide (x.1 ≠ k)
theorem pput_srt {k : Int} {y : β} {M : List (Int × β)} (h : pSrt M) : pSrt (pput k y M) := by
  unfold pput
  refine List.pairwise_append.2 ⟨h.sublist List.filter_sublist, List.pairwise_cons.2 ⟨fun y hy => ?_, h.sublist List.filter_sublist⟩, fun x hx y hy => ?_⟩
  · exact of_decide_eq_true (List.mem_filter.1 hy).2
  · have h1 := of_decide_eq_true (List.mem_filter.1 hx).2
    rcases List.mem_cons.1 hy with rfl | hy
    · exact h1
    · have h2 := of_decide_eq_true (List.mem_filter.1 hy).2
      omega
theorem pdel_srt {k : Int} {M : List (Int × β)} (h : pSrt M) : pSrt (pdel k M) := h.sublist List.filter_sublist
theorem pput_mem {k : Int} {y : β} {M : List (Int × β)} (x : Int × β) : x ∈ pput k y M ↔ x = (k, y) ∨ (x ∈ M ∧ x.1 ≠ k) := by
  unfold pput
  rw [List.mem_append, List.mem_cons, List.mem_filter, List.mem_filter, decide_eq_true_iff, decide_eq_true_iff]
  constructor
  · rintro (⟨h1, h2⟩ | h | ⟨h1, h2⟩)
    · exact .inr ⟨h1, by omega⟩
    · exact .inl h
    · exact .inr ⟨h1, by omega⟩
  · rintro (h | ⟨h1, h2⟩)
    · exact .inr (.inl h)
    · by_cases h3 : x.1 < k
      · exact .inl ⟨h1, h3⟩
      · exact .inr (.inr ⟨h1, by omega⟩)
theorem pdel_mem {k : Int} {M : List (Int × β)} (x : Int × β) : x ∈ pdel k M ↔ x ∈ M ∧ x.1 ≠ k := by
  unfold pdel; rw [List.mem_filter, decide_eq_true_iff]
theorem pSrt.nodup {M : List (Int × β)} (h : pSrt M) : M.Nodup := h.imp fun {a b} h e => by rw [e] at h; omega
theorem pget_some {k : Int} {M : List (Int × β)} (hs : pSrt M) {y : β} : pget k M = some y ↔ (k, y) ∈ M := by
  unfold pget
  constructor
  · intro h
    cases hf : M.find? fun x => decide (x.1 = k) with
    | none => rw [hf] at h; cases h
    | some z =>
      rw [hf] at h
      have h1 : z.1 = k := of_decide_eq_true (List.find?_some (p := fun x : Int × β => decide (x.1 = k)) hf)
      simp only [Option.map_some, Option.some.injEq] at h
      have h2 := List.mem_of_find?_eq_some hf
      rw [← h1, ← h]; exact h2
  · intro h
    induction M with
    | nil => cases h
    | cons x t ih =>
      obtain ⟨h1, h2⟩ := List.pairwise_cons.1 hs
      rw [List.find?_cons]
      rcases List.mem_cons.1 h with rfl | h
      · simp
      · have h3 : x.1 < k := h1 _ h
        rw [decide_eq_false (show ¬ x.1 = k by omega)]
        exact ih h2 h
theorem pget_none {k : Int} {M : List (Int × β)} (h : ∀ x ∈ M, x.1 ≠ k) : pget k M = none := by
  unfold pget
  rw [List.find?_eq_none.2 fun x hx e => h x hx (of_decide_eq_true e)]; rfl
theorem pget_ext {k : Int} {M N : List (Int × β)} (hM : pSrt M) (hN : pSrt N) (h : ∀ y, (k, y) ∈ M ↔ (k, y) ∈ N) : pget k M = pget k N := by
  cases hm : pget k M with
  | some y => exact ((pget_some hN).2 ((h y).1 ((pget_some hM).1 hm))).symm
  | none =>
    cases hn : pget k N with
    | none => rfl
    | some y => rw [(pget_some hM).2 ((h y).2 ((pget_some hN).1 hn))] at hm; cases hm
theorem pget_del {k z : Int} {M : List (Int × β)} (h : pSrt M) : pget z (pdel k M) = if z = k then none else pget z M := by
  by_cases hz : z = k
  · subst hz; rw [if_pos rfl]; exact pget_none fun x hx => ((pdel_mem x).1 hx).2
  · rw [if_neg hz]
    exact pget_ext (pdel_srt h) h fun w => by
      rw [pdel_mem]
      exact ⟨fun h1 => h1.1, fun h1 => ⟨h1, hz⟩⟩
theorem pSrt.ext : ∀ {M N : List (Int × β)}, pSrt M → pSrt N → (∀ z, pget z M = pget z N) → M = N
  | [], [], _, _, _ => rfl
  | [], (k, y) :: N, _, hN, h => by
    have h1 := h k
    rw [(pget_some hN).2 (List.mem_cons_self ..)] at h1; cases h1
  | (k, y) :: M, [], hM, _, h => by
    have h1 := h k
    rw [(pget_some hM).2 (List.mem_cons_self ..)] at h1; cases h1
  | (k, y) :: M, (j, w) :: N, hM, hN, h => by
    obtain ⟨a1, a2⟩ := List.pairwise_cons.1 hM
    obtain ⟨b1, b2⟩ := List.pairwise_cons.1 hN
    have e1 : (k, y) ∈ (j, w) :: N := (pget_some hN).1 ((h k).symm.trans ((pget_some hM).2 (List.mem_cons_self ..)))
    have e2 : (j, w) ∈ (k, y) :: M := (pget_some hM).1 ((h j).trans ((pget_some hN).2 (List.mem_cons_self ..)))
    have hkj : k = j := by
      rcases List.mem_cons.1 e1 with e | e
      · exact congrArg Prod.fst e
      · rcases List.mem_cons.1 e2 with e' | e'
        · exact (congrArg Prod.fst e').symm
        · have h1 : j < k := b1 _ e
          have h2 : k < j := a1 _ e'
          omega
    subst hkj
    have hy : y = w := by
      rcases List.mem_cons.1 e1 with e | e
      · exact congrArg Prod.snd e
      · have h1 : k < k := b1 _ e
        omega
    subst hy
    rw [pSrt.ext a2 b2 fun z => ?_]
    have h1 := h z
    by_cases hz : z = k
    · subst hz
      rw [pget_none fun x hx => by have := a1 x hx; exact Int.ne_of_gt this, pget_none fun x hx => by have := b1 x hx; exact Int.ne_of_gt this]
    · have hc : ∀ L : List (Int × β), pget z ((k, y) :: L) = pget z L := fun L => by
        unfold pget; rw [List.find?_cons, decide_eq_false (fun e : k = z => hz e.symm)]
      rw [hc, hc] at h1; exact h1
structure POk (f : α → Value × Value × Nat) (n : α → Int) (g : α → β) (xs : List α) (q : Nat) (M : List (Int × β)) : Prop where
  k : KOk f n xs q
  perm : (xs.map fun x => (n x, g x)).Perm M
  srt : pSrt M
variable {f : α → Value × Value × Nat} {n : α → Int} {g : α → β} {xs : List α} {q : Nat} {M : List (Int × β)}
theorem POk.nil : POk f n g [] 0 [] := ⟨KOk.nil, List.Perm.refl _, List.Pairwise.nil⟩
theorem POk.len (h : POk f n g xs q M) : xs.length = M.length := by rw [← h.perm.length_eq, List.length_map]
theorem POk.mem (h : POk f n g xs q M) (x : Int × β) : x ∈ M ↔ ∃ y ∈ xs, (n y, g y) = x := by rw [← h.perm.mem_iff, List.mem_map]
theorem POk.get (h : POk f n g xs q M) {j : Nat} {x : α} (hx : xs[j]? = some x) : pget (n x) M = some (g x) :=
  (pget_some h.srt).2 ((h.mem _).2 ⟨x, List.mem_of_getElem? hx, rfl⟩)
theorem POk.no (h : POk f n g xs q M) {k : Int} (hx : ∀ x ∈ xs, n x ≠ k) : pget k M = none :=
  pget_none fun x hm => by
    obtain ⟨y, hy, rfl⟩ := (h.mem x).1 hm
    exact hx y hy
theorem KOk.set' {l : List α} (h : KOk f n l q) {j : Nat} {x y : α} (hx : l[j]? = some x) (h1 : n y = n x) (h2 : (f y).1 = (f x).1) (h3 : (f y).2.2 = (f x).2.2) : KOk f n (l.set j y) q := by
  have hj := (List.getElem?_eq_some_iff.1 hx).1
  have hm : ∀ {γ : Type} (g : α → γ), g y = g x → (l.set j y).map g = l.map g := fun g hg => by
    apply List.ext_getElem?
    intro i
    rw [List.getElem?_map, List.getElem?_map, List.getElem?_set]
    split
    · rename_i hij; subst hij
      rw [hx]; simp [hg]
    · rfl
  have hxm := List.mem_of_getElem? hx
  refine ⟨fun z hz => ?_, ?_, fun z hz => ?_, ?_, fun z hz => ?_, by rw [List.length_set]; exact h.num⟩
  · rcases List.mem_or_eq_of_mem_set hz with hz | rfl
    · exact h.key z hz
    · rw [h2, h1]; exact h.key x hxm
  · have := List.pairwise_map.2 h.uniq
    rw [← hm n h1] at this
    exact List.pairwise_map.1 this
  · rcases List.mem_or_eq_of_mem_set hz with hz | rfl
    · exact h.born z hz
    · rw [h3]; exact h.born x hxm
  · rw [hm (fun x => (f x).2.2) h3]; exact h.bnd
  · rcases List.mem_or_eq_of_mem_set hz with hz | rfl
    · exact h.rng z hz
    · rw [h1]; exact h.rng x hxm
theorem POk.ofMem {xs' : List α} {q' : Nat} {M' : List (Int × β)} (hk : KOk f n xs' q') (hs : pSrt M') (hm : ∀ x, (∃ y ∈ xs', (n y, g y) = x) ↔ x ∈ M') : POk f n g xs' q' M' := by
  refine ⟨hk, ?_, hs⟩
  have hn : (xs'.map fun x => (n x, g x)).Nodup := List.pairwise_map.2 (hk.uniq.imp fun {a b} h e => h (congrArg Prod.fst e))
  exact (List.perm_ext_iff_of_nodup hn hs.nodup).2 fun x => by rw [List.mem_map]; exact hm x
theorem POk.set (h : POk f n g xs q M) {j : Nat} {x y : α} (hx : xs[j]? = some x) (h1 : n y = n x) (h2 : (f y).1 = (f x).1) (h3 : (f y).2.2 = (f x).2.2) : POk f n g (xs.set j y) q (pput (n x) (g y) M) := by
  refine POk.ofMem (h.k.set' hx h1 h2 h3) (pput_srt h.srt) fun z => ?_
  rw [pput_mem, h.mem]
  have hj := (List.getElem?_eq_some_iff.1 hx).1
  constructor
  · rintro ⟨u, hu, rfl⟩
    obtain ⟨i, hi⟩ := List.mem_iff_getElem?.1 hu
    rw [List.getElem?_set] at hi
    split at hi
    · rw [← Option.some.inj hi, h1]; exact .inl rfl
    · rename_i hij
      have hil := (List.getElem?_eq_some_iff.1 hi).1
      refine .inr ⟨⟨u, List.mem_of_getElem? hi, rfl⟩, fun e => ?_⟩
      have hu := List.pairwise_iff_getElem.1 h.k.uniq
      have e1 := (List.getElem?_eq_some_iff.1 hi).2
      have e2 := (List.getElem?_eq_some_iff.1 hx).2
      have he : n u = n x := e
      rcases Nat.lt_or_gt_of_ne hij with hlt | hgt
      · exact hu j i hj hil hlt (by rw [e1, e2]; exact he.symm)
      · exact hu i j hil hj hgt (by rw [e1, e2]; exact he)
  · rintro (rfl | ⟨⟨u, hu, rfl⟩, hn⟩)
    · exact ⟨y, List.mem_iff_getElem?.2 ⟨j, by rw [List.getElem?_set, if_pos rfl]; simp [hj]⟩, by rw [h1]⟩
    · obtain ⟨i, hi⟩ := List.mem_iff_getElem?.1 hu
      refine ⟨u, List.mem_iff_getElem?.2 ⟨i, ?_⟩, rfl⟩
      rw [List.getElem?_set, if_neg (fun e => ?_), hi]
      subst e
      rw [hx] at hi
      have := Option.some.inj hi
      subst this
      exact hn rfl
theorem POk.snoc (h : POk f n g xs q M) {y : α} (hk : (f y).1 = .int .i64 (n y)) (hn : ∀ x ∈ xs, n x ≠ n y) (hb : (f y).2.2 = q) (hr : -9223372036854775808 ≤ n y ∧ n y ≤ 9223372036854775807) (hl : xs.length < 4096) : POk f n g (xs ++ [y]) (q + 1) (pput (n y) (g y) M) := by
  refine POk.ofMem (h.k.snoc hk hn hb hr hl) (pput_srt h.srt) fun z => ?_
  rw [pput_mem, h.mem]
  constructor
  · rintro ⟨u, hu, rfl⟩
    rcases List.mem_append.1 hu with hu | hu
    · exact .inr ⟨⟨u, hu, rfl⟩, hn u hu⟩
    · rw [List.mem_singleton.1 hu]; exact .inl rfl
  · rintro (rfl | ⟨⟨u, hu, rfl⟩, _⟩)
    · exact ⟨y, List.mem_append_right _ (List.mem_singleton.2 rfl), rfl⟩
    · exact ⟨u, List.mem_append_left _ hu, rfl⟩
theorem POk.erase (h : POk f n g xs q M) {j : Nat} {x : α} (hx : xs[j]? = some x) : POk f n g (xs.eraseIdx j) q (pdel (n x) M) := by
  refine POk.ofMem (h.k.erase j) (pdel_srt h.srt) fun z => ?_
  rw [pdel_mem, h.mem]
  constructor
  · rintro ⟨u, hu, rfl⟩
    obtain ⟨h1, h2⟩ := (erase_mem' h.k.uniq hx u).1 hu
    exact ⟨⟨u, h1, rfl⟩, h2⟩
  · rintro ⟨⟨u, hu, rfl⟩, hn⟩
    exact ⟨u, (erase_mem' h.k.uniq hx u).2 ⟨hu, hn⟩, rfl⟩
theorem POk.keys (h : POk f n g xs q M) : (M.map (·.1)).Perm (xs.map n) ∧ (M.map (·.1)).Pairwise (· ≤ ·) := by
  refine ⟨?_, List.pairwise_map.2 (h.srt.imp fun {a b} h => by omega)⟩
  have := (h.perm.map (fun x : Int × β => x.1)).symm
  rw [List.map_map] at this
  exact this
end
end Go.V
/-! ## Hm -/
namespace Go.V
open Go Go.RowKit
abbrev Ev := Int × Int × Int × Int × Int
def ev5 (l : List Ev) : List (List Value) := l.map fun x => [.int .i64 x.1, .int .i64 x.2.1, .int .i64 x.2.2.1, .int .i64 x.2.2.2.1, .int .i64 x.2.2.2.2]
@[simp] theorem ev5_len (l : List Ev) : (ev5 l).length = l.length := by simp [ev5]
abbrev Or := Int × Int × Int
def or3 (l : List Or) : List (List Value) := l.map fun x => [.int .i64 x.1, .int .i64 x.2.1, .int .i64 x.2.2]
@[simp] theorem or3_len (l : List Or) : (or3 l).length = l.length := by simp [or3]
structure LsE where
  es : Kvs
  a : Option Addr
  c : Nat
def enL (l : List LsE) : List (List Value) := l.map fun x => [.slice x.a (en2 x.es).length x.c]
@[simp] theorem enL_len (l : List LsE) : (enL l).length = l.length := by simp [enL]
structure ChOk (l r : Kvs) (c : Chg) : Prop where
  new : lget c.2.1 r = if c.1 = 2 then none else some c.2.2.2
  old : lget c.2.1 l = if c.1 = 1 then none else some c.2.2.1
  z1 : c.1 = 1 → c.2.2.1 = 0
  z2 : c.1 = 2 → c.2.2.2 = 0
  kd : c.1 = 1 ∨ c.1 = 2 ∨ c.1 = 3
theorem ChOk.up {l r l' r' : Kvs} {c : Chg} (h : ChOk l r c) (h1 : lget c.2.1 l' = lget c.2.1 l) (h2 : lget c.2.1 r' = lget c.2.1 r) : ChOk l' r' c :=
  ⟨by rw [h2]; exact h.new, by rw [h1]; exact h.old, h.z1, h.z2, h.kd⟩
theorem lget_ldel {k : Int} {l : Kvs} (hs : Srt l) (z : Int) : lget z (ldel k l) = if z = k then none else lget z l := pget_del (M := l) hs
end Go.V
/-! ## Wt -/
namespace Go.V
open Go
def lw1 (l : Kvs) (w : Int × Bool × Int) : Kvs := if w.2.1 then lins w.1 w.2.2 l else ldel w.1 l
def lwA (M : Wrs) (l : Kvs) : Kvs := M.foldl lw1 l
theorem lw1_srt {l : Kvs} {w : Int × Bool × Int} (h : Srt l) : Srt (lw1 l w) := by
  unfold lw1; split
  · exact lins_srt h
  · exact ldel_srt h
theorem lwA_srt : ∀ (M : Wrs) {l : Kvs}, Srt l → Srt (lwA M l)
  | [], _, h => h
  | _ :: M, _, h => lwA_srt M (lw1_srt h)
theorem lw1_get {l : Kvs} {w : Int × Bool × Int} (h : Srt l) (z : Int) : lget z (lw1 l w) = if z = w.1 then (if w.2.1 then some w.2.2 else none) else lget z l := by
  unfold lw1
  cases w.2.1 with
  | true => rw [if_pos rfl, lget_lins h]; rfl
  | false => rw [if_neg (by decide), lget_ldel h]; rfl
def wvw (z : Int) (M : Wrs) (o : Option Int) : Option Int := match wget z M with
  | some y => if y.1 then some y.2 else none
  | none => o
theorem wget_cons (z : Int) (w : Int × Bool × Int) (M : Wrs) : wget z (w :: M) = if w.1 = z then some w.2 else wget z M := by
  unfold wget
  rw [List.find?_cons]
  by_cases h : w.1 = z
  · rw [if_pos h, decide_eq_true h]; rfl
  · rw [if_neg h, decide_eq_false h]
theorem lwA_get : ∀ (M : Wrs) {l : Kvs}, Srt l → wSrt M → ∀ z, lget z (lwA M l) = wvw z M (lget z l)
  | [], _, _, _, _ => rfl
  | w :: M, l, hl, hM, z => by
    obtain ⟨h1, h2⟩ := List.pairwise_cons.1 hM
    show lget z (lwA M (lw1 l w)) = _
    rw [lwA_get M (lw1_srt hl) h2 z, lw1_get hl z]
    unfold wvw
    rw [wget_cons]
    by_cases h : w.1 = z
    · rw [if_pos h, if_pos h.symm, wget_none (M := M) (k := z) fun x hx => by have := h1 x hx; omega]
    · rw [if_neg h, if_neg fun e => h e.symm]
theorem srt_ext {a b : Kvs} (ha : Srt a) (hb : Srt b) (h : ∀ e, e ∈ a ↔ e ∈ b) : a = b := by
  have nd : ∀ {l : Kvs}, Srt l → l.Nodup := fun hl => hl.imp fun {x y} hxy e => by rw [e] at hxy; omega
  refine List.Perm.eq_of_pairwise (le := fun x y : Int × Int => x.1 < y.1 ∨ x = y) (fun x y _ _ h1 h2 => ?_) (ha.imp fun h => .inl h) (hb.imp fun h => .inl h) ((List.perm_ext_iff_of_nodup (nd ha) (nd hb)).2 h)
  rcases h1 with h1 | h1
  · rcases h2 with h2 | h2
    · omega
    · exact h2.symm
  · exact h1
def inK (lo hi : Int) (x : Int × Int) : Bool := decide (lo ≤ x.1) && decide (x.1 ≤ hi)
def btw (lo hi : Int) (l : Kvs) : Kvs := l.filter (inK lo hi)
theorem btw_mem {lo hi : Int} {l : Kvs} (e : Int × Int) : e ∈ btw lo hi l ↔ e ∈ l ∧ lo ≤ e.1 ∧ e.1 ≤ hi := by
  unfold btw inK
  rw [List.mem_filter, Bool.and_eq_true, decide_eq_true_iff, decide_eq_true_iff]
theorem btw_in {lo hi : Int} {l : Kvs} {j : Nat} {e : Int × Int} (he : l[j]? = some e) (h1 : lo ≤ e.1) (h2 : e.1 ≤ hi) : btw lo hi (l.take (j + 1)) = btw lo hi (l.take j) ++ [e] := by
  unfold btw; rw [List.take_add_one, he, List.filter_append]; simp [inK, h1, h2]
theorem btw_out {lo hi : Int} {l : Kvs} {j : Nat} {e : Int × Int} (he : l[j]? = some e) (h : ¬ (lo ≤ e.1 ∧ e.1 ≤ hi)) : btw lo hi (l.take (j + 1)) = btw lo hi (l.take j) := by
  unfold btw; rw [List.take_add_one, he, List.filter_append]
  have : inK lo hi e = false := by
    unfold inK
    by_cases h1 : lo ≤ e.1
    · rw [decide_eq_true h1, decide_eq_false fun h2 => h ⟨h1, h2⟩]; rfl
    · rw [decide_eq_false h1]; rfl
  simp [this]
theorem view_eq {M : Wrs} {l ls : Kvs} {lo hi : Int} (hl : Srt l) (hM : wSrt M) (hs : Srt ls) (hm : ∀ e, e ∈ ls ↔ (e ∈ l ∧ (lo ≤ e.1 ∧ e.1 ≤ hi) ∧ wget e.1 M = none) ∨ ((e.1, true, e.2) ∈ M ∧ lo ≤ e.1 ∧ e.1 ≤ hi)) : ls = btw lo hi (lwA M l) := by
  refine srt_ext hs ((lwA_srt M hl).sublist List.filter_sublist) fun e => ?_
  rw [hm, btw_mem]
  have h1 : e ∈ lwA M l ↔ wvw e.1 M (lget e.1 l) = some e.2 := by
    rw [← lwA_get M hl hM, lget_some (lwA_srt M hl)]
  rw [h1]
  unfold wvw
  cases hg : wget e.1 M with
  | none =>
    have hn : (e.1, true, e.2) ∉ M := fun hin => by rw [(wget_some hM).2 hin] at hg; cases hg
    simp only [lget_some hl]
    constructor
    · rintro (⟨h2, h3, _⟩ | ⟨h2, _⟩)
      · exact ⟨h2, h3⟩
      · exact absurd h2 hn
    · rintro ⟨h2, h3⟩; exact .inl ⟨h2, h3, trivial⟩
  | some y =>
    have hy := (wget_some hM).1 hg
    constructor
    · rintro (⟨_, _, h2⟩ | ⟨h2, h3⟩)
      · cases h2
      · have h4 := (wget_some hM).2 h2
        rw [hg] at h4
        rw [Option.some.inj h4]; exact ⟨rfl, h3⟩
    · rintro ⟨h2, h3⟩
      obtain ⟨p, v⟩ := y
      cases p with
      | false => cases h2
      | true =>
        simp only [if_true, Option.some.injEq] at h2
        rw [h2] at hy
        exact .inr ⟨hy, h3⟩
theorem SpG.ext : ∀ {S T : Kvs}, SpG S → SpG T → (∀ x, inS x S ↔ inS x T) → S = T
  | [], [], _, _, _ => rfl
  | [], t :: T, _, hT, h => absurd ((h t.1).2 ⟨t, by simp, Int.le_refl _, hT.2 t (by simp)⟩) (inS_nil _)
  | s :: S, [], hS, _, h => absurd ((h s.1).1 ⟨s, by simp, Int.le_refl _, hS.2 s (by simp)⟩) (inS_nil _)
  | s :: S, t :: T, hS, hT, h => by
    obtain ⟨hs1, hs2⟩ := List.pairwise_cons.1 hS.1
    obtain ⟨ht1, ht2⟩ := List.pairwise_cons.1 hT.1
    have hsl := hS.2 s (by simp)
    have htl := hT.2 t (by simp)
    have low : ∀ {u : Int × Int} {U : Kvs}, u.1 ≤ u.2 → (∀ y ∈ U, gapP u y) → ∀ x, inS x (u :: U) → u.1 ≤ x := fun hu hU x hx => by
      rcases inS_cons.1 hx with hx | ⟨y, hy, hx⟩
      · exact hx.1
      · have := hU y hy; unfold gapP at this; omega
    have e1 : s.1 = t.1 := by
      have a1 := low htl ht1 s.1 ((h _).1 ⟨s, by simp, Int.le_refl _, hsl⟩)
      have a2 := low hsl hs1 t.1 ((h _).2 ⟨t, by simp, Int.le_refl _, htl⟩)
      omega
    have top : ∀ {u v : Int × Int} {U V : Kvs}, u.1 = v.1 → u.1 ≤ u.2 → (∀ y ∈ U, gapP u y) → (∀ x, inS x (v :: V) → inS x (u :: U)) → v.2 ≤ u.2 := fun {u v U V} e hu hU hV => by
      refine Classical.byContradiction fun hlt => ?_
      rcases inS_cons.1 (hV (u.2 + 1) ⟨v, by simp, by omega, by omega⟩) with hx | ⟨y, hy, hx⟩
      · omega
      · have := hU y hy; unfold gapP at this; omega
    have e2 : s.2 = t.2 := by
      have a1 := top (V := T) e1 hsl hs1 fun x hx => (h x).2 hx
      have a2 := top (V := S) e1.symm htl ht1 fun x hx => (h x).1 hx
      omega
    have est : s = t := Prod.ext e1 e2
    have tl : ∀ {u : Int × Int} {U V : Kvs}, (∀ y ∈ U, gapP u y) → u.1 ≤ u.2 → (∀ y ∈ U, y.1 ≤ y.2) → (∀ x, inS x (u :: U) → inS x (u :: V)) → ∀ x, inS x U → inS x V := fun {u U V} hU hu hUl hV x hx => by
      obtain ⟨y, hy, hxy⟩ := hx
      rcases inS_cons.1 (hV x (inS_cons.2 (.inr ⟨y, hy, hxy⟩))) with h1 | h1
      · have := hU y hy; unfold gapP at this; omega
      · exact h1
    subst est
    rw [SpG.ext ⟨hs2, fun y hy => hS.2 y (by simp [hy])⟩ ⟨ht2, fun y hy => hT.2 y (by simp [hy])⟩ fun x => ⟨tl hs1 hsl (fun y hy => hS.2 y (by simp [hy])) (fun x hx => (h x).1 hx) x, tl ht1 htl (fun y hy => hT.2 y (by simp [hy])) (fun x hx => (h x).2 hx) x⟩]
theorem inS_low {R : Kvs} {b : Int} (hb : ∀ s ∈ R, b ≤ s.1) : ∀ (n : Nat) (x : Int), (x - b).toNat ≤ n → inS x R → ∃ lo, lo ≤ x ∧ (∀ y, lo ≤ y → y ≤ x → inS y R) ∧ ¬ inS (lo - 1) R
  | 0, x, hn, hx => by
    obtain ⟨s, hs, h1, h2⟩ := hx
    have hbs := hb s hs
    refine ⟨x, Int.le_refl _, fun y h3 h4 => ?_, fun ⟨s', hs', h3, h4⟩ => ?_⟩
    · rw [show y = x by omega]; exact ⟨s, hs, h1, h2⟩
    · have := hb s' hs'; omega
  | n + 1, x, hn, hx => by
    by_cases hp : inS (x - 1) R
    · obtain ⟨lo, h1, h2, h3⟩ := inS_low hb n (x - 1) (by omega) hp
      refine ⟨lo, by omega, fun y h4 h5 => ?_, h3⟩
      by_cases e : y = x
      · rw [e]; exact hx
      · exact h2 y h4 (by omega)
    · refine ⟨x, Int.le_refl _, fun y h3 h4 => ?_, hp⟩
      rw [show y = x by omega]; exact hx
structure SpI (R : Kvs) (st : List Int) (out : Kvs) : Prop where
  mem : ∀ s ∈ out, s.1 ∈ st ∧ s.1 ≤ s.2 ∧ (∀ x, s.1 ≤ x → x ≤ s.2 → inS x R) ∧ ¬ inS (s.2 + 1) R ∧ ¬ inS (s.1 - 1) R
  asc : out.Pairwise fun a b => a.1 < b.1
  all : ∀ lo ∈ st, ¬ inS (lo - 1) R → ∃ s ∈ out, s.1 = lo
theorem SpI.nil (R : Kvs) : SpI R [] [] := ⟨fun _ h => (by cases h), List.Pairwise.nil, fun _ h => (by cases h)⟩
theorem SpI.skip {R : Kvs} {st : List Int} {out : Kvs} {lo : Int} (h : SpI R st out) (hc : inS (lo - 1) R) : SpI R (st ++ [lo]) out :=
  ⟨fun s hs => by obtain ⟨h1, h2⟩ := h.mem s hs; exact ⟨List.mem_append_left _ h1, h2⟩, h.asc, fun x hx hn => by
    rcases List.mem_append.1 hx with hx | hx
    · exact h.all x hx hn
    · rw [List.mem_singleton.1 hx] at hn; exact absurd hc hn⟩
theorem SpI.put {R : Kvs} {st : List Int} {out : Kvs} {lo hi : Int} (h : SpI R st out) (ha : ∀ z ∈ st, z < lo) (hl : lo ≤ hi) (hc : ∀ x, lo ≤ x → x ≤ hi → inS x R) (h1 : ¬ inS (hi + 1) R) (h2 : ¬ inS (lo - 1) R) : SpI R (st ++ [lo]) (out ++ [(lo, hi)]) := by
  refine ⟨fun s hs => ?_, List.pairwise_append.2 ⟨h.asc, List.pairwise_singleton .., fun a ha' b hb => ?_⟩, fun x hx hn => ?_⟩
  · rcases List.mem_append.1 hs with hs | hs
    · obtain ⟨h3, h4⟩ := h.mem s hs; exact ⟨List.mem_append_left _ h3, h4⟩
    · rw [List.mem_singleton.1 hs]; exact ⟨by simp, hl, hc, h1, h2⟩
  · rw [List.mem_singleton.1 hb]; exact ha _ (h.mem a ha').1
  · rcases List.mem_append.1 hx with hx | hx
    · obtain ⟨s, hs, e⟩ := h.all x hx hn; exact ⟨s, List.mem_append_left _ hs, e⟩
    · exact ⟨(lo, hi), by simp, (List.mem_singleton.1 hx).symm⟩
theorem SpI.spans {R : Kvs} {st : List Int} {out : Kvs} {b : Int} (h : SpI R st out) (hb : ∀ s ∈ R, b ≤ s.1) (hst : ∀ s ∈ R, s.1 ∈ st) : SpG out ∧ ∀ x, inS x out ↔ inS x R := by
  refine ⟨⟨?_, fun s hs => (h.mem s hs).2.1⟩, fun x => ⟨fun ⟨s, hs, h1, h2⟩ => (h.mem s hs).2.2.1 x h1 h2, fun hx => ?_⟩⟩
  · have h0 := List.pairwise_iff_getElem.1 h.asc
    refine List.pairwise_iff_getElem.2 fun i j hi hj hij => ?_
    have hab := h0 i j hi hj hij
    obtain ⟨_, a2, a3, a4, _⟩ := h.mem _ (List.getElem_mem hi)
    obtain ⟨_, b2, b3, _, b5⟩ := h.mem _ (List.getElem_mem hj)
    generalize out[i] = u at *
    generalize out[j] = v at *
    unfold gapP
    refine Classical.byContradiction fun hn => ?_
    by_cases hle : v.1 ≤ u.2
    · exact b5 (a3 (v.1 - 1) (by omega) (by omega))
    · have e : v.1 = u.2 + 1 := by omega
      exact a4 (e ▸ b3 v.1 (Int.le_refl _) b2)
  · obtain ⟨lo, h1, h2, h3⟩ := inS_low hb (x - b).toNat x (Nat.le_refl _) hx
    obtain ⟨s, hs, s1, s2⟩ := h2 lo (Int.le_refl _) h1
    have e : s.1 = lo := Classical.byContradiction fun hne => h3 ⟨s, hs, by omega, by omega⟩
    obtain ⟨u, hu, e2⟩ := h.all lo (e ▸ hst s hs) h3
    refine ⟨u, hu, by omega, ?_⟩
    have h4 := (h.mem u hu).2.2.2.1
    exact Classical.byContradiction fun hn => h4 (h2 (u.2 + 1) (by have := (h.mem u hu).2.1; omega) (by omega))
theorem SpI.eq {R : Kvs} {st : List Int} {out : Kvs} {b : Int} (h : SpI R st out) (hb : ∀ s ∈ R, b ≤ s.1) (hst : ∀ s ∈ R, s.1 ∈ st) : out = rdL R := by
  obtain ⟨h1, h2⟩ := h.spans hb hst
  obtain ⟨h3, h4⟩ := rdL_is R
  exact h1.ext h3 fun x => by rw [h2, h4]
def fur (R : Kvs) (hi : Int) : Nat := R.countP fun s => decide (hi < s.2)
theorem fur_lt {R : Kvs} {hi : Int} {s : Int × Int} (hs : s ∈ R) (h : hi < s.2) : fur R s.2 < fur R hi := by
  unfold fur
  induction R with
  | nil => cases hs
  | cons x R ih =>
    have hm : R.countP (fun y => decide (s.2 < y.2)) ≤ R.countP (fun y => decide (hi < y.2)) := List.countP_mono_left fun y _ hy => decide_eq_true (by have := of_decide_eq_true hy; omega)
    rw [List.countP_cons, List.countP_cons]
    rcases List.mem_cons.1 hs with rfl | hs
    · rw [if_neg (by simp), if_pos (by simpa using h)]; omega
    · have := ih hs
      by_cases h1 : s.2 < x.2
      · rw [if_pos (by simpa using h1), if_pos (by simp; omega)]; omega
      · rw [if_neg (by simpa using h1)]; omega
end Go.V
/-! ## Wu -/
namespace Go.V
open Go Go.RowKit
abbrev W3 := Int × Int × Bool
def w3s (l : List W3) : List (List Value) := l.map fun x => [.int .i64 x.1, .int .i64 x.2.1, .bool x.2.2]
@[simp] theorem w3s_len (l : List W3) : (w3s l).length = l.length := by simp [w3s]
def ins3 (w : W3) (l : List W3) : List W3 := l.filter (fun x => decide (x.1 < w.1)) ++ w :: l.filter (fun x => decide (w.1 < x.1))
def Srt3 (l : List W3) : Prop := l.Pairwise fun a b => a.1 < b.1
def part3 (w : W3) (l : List W3) (put : Bool) : List W3 := l.filter (fun x => decide (x.1 < w.1)) ++ (if put then w :: l.filter (fun x => decide (w.1 < x.1)) else [])
structure L3 (w : W3) (l : List W3) (j : Nat) (put : Bool) (out : List W3) : Prop where
  eq : out = part3 w (l.take j) put
  no : put = false → ∀ x ∈ l.take j, x.1 < w.1
  yes : put = true → ∃ x ∈ l.take j, w.1 ≤ x.1
theorem fil_no {p : W3 → Bool} {l : List W3} (h : ∀ x ∈ l, p x = false) : l.filter p = [] := List.filter_eq_nil_iff.2 fun x hx => by rw [h x hx]; decide
theorem take3 {l : List W3} {j : Nat} {e : W3} (h : l[j]? = some e) : l.take (j + 1) = l.take j ++ [e] := by rw [List.take_add_one, h]; rfl
section
variable {w : W3} {l out : List W3} {j : Nat} {e : W3}
theorem L3.zero (w : W3) (l : List W3) : L3 w l 0 false [] := ⟨by simp [part3], fun _ x hx => by simp at hx, fun h => by cases h⟩
theorem L3.less (h : L3 w l j false out) (he : l[j]? = some e) (hlt : e.1 < w.1) : L3 w l (j + 1) false (out ++ [e]) := by
  refine ⟨?_, fun _ x hx => ?_, fun h => by cases h⟩
  · rw [h.eq, take3 he]; simp [part3, List.filter_append, hlt]
  · rw [take3 he] at hx
    rcases List.mem_append.1 hx with hx | hx
    · exact h.no rfl x hx
    · rw [List.mem_singleton.1 hx]; exact hlt
theorem L3.eq_ (h : L3 w l j false out) (he : l[j]? = some e) (hk : e.1 = w.1) : L3 w l (j + 1) true (out ++ [w]) := by
  refine ⟨?_, fun h => (by cases h), fun _ => ⟨e, by rw [take3 he]; simp, by omega⟩⟩
  rw [h.eq, take3 he]
  have h1 : (l.take j).filter (fun x => decide (w.1 < x.1)) = [] := fil_no fun x hx => decide_eq_false (by have := h.no rfl x hx; omega)
  simp [part3, List.filter_append, hk, h1]
theorem L3.more (h : L3 w l j false out) (he : l[j]? = some e) (hk : w.1 < e.1) : L3 w l (j + 1) true (out ++ [w] ++ [e]) := by
  refine ⟨?_, fun h => (by cases h), fun _ => ⟨e, by rw [take3 he]; simp, by omega⟩⟩
  rw [h.eq, take3 he]
  have h1 : (l.take j).filter (fun x => decide (w.1 < x.1)) = [] := fil_no fun x hx => decide_eq_false (by have := h.no rfl x hx; omega)
  simp [part3, List.filter_append, hk, h1, show ¬ e.1 < w.1 by omega]
theorem L3.gt (h : L3 w l j true out) (hs : Srt3 l) (he : l[j]? = some e) : w.1 < e.1 := by
  obtain ⟨x, hx, hxk⟩ := h.yes rfl
  obtain ⟨i, hi⟩ := List.mem_iff_getElem?.1 hx
  have hij : i < j := by
    have := (List.getElem?_eq_some_iff.1 hi).1
    rw [List.length_take] at this; omega
  rw [List.getElem?_take, if_pos hij] at hi
  have h1 := (List.getElem?_eq_some_iff.1 hi).1
  have h2 := (List.getElem?_eq_some_iff.1 he).1
  have := List.pairwise_iff_getElem.1 hs i j h1 h2 hij
  rw [(List.getElem?_eq_some_iff.1 hi).2, (List.getElem?_eq_some_iff.1 he).2] at this
  omega
theorem L3.rest (h : L3 w l j true out) (hs : Srt3 l) (he : l[j]? = some e) : L3 w l (j + 1) true (out ++ [e]) := by
  have hgt := h.gt hs he
  refine ⟨?_, fun h => (by cases h), fun _ => ?_⟩
  · rw [h.eq, take3 he]; simp [part3, List.filter_append, hgt, show ¬ e.1 < w.1 by omega]
  · obtain ⟨x, hx, hxk⟩ := h.yes rfl
    exact ⟨x, by rw [take3 he]; exact List.mem_append_left _ hx, hxk⟩
theorem L3.end_t (h : L3 w l j true out) (hj : l.length ≤ j) : out = ins3 w l := by
  rw [h.eq, List.take_of_length_le hj]; rfl
theorem L3.end_f (h : L3 w l j false out) (hj : l.length ≤ j) : out ++ [w] = ins3 w l := by
  have h1 := h.no rfl
  rw [h.eq]
  rw [List.take_of_length_le hj] at h1 ⊢
  have h2 : l.filter (fun x => decide (w.1 < x.1)) = [] := fil_no fun x hx => decide_eq_false (by have := h1 x hx; omega)
  simp [part3, ins3, h2]
theorem L3.len {put : Bool} (h : L3 w l j put out) : out.length ≤ 2 * l.length + 1 := by
  rw [h.eq]
  unfold part3
  have h1 := List.length_filter_le (fun x : W3 => decide (x.1 < w.1)) (l.take j)
  have h2 := List.length_filter_le (fun x : W3 => decide (w.1 < x.1)) (l.take j)
  have h3 : (l.take j).length ≤ l.length := by simp; omega
  rw [List.length_append]
  split <;> simp only [List.length_cons, List.length_nil] <;> omega
end
structure RT where
  l : Kvs
  M : Wrs
  R : Kvs
  sa : Option Addr
  wa : Option Addr
  ra : Option Addr
  sc : Nat
  wc : Nat
  rc : Nat
end Go.V
/-! ## Y1 -/
namespace Go.Proofs.YtbeacjcmdijdmaaGreat
open Go Go.V Go.RowKit
theorem lw1_len (l : Kvs) (w : Int × Bool × Int) : (lw1 l w).length ≤ l.length + 1 := by
  unfold lw1
  split
  · unfold lins
    have h1 := List.length_filter_le (fun x : Int × Int => decide (x.1 < w.1)) l
    have h2 : (l.filter fun x => decide (x.1 < w.1)).length + (l.filter fun x => decide (w.1 < x.1)).length ≤ l.length := by
      induction l with
      | nil => simp
      | cons x l ih =>
        have ih := ih (List.length_filter_le _ _)
        rw [List.filter_cons, List.filter_cons]
        split <;> split <;> simp_all <;> omega
    simp only [List.length_append, List.length_cons]; omega
  · have := List.length_filter_le (fun x : Int × Int => decide (x.1 ≠ w.1)) l
    unfold ldel; omega
theorem lwA_len : ∀ (M : Wrs) (l : Kvs), (lwA M l).length ≤ l.length + M.length
  | [], l => Nat.le_refl _
  | w :: M, l => by
    have h1 := lwA_len M (lw1 l w)
    have h2 := lw1_len l w
    show (lwA M (lw1 l w)).length ≤ _
    simp only [List.length_cons]; omega
def fw (k : Int) (M : Wrs) (R : Kvs) : Kvs := if (wget k M).isSome = true then R else R ++ [(k, k)]
set_option maxRecDepth 8192 in
theorem ref_btw {g w : World} {L : List HP} (l : Kvs) (u : Option Addr) (d : Nat) (lo hi : Int) (hl : l.length ≤ 1000000) (hS : St g (Sh 121 2 (en2 l) u d :: L) w) :
    Sp Tryz.prog 108 [.slice u (List.length (en2 l)) d, .int .i64 lo, .int .i64 hi] w (fun v w' => ∃ (a2 : Option Addr) (c2 : Nat), v = .slice a2 (List.length (en2 (btw lo hi l))) c2 ∧ St g (Own 121 2 (en2 (btw lo hi l)) a2 c2 :: Sh 121 2 (en2 l) u d :: L) w') := by
  refine Sp.enter Tryz.func108 rfl (by kernel_rfl) (by kernel_rfl) ?_
  have _ := hl
  refine WC.seq <| WC.region <| WL.r 1 rfl <| WL.nil <| WC.seq <| WC.region ?_
  have hll := en2_len l
  refine WL.r 1 rfl <| WL.nil <| WC.seq <| WC.seq <| WC.region <| WL.r 1 rfl <| WL.nil <| WC.block ?_
  replace hS := hS.nil_ 121 2
  refine WC.loop [0, 1, 2, 6, 7, 8] (fun kM vs w => ∃ (j : Nat) (acc : Kvs) (ua : Option Addr) (uc : Nat), vs = [.slice u (List.length (en2 l)) d, .int .i64 lo, .int .i64 hi, .slice none 0 0, .slice ua (List.length (en2 acc)) uc, .int .i64 (j : Int)] ∧ St g (Own 121 2 (en2 acc) ua uc :: Sh 121 2 (en2 l) u d :: L) w ∧ (j ≤ l.length) ∧ (acc = btw lo hi (l.take j)) ∧ (l.length - j) = kM) ((List.length l) - 0) ⟨0, [], none, 0, rfl, hS, (Nat.zero_le _), (rfl), rfl⟩ ?_
  clear hS; rintro _ _ w j ⟨j, acc, ua, uc, rfl, hS, hj, ha, rfl⟩
  refine WC.seq <| WC.seq <| WC.region <| WL.r 4 rfl <| WL.nil <| WC.ifP rfl (fun cd1 => ?_) (fun cd1 => ?_)
  · refine WC.skip ?_
    as_aux_lemma =>
    refine WC.seq <| WC.block <| WC.seq <| WC.region <| WL.r 3 rfl ?_
    obtain ⟨e, he⟩ : ∃ e, l[j]? = some e := ⟨_, List.getElem?_eq_getElem (by omega)⟩; have hbl := List.length_filter_le (inK lo hi) (l.take j); have htl := List.length_take_le j l; have hal : acc.length ≤ l.length := (by rw [ha]; unfold btw; omega); have hae := en2_len acc
    refine WL.ix rfl rfl (i := (j : Int)) (j) el_49 rfl rfl (by omega) (by omega) (hS.rdS 1 rfl (en2_at he)).1 ?_
    refine WL.run 4 [.int .i64 e.1] rfl (by exact (hS.rdS 1 rfl (en2_at he)).2 0 _ rfl) ?_
    by_cases cg1 : lo ≤ e.1
    · refine WL.reb 22 (.bool true) (congrArg Value.bool (decide_eq_true cg1)) <| WL.ung rfl rfl rfl <| WL.r 1 rfl <| WL.ung rfl rfl rfl <| WL.r 1 rfl <| WL.ung rfl rfl rfl <| WL.ix rfl rfl (i := (j : Int)) (j) el_49 rfl rfl (by omega) (by omega) (hS.rdS 1 rfl (en2_at he)).1 ?_
      refine WL.ung rfl rfl rfl <| WL.r 1 rfl <| WL.ung rfl rfl rfl <| WL.run 1 [.int .i64 e.1] rfl (by exact (hS.rdS 1 rfl (en2_at he)).2 0 _ rfl) ?_
      refine WL.ung rfl rfl rfl <| WL.r 1 rfl <| WL.ung rfl rfl rfl <| WL.r 2 rfl <| WL.nil ?_
      as_aux_lemma =>
      refine WC.ifP rfl (fun cd2 => ?_) (fun cd2 => ?_)
      · refine WC.region <| WL.r 3 rfl <| WL.ix rfl rfl (i := (j : Int)) (j) el_49 rfl rfl (by omega) (by omega) (hS.rdS 1 rfl (en2_at he)).1 ?_
        refine WL.ldC rfl rfl [.int .i64 e.1, .int .i64 e.2] ag_121 rfl (hS.rdS 1 rfl (en2_at he)).2 <| WL.lit rfl rfl (en2 [(e.1, e.2)]) el_49 hS (by exact ⟨rfl, rfl⟩) (en2_ok _) rfl (Nat.le_of_ble_eq_true rfl) (fun b1 w hS => ?_)
        refine WL.app rfl rfl 1 (en2 (acc ++ [(e.1, e.2)])) el_49 hS rfl (hS.srcO 0 rfl) (en2_app _ _).symm (Rm.of (by first | omega | (simp <;> omega)) (by decide)) rfl rfl (fun a1 c1 w hS => ?_)
        replace hS := hS.n3 L (a0 := Own 121 2 (en2 [(e.1, e.2)]) (some ⟨b1, 0, none⟩) (List.length (en2 [(e.1, e.2)]))) (a1 := Own 121 2 (en2 (acc ++ [(e.1, e.2)])) a1 c1) rfl
        refine WL.r 1 rfl <| WL.nil <| WC.region <| WL.r 2 rfl <| WL.nw 14 rfl (w64 (by omega)) ?_
        refine WL.r 1 rfl <| WL.nil ?_
        exact ⟨_, by omega, j + 1, acc ++ [(e.1, e.2)], _, _, rfl, (hS.sel 1 [] rfl), (by omega), (by rw [ha]; exact (btw_in he (by omega) (by omega)).symm), rfl⟩
      · refine WC.skip <| WC.region <| WL.r 2 rfl <| WL.nw 14 rfl (w64 (by omega)) ?_
        refine WL.r 1 rfl <| WL.nil ?_
        exact ⟨_, by omega, j + 1, acc, ua, uc, rfl, hS, (by omega), (by rw [ha]; exact (btw_out he (by omega)).symm), rfl⟩
    · refine WL.reb 22 (.bool false) (congrArg Value.bool (decide_eq_false cg1)) <| WL.skp rfl rfl rfl rfl <| WL.skp rfl rfl rfl rfl <| WL.skp rfl rfl rfl rfl <| WL.skp rfl rfl rfl rfl <| WL.skp rfl rfl rfl rfl <| WL.skp rfl rfl rfl rfl <| WL.skp rfl rfl rfl rfl <| WL.r 1 rfl <| WL.nil <| WC.ifF rfl rfl <| WC.skip ?_
      refine WC.region <| WL.r 2 rfl <| WL.nw 14 rfl (w64 (by omega)) ?_
      refine WL.r 1 rfl <| WL.nil ?_
      exact ⟨_, by omega, j + 1, acc, ua, uc, rfl, hS, (by omega), (by rw [ha]; exact (btw_out he (by omega)).symm), rfl⟩
  · refine WC.exit ?_
    as_aux_lemma =>
    refine WC.seq <| WC.region <| WL.r 2 rfl <| WL.nil <| WC.ret ?_
    refine ⟨[.slice ua (List.length (en2 acc)) uc], rfl, ?_⟩
    have e9 : j = l.length := (by omega); subst e9; rw [List.take_length] at ha; subst ha; exact ⟨_, _, rfl, hS⟩
end Go.Proofs.YtbeacjcmdijdmaaGreat
/-! ## Txb -/
namespace Go.V
open Go Go.RowKit
structure TxA where
  m : Nat
  u : Option Addr
  c : Nat
def txF (x a : Nat) (rt : Int) (xs : List WE) (q : Nat) (S : Kvs) (y : TxA) : List HP := [cel x #[.pointer (some ⟨a, 0, none⟩), .int .u32 rt, .bool false, .map (some y.m), .slice y.u (en2 S).length y.c] 188, blk y.m (.map (mE (List.map wK xs)) q), Own 106 2 (en2 S) y.u y.c]
def Tx (x a : Nat) (rt : Int) (xs : List WE) (q : Nat) (S : Kvs) : HP := ExB (txF x a rt xs q S)
def tzF (x a : Nat) (rt : Int) (S : Kvs) (en : Bool) (y : TxA) : List HP := [cel x #[.pointer (some ⟨a, 0, none⟩), .int .u32 rt, .bool en, .map (some y.m), .slice y.u (en2 S).length y.c] 188]
def Tz (x a : Nat) (rt : Int) (S : Kvs) (en : Bool) : HP := ExB (tzF x a rt S en)
end Go.V
/-! ## Tx1 -/
namespace Go.Proofs.YtbeacjcmdijdmaaGreat
open Go Go.V Go.RowKit Go.Maps
set_option maxRecDepth 8192 in
theorem tx_begin {g w : World} {L : List HP} (a : Nat) (A : AM) (R : List Int) (i : Int) (hA : ARf A R) (hi : i = 0 ∨ (1 ≤ i ∧ A.s.ok i = true)) (hz : R.length ≤ 900000000) (hS : St g (Arn a A :: L) w) :
    Sp Tryz.prog 29 [.pointer (some ⟨a, 0, none⟩), .int .u32 i] w (fun v w' => ∃ (x : Nat), v = .tuple #[.pointer (some ⟨x, 0, none⟩), .int .i64 0] ∧ St g (Tx x a i [] 0 [] :: Arn a (A.ret i) :: L) w' ∧ (ARf (A.ret i) (i :: R))) := by
  refine Sp.enter Tryz.func29 rfl (by kernel_rfl) (by kernel_rfl) ?_
  have _ := hz
  refine WC.seq <| WC.region <| WL.r 2 rfl <| WL.nil <| WC.seq <| WC.seq <| WC.region ?_
  have hri := hA.okrng hi; have hre := AM.ret_eq hA hi (by omega)
  refine WL.r 2 rfl <| WL.call rfl rfl (ar_retain (i := i) (hA := hA.toAWf) (hi := (by omega)) (hS := hS)) rfl ?_
  clear hS; rintro _ w ⟨rfl, hS⟩
  replace hS : St g (Arn a (A.ret i) :: L) w := hS
  refine WL.r 1 rfl <| WL.nil <| WC.ifF rfl (decide_eq_false ((by rw [hre.2]; decide))) ?_
  refine WC.skip <| WC.seq <| WC.region ?_
  replace hS : St g (Own 106 2 (en2 []) none 0 :: Arn a (A.ret i) :: L) w := hS.nil_ 106 2
  refine WL.r 2 rfl <| WL.mkM rfl rfl hS (fun b1 w hS => ?_)
  refine WL.build rfl rfl (cs := [.pointer (some ⟨a, 0, none⟩), .int .u32 i, .bool false, .map (some b1), .slice none 0 0]) zv_188 rfl rfl <| WL.box rfl rfl #[.pointer (some ⟨a, 0, none⟩), .int .u32 i, .bool false, .map (some b1), .slice none 0 0] hS rfl rfl (fun b2 w hS => ?_)
  refine WL.r 2 rfl <| WL.nil ?_
  as_aux_lemma =>
  refine WC.ret ?_
  replace hS := St.exClose (f := txF b2 a i [] 0 []) (L := Arn a (A.ret i) :: L) ⟨b1, none, 0⟩ (hS)
  replace hS := hS.n2 L (a0 := Tx b2 a i [] 0 []) rfl
  refine ⟨[.pointer (some ⟨b2, 0, none⟩), .int .i64 0], ⟨rfl, rfl⟩, ?_⟩
  exact ⟨_, rfl, hS, (AM.ret_eq hA hi (by omega)).1⟩
set_option maxRecDepth 8192 in
theorem tx_set_in {g w : World} {L : List HP} (x a : Nat) (rt : Int) (xs : List WE) (q : Nat) (S : Kvs) (M : Wrs) (j : Nat) (e : WE) (k z : Int) (p : Bool) (hW : WOk xs q M) (he : xs[j]? = some e) (hk : e.k = k) (hS : St g (Tx x a rt xs q S :: L) w) :
    Sp Tryz.prog 164 [.pointer (some ⟨x, 0, none⟩), .int .i64 k, .agg #[.bool p, .int .i64 z]] w (fun v w' => ∃ (xs2 : List WE) (q2 : Nat), v = .int .i64 0 ∧ St g (Tx x a rt xs2 q2 S :: L) w' ∧ (WOk xs2 q2 (wput k (p, z) M))) := by
  refine Sp.enter Tryz.func164 rfl (by kernel_rfl) (by kernel_rfl) ?_
  refine WC.seq <| WC.region <| WL.box rfl rfl #[.bool p, .int .i64 z] hS rfl rfl (fun b1 w hS => ?_)
  refine WL.r 1 rfl <| WL.nil <| WC.seq <| WC.seq <| WC.region ?_
  obtain ⟨⟨xm, xu, xc⟩, hS⟩ := St.exOpen (f := txF x a rt xs q S) (hS.at_ 1 rfl)
  replace hS : St g (cel x #[.pointer (some ⟨a, 0, none⟩), .int .u32 rt, .bool false, .map (some xm), .slice xu (List.length (en2 S)) xc] 188 :: blk xm (.map (mE (List.map wK xs)) q) :: Own 106 2 (en2 S) xu xc :: cel b1 #[.bool p, .int .i64 z] 217 :: L) w := hS
  refine WL.run 4 [.bool false] rfl (by exact hS.ld 0 rfl rfl) ?_
  refine WL.nil <| WC.ifF rfl rfl <| WC.skip <| WC.seq <| WC.seq <| WC.region <| WL.run 5 [.map (some xm)] rfl (by exact hS.ld 0 rfl rfl) ?_
  refine WL.lk rfl rfl mt_186 1 hS rfl rfl rfl (by first | trivial | rfl) (r := some (j, .agg #[.bool e.p, .int .i64 e.v])) (hk ▸ ki_in (f := wK) (n := WE.k) hW.k.key hW.k.uniq he) rfl ?_
  refine WL.r 3 rfl <| WL.new rfl rfl zv_217 hS (fun b2 w hS => ?_)
  refine WL.stF rfl rfl rfl 0 hS rfl rfl rfl rfl rfl ag_217 (fun w hS => ?_)
  replace hS := hS.n5 L (a0 := cel b2 #[.bool e.p, .int .i64 e.v] 217) rfl
  refine WL.r 1 rfl <| WL.nil ?_
  as_aux_lemma =>
  refine WC.seq <| WC.region <| WL.r 3 rfl <| WL.skp rfl rfl rfl rfl <| WL.skp rfl rfl rfl rfl <| WL.skp rfl rfl rfl rfl <| WL.skp rfl rfl rfl rfl <| WL.skp rfl rfl rfl rfl <| WL.skp rfl rfl rfl rfl <| WL.r 1 rfl <| WL.nil <| WC.ifF rfl rfl ?_
  refine WC.skip <| WC.seq <| WC.plan [([0, 4, 1, 2, 3], some (5, [0, 1, 2, 3, 4])), ([], some (6, []))] (by kernel_rfl) (by kernel_rfl) ?_
  refine WQ.run 5 [.map (some xm)] rfl (by exact hS.ld 1 rfl rfl) ?_
  refine WQ.nil ?_
  intro m1
  replace hS := hS.drewN m1; generalize hwm1 : World.drewN _ _ = w at *; clear hwm1
  refine WL.ldF rfl rfl 4 hS rfl rfl ag_217 <| WL.nil ?_
  refine ⟨by exact ⟨RQ.pure rfl rfl rfl rfl, RQ.pure rfl rfl rfl rfl, RQ.pure rfl rfl rfl rfl, RQ.load rfl rfl rfl rfl (hS.ld 1 rfl rfl), RQ.pure rfl rfl rfl rfl⟩, ?_⟩
  refine WQ.nil ?_
  intro m2
  replace hS := hS.drewN m2; generalize hwm2 : World.drewN _ _ = w at *; clear hwm2
  refine WL.muR (List.map wK (List.set xs j (WE.mk k p z e.b))) rfl rfl rfl mt_186 2 hS rfl (k := .int .i64 k) (v := .agg #[.bool p, .int .i64 z]) rfl rfl rfl (by first | trivial | rfl) (j := j) (u := (.agg #[.bool e.p, .int .i64 e.v])) (hk ▸ ki_in (f := wK) (n := WE.k) hW.k.key hW.k.uniq he) (by rw [List.getElem?_map, he, ← hk]; rfl) (List.map_set (f := wK) (l := xs) (i := j) (a := WE.mk k p z e.b)).symm (fun w hS => ?_)
  replace hS := hS.n5 L (a2 := blk xm (.map (mE (List.map wK (List.set xs j (WE.mk k p z e.b)))) q)) rfl
  refine WL.nil ?_
  refine ⟨by exact trivial, ?_⟩
  intro m3
  replace hS := hS.drewN m3; generalize hwm3 : World.drewN _ _ = w at *; clear hwm3
  as_aux_lemma =>
  refine WC.seq <| WC.region <| WL.r 1 rfl <| WL.nil <| WC.ret ?_
  replace hS := St.exClose (f := txF x a rt (List.set xs j (WE.mk k p z e.b)) q S) (L := cel b2 #[.bool e.p, .int .i64 e.v] 217 :: cel b1 #[.bool p, .int .i64 z] 217 :: L) ⟨xm, xu, xc⟩ ((hS.sel 4 [1, 1, 1, 0] rfl))
  replace hS := hS.n3 L (a0 := Tx x a rt (List.set xs j (WE.mk k p z e.b)) q S) rfl
  refine ⟨[.int .i64 0], rfl, ?_⟩
  replace hS := (hS.sel 3 [0] rfl)
  exact ⟨_, _, rfl, hS, by have h9 := hW.set he p z; rw [hk] at h9; exact h9⟩
set_option maxRecDepth 8192 in
theorem tx_set_new {g w : World} {L : List HP} (x a : Nat) (rt : Int) (xs : List WE) (q : Nat) (S : Kvs) (M : Wrs) (k z : Int) (p : Bool) (hW : WOk xs q M) (hn : ∀ e ∈ xs, e.k ≠ k) (hl : M.length < 1000) (hr : i64R k) (hS : St g (Tx x a rt xs q S :: L) w) :
    Sp Tryz.prog 164 [.pointer (some ⟨x, 0, none⟩), .int .i64 k, .agg #[.bool p, .int .i64 z]] w (fun v w' => ∃ (xs2 : List WE) (q2 : Nat), v = .int .i64 0 ∧ St g (Tx x a rt xs2 q2 S :: L) w' ∧ (WOk xs2 q2 (wput k (p, z) M))) := by
  refine Sp.enter Tryz.func164 rfl (by kernel_rfl) (by kernel_rfl) ?_
  have _ := hl
  refine WC.seq <| WC.region <| WL.box rfl rfl #[.bool p, .int .i64 z] hS rfl rfl (fun b1 w hS => ?_)
  refine WL.r 1 rfl <| WL.nil <| WC.seq <| WC.seq <| WC.region ?_
  obtain ⟨⟨xm, xu, xc⟩, hS⟩ := St.exOpen (f := txF x a rt xs q S) (hS.at_ 1 rfl)
  replace hS : St g (cel x #[.pointer (some ⟨a, 0, none⟩), .int .u32 rt, .bool false, .map (some xm), .slice xu (List.length (en2 S)) xc] 188 :: blk xm (.map (mE (List.map wK xs)) q) :: Own 106 2 (en2 S) xu xc :: cel b1 #[.bool p, .int .i64 z] 217 :: L) w := hS
  have hll := hW.len
  refine WL.run 4 [.bool false] rfl (by exact hS.ld 0 rfl rfl) ?_
  refine WL.nil <| WC.ifF rfl rfl <| WC.skip <| WC.seq <| WC.seq <| WC.region <| WL.run 5 [.map (some xm)] rfl (by exact hS.ld 0 rfl rfl) ?_
  refine WL.lk rfl rfl mt_186 1 hS rfl rfl rfl (by first | trivial | rfl) (r := none) (ki_out (f := wK) (n := WE.k) hW.k.key hn) rfl ?_
  refine WL.r 3 rfl <| WL.new rfl rfl zv_217 hS (fun b2 w hS => ?_)
  refine WL.stF rfl rfl rfl 0 hS rfl rfl rfl rfl rfl ag_217 (fun w hS => ?_)
  replace hS := hS.n5 L (a0 := cel b2 #[.bool false, .int .i64 0] 217) rfl
  refine WL.r 1 rfl <| WL.nil ?_
  as_aux_lemma =>
  refine WC.seq <| WC.region <| WL.r 3 rfl <| WL.ung rfl rfl rfl <| WL.r 1 rfl <| WL.ung rfl rfl rfl <| WL.r 1 rfl <| WL.ung rfl rfl rfl <| WL.r 1 rfl <| WL.ung rfl rfl rfl <| WL.run 1 [.map (some xm)] rfl (by exact hS.ld 1 rfl rfl) ?_
  refine WL.ung rfl rfl rfl <| WL.lenM rfl rfl mt_186 2 hS rfl rfl <| WL.ung rfl rfl rfl <| WL.r 2 rfl <| WL.nil <| WC.ifF rfl (decide_eq_false ((by rw [mE_size, List.length_map]; omega))) ?_
  refine WC.skip <| WC.seq <| WC.plan [([0, 4, 1, 2, 3], some (5, [0, 1, 2, 3, 4])), ([], some (6, []))] (by kernel_rfl) (by kernel_rfl) ?_
  refine WQ.run 5 [.map (some xm)] rfl (by exact hS.ld 1 rfl rfl) ?_
  refine WQ.nil ?_
  intro m1
  replace hS := hS.drewN m1; generalize hwm1 : World.drewN _ _ = w at *; clear hwm1
  refine WL.ldF rfl rfl 4 hS rfl rfl ag_217 <| WL.nil ?_
  refine ⟨by exact ⟨RQ.pure rfl rfl rfl rfl, RQ.pure rfl rfl rfl rfl, RQ.pure rfl rfl rfl rfl, RQ.load rfl rfl rfl rfl (hS.ld 1 rfl rfl), RQ.pure rfl rfl rfl rfl⟩, ?_⟩
  refine WQ.nil ?_
  intro m2
  replace hS := hS.drewN m2; generalize hwm2 : World.drewN _ _ = w at *; clear hwm2
  refine WL.muN rfl rfl rfl mt_186 2 hS rfl rfl rfl rfl (by first | trivial | rfl) (ki_out (f := wK) (n := WE.k) hW.k.key hn) (fun w hS => ?_)
  replace hS := hS.n5 L (a2 := blk xm (.map (mE ((List.map wK xs) ++ [⟨.int .i64 k, .agg #[.bool p, .int .i64 z], q⟩])) (q + 1))) rfl
  refine WL.nil ?_
  refine ⟨by exact trivial, ?_⟩
  intro m3
  replace hS := hS.drewN m3; generalize hwm3 : World.drewN _ _ = w at *; clear hwm3
  as_aux_lemma =>
  refine WC.seq <| WC.region <| WL.r 1 rfl <| WL.nil <| WC.ret ?_
  replace hS := St.exClose (f := txF x a rt (xs ++ [WE.mk k p z q]) (q + 1) S) (L := cel b2 #[.bool false, .int .i64 0] 217 :: cel b1 #[.bool p, .int .i64 z] 217 :: L) ⟨xm, xu, xc⟩ (by
    have hm : List.map wK xs ++ [(.int .i64 k, .agg #[.bool p, .int .i64 z], q)] = List.map wK (xs ++ [WE.mk k p z q]) := by simp [wK]
    rw [hm] at hS
    exact (hS.sel 4 [1, 1, 1, 0] rfl))
  replace hS := hS.n3 L (a0 := Tx x a rt (xs ++ [WE.mk k p z q]) (q + 1) S) rfl
  refine ⟨[.int .i64 0], rfl, ?_⟩
  replace hS := (hS.sel 3 [0] rfl)
  exact ⟨_, _, rfl, hS, hW.snoc hn hr (by omega) p z⟩
set_option maxRecDepth 8192 in
theorem tx_set_full {g w : World} {L : List HP} (x a : Nat) (rt : Int) (xs : List WE) (q : Nat) (S : Kvs) (M : Wrs) (k z : Int) (p : Bool) (hW : WOk xs q M) (hn : ∀ e ∈ xs, e.k ≠ k) (hl : 1000 ≤ M.length) (hS : St g (Tx x a rt xs q S :: L) w) :
    Sp Tryz.prog 164 [.pointer (some ⟨x, 0, none⟩), .int .i64 k, .agg #[.bool p, .int .i64 z]] w (fun v w' => v = .int .i64 2 ∧ St g (Tx x a rt xs q S :: L) w') := by
  refine Sp.enter Tryz.func164 rfl (by kernel_rfl) (by kernel_rfl) ?_
  have _ := hl
  refine WC.seq <| WC.region <| WL.box rfl rfl #[.bool p, .int .i64 z] hS rfl rfl (fun b1 w hS => ?_)
  refine WL.r 1 rfl <| WL.nil <| WC.seq <| WC.seq <| WC.region ?_
  obtain ⟨⟨xm, xu, xc⟩, hS⟩ := St.exOpen (f := txF x a rt xs q S) (hS.at_ 1 rfl)
  replace hS : St g (cel x #[.pointer (some ⟨a, 0, none⟩), .int .u32 rt, .bool false, .map (some xm), .slice xu (List.length (en2 S)) xc] 188 :: blk xm (.map (mE (List.map wK xs)) q) :: Own 106 2 (en2 S) xu xc :: cel b1 #[.bool p, .int .i64 z] 217 :: L) w := hS
  have hll := hW.len
  refine WL.run 4 [.bool false] rfl (by exact hS.ld 0 rfl rfl) ?_
  refine WL.nil <| WC.ifF rfl rfl <| WC.skip <| WC.seq <| WC.seq <| WC.region <| WL.run 5 [.map (some xm)] rfl (by exact hS.ld 0 rfl rfl) ?_
  refine WL.lk rfl rfl mt_186 1 hS rfl rfl rfl (by first | trivial | rfl) (r := none) (ki_out (f := wK) (n := WE.k) hW.k.key hn) rfl ?_
  refine WL.r 3 rfl <| WL.new rfl rfl zv_217 hS (fun b2 w hS => ?_)
  refine WL.stF rfl rfl rfl 0 hS rfl rfl rfl rfl rfl ag_217 (fun w hS => ?_)
  replace hS := hS.n5 L (a0 := cel b2 #[.bool false, .int .i64 0] 217) rfl
  refine WL.r 1 rfl <| WL.nil ?_
  as_aux_lemma =>
  refine WC.seq <| WC.region <| WL.r 3 rfl <| WL.ung rfl rfl rfl <| WL.r 1 rfl <| WL.ung rfl rfl rfl <| WL.r 1 rfl <| WL.ung rfl rfl rfl <| WL.r 1 rfl <| WL.ung rfl rfl rfl <| WL.run 1 [.map (some xm)] rfl (by exact hS.ld 1 rfl rfl) ?_
  refine WL.ung rfl rfl rfl <| WL.lenM rfl rfl mt_186 2 hS rfl rfl <| WL.ung rfl rfl rfl <| WL.r 2 rfl <| WL.nil <| WC.ifT rfl (decide_eq_true ((by rw [mE_size, List.length_map]; omega))) ?_
  refine WC.seq <| WC.region <| WL.r 1 rfl <| WL.nil <| WC.ret ?_
  replace hS := St.exClose (f := txF x a rt xs q S) (L := cel b2 #[.bool false, .int .i64 0] 217 :: cel b1 #[.bool p, .int .i64 z] 217 :: L) ⟨xm, xu, xc⟩ ((hS.sel 4 [1, 1, 1, 0] rfl))
  replace hS := hS.n3 L (a0 := Tx x a rt xs q S) rfl
  refine ⟨[.int .i64 2], rfl, ?_⟩
  replace hS := (hS.sel 3 [0] rfl)
  exact ⟨rfl, hS⟩
theorem wkeys {xs : List WE} {q : Nat} {M : Wrs} (hW : WOk xs q M) (k : Int) : ((wget k M).isSome = true ∧ ∃ (j : Nat) (e : WE), xs[j]? = some e ∧ e.k = k) ∨ ((wget k M).isSome = false ∧ ∀ e ∈ xs, e.k ≠ k) := by
  rcases ki_cases WE.k xs k with ⟨j, e, hj, hk⟩ | hn
  · refine .inl ⟨?_, j, e, hj, hk⟩
    rw [← hk, hW.get hj]; rfl
  · exact .inr ⟨by rw [hW.no hn]; rfl, hn⟩
def wFull (k : Int) (M : Wrs) : Prop := (wget k M).isSome = false ∧ 1000 ≤ M.length
instance (k : Int) (M : Wrs) : Decidable (wFull k M) := by unfold wFull; infer_instance
def wErr (k : Int) (M : Wrs) : Int := if wFull k M then 2 else 0
def wNew (k : Int) (y : Bool × Int) (M : Wrs) : Wrs := if wFull k M then M else wput k y M
theorem wErr_t {k : Int} {M : Wrs} (h : wFull k M) : wErr k M = 2 := if_pos h
theorem wErr_f {k : Int} {M : Wrs} (h : ¬ wFull k M) : wErr k M = 0 := if_neg h
theorem wNew_t {k : Int} {y : Bool × Int} {M : Wrs} (h : wFull k M) : wNew k y M = M := if_pos h
theorem wNew_f {k : Int} {y : Bool × Int} {M : Wrs} (h : ¬ wFull k M) : wNew k y M = wput k y M := if_neg h
set_option maxRecDepth 8192 in
theorem tx_set {g w : World} {L : List HP} (x a : Nat) (rt : Int) (xs : List WE) (q : Nat) (S : Kvs) (M : Wrs) (k z : Int) (p : Bool) (hW : WOk xs q M) (hr : i64R k) (hS : St g (Tx x a rt xs q S :: L) w) :
    Sp Tryz.prog 164 [.pointer (some ⟨x, 0, none⟩), .int .i64 k, .agg #[.bool p, .int .i64 z]] w (fun v w' => ∃ (xs2 : List WE) (q2 : Nat), v = .int .i64 (wErr k M) ∧ St g (Tx x a rt xs2 q2 S :: L) w' ∧ (WOk xs2 q2 (wNew k (p, z) M))) := by
  rcases wkeys hW k with ⟨h1, j, e, he, hk⟩ | ⟨h1, hn⟩
  · have hf : ¬ wFull k M := fun h => by have h9 := h.1; rw [h1] at h9; cases h9
    rw [wErr_f hf]
    refine (tx_set_in x a rt xs q S M j e k z p hW he hk hS).mono fun v w' ⟨xs2, q2, h1, h2, h3⟩ => ⟨xs2, q2, h1, h2, by rw [wNew_f hf]; exact h3⟩
  · by_cases hl : M.length < 1000
    · have hf : ¬ wFull k M := fun h => by have := h.2; omega
      rw [wErr_f hf]
      refine (tx_set_new x a rt xs q S M k z p hW hn hl hr hS).mono fun v w' ⟨xs2, q2, h1, h2, h3⟩ => ⟨xs2, q2, h1, h2, by rw [wNew_f hf]; exact h3⟩
    · have hf : wFull k M := ⟨h1, by omega⟩
      rw [wErr_t hf]
      refine (tx_set_full x a rt xs q S M k z p hW hn (by omega) hS).mono fun v w' ⟨h1, h2⟩ => ⟨xs, q, h1, h2, by rw [wNew_t hf]; exact hW⟩
set_option maxRecDepth 8192 in
theorem tx_put {g w : World} {L : List HP} (x a : Nat) (rt : Int) (xs : List WE) (q : Nat) (S : Kvs) (M : Wrs) (k z : Int) (hW : WOk xs q M) (hr : i64R k) (hS : St g (Tx x a rt xs q S :: L) w) :
    Sp Tryz.prog 95 [.pointer (some ⟨x, 0, none⟩), .int .i64 k, .int .i64 z] w (fun v w' => ∃ (xs2 : List WE) (q2 : Nat), v = .int .i64 (wErr k M) ∧ St g (Tx x a rt xs2 q2 S :: L) w' ∧ (WOk xs2 q2 (wNew k (true, z) M))) := by
  refine Sp.enter Tryz.func95 rfl (by kernel_rfl) (by kernel_rfl) ?_
  refine WC.seq <| WC.region <| WL.r 1 rfl <| WL.nil <| WC.seq <| WC.region <| WL.r 3 rfl <| WL.build rfl rfl (cs := [.bool true, .int .i64 z]) zv_217 rfl rfl <| WL.call rfl rfl (tx_set (M := M) (k := k) (z := z) (p := true) (hW := hW) (hr := hr) (hS := hS)) rfl ?_
  clear hS; rintro _ w ⟨xs1, q1, rfl, hS, f1⟩
  replace hS : St g (Tx x a rt xs1 q1 S :: L) w := hS
  refine WL.r 1 rfl <| WL.nil <| WC.ret ?_
  refine ⟨[.int .i64 (wErr k M)], rfl, ?_⟩
  exact ⟨_, _, rfl, hS, f1⟩
set_option maxRecDepth 8192 in
theorem tx_del {g w : World} {L : List HP} (x a : Nat) (rt : Int) (xs : List WE) (q : Nat) (S : Kvs) (M : Wrs) (k : Int) (hW : WOk xs q M) (hr : i64R k) (hS : St g (Tx x a rt xs q S :: L) w) :
    Sp Tryz.prog 98 [.pointer (some ⟨x, 0, none⟩), .int .i64 k] w (fun v w' => ∃ (xs2 : List WE) (q2 : Nat), v = .int .i64 (wErr k M) ∧ St g (Tx x a rt xs2 q2 S :: L) w' ∧ (WOk xs2 q2 (wNew k (false, 0) M))) := by
  refine Sp.enter Tryz.func98 rfl (by kernel_rfl) (by kernel_rfl) ?_
  refine WC.seq <| WC.region <| WL.r 1 rfl <| WL.nil <| WC.seq <| WC.region <| WL.r 2 rfl <| WL.build rfl rfl (cs := [.bool false, .int .i64 0]) zv_217 rfl rfl <| WL.call rfl rfl (tx_set (M := M) (k := k) (z := 0) (p := false) (hW := hW) (hr := hr) (hS := hS)) rfl ?_
  clear hS; rintro _ w ⟨xs1, q1, rfl, hS, f1⟩
  replace hS : St g (Tx x a rt xs1 q1 S :: L) w := hS
  refine WL.r 1 rfl <| WL.nil <| WC.ret ?_
  refine ⟨[.int .i64 (wErr k M)], rfl, ?_⟩
  exact ⟨_, _, rfl, hS, f1⟩
set_option maxRecDepth 8192 in
theorem tx_end {g w : World} {L : List HP} (x a : Nat) (rt : Int) (xs : List WE) (q : Nat) (S : Kvs) (A : AM) (R : List Int) (hA : ARf A (rt :: R)) (hR : R.length ≤ 900000000) (hS : St g (Tx x a rt xs q S :: Arn a A :: L) w) :
    Sp Tryz.prog 107 [.pointer (some ⟨x, 0, none⟩)] w (fun v w' => ∃ (A2 : AM) (xm : Nat) (xu : Option Addr) (xc : Nat), v = .tuple #[] ∧ St g (cel x #[.pointer (some ⟨a, 0, none⟩), .int .u32 rt, .bool true, .map (some xm), .slice xu (List.length (en2 S)) xc] 188 :: Arn a A2 :: L) w' ∧ (Rl A A2 R)) := by
  refine Sp.enter Tryz.func107 rfl (by kernel_rfl) (by kernel_rfl) ?_
  refine WC.seq <| WC.region ?_
  obtain ⟨⟨xm, xu, xc⟩, hS⟩ := St.exOpen (f := txF x a rt xs q S) hS
  replace hS := hS.n4 L (a0 := cel x #[.pointer (some ⟨a, 0, none⟩), .int .u32 rt, .bool false, .map (some xm), .slice xu (List.length (en2 S)) xc] 188) (a1 := blk xm (.map (mE (List.map wK xs)) q)) (a2 := Own 106 2 (en2 S) xu xc) rfl
  have hrr := hA.rng (r := rt) (by simp)
  refine WL.r 3 rfl <| WL.st rfl rfl rfl 0 hS rfl rfl rfl rfl rfl rfl (fun w hS => ?_)
  replace hS := hS.n4 L (a0 := cel x #[.pointer (some ⟨a, 0, none⟩), .int .u32 rt, .bool true, .map (some xm), .slice xu (List.length (en2 S)) xc] 188) rfl
  refine WL.nil <| WC.plan [([0, 4, 1, 5, 2, 6, 3, 7], some (8, []))] (by kernel_rfl) (by kernel_rfl) ?_
  refine WQ.run 8 [.pointer (some ⟨a, 0, none⟩), .int .u32 rt] rfl (by exact ⟨hS.ld 0 rfl rfl, hS.ld 0 rfl rfl⟩) ?_
  refine WQ.nil ?_
  intro m1
  replace hS := hS.drewN m1; generalize hwm1 : World.drewN _ _ = w at *; clear hwm1
  refine WL.call rfl rfl (tr_rel (R := R) (i := rt) (hA := hA) (hR := hR) (hS := (hS.sel 4 [3, 0, 0, 0] rfl))) rfl ?_
  clear hS; rintro _ w ⟨A1, f1, rfl, hS, f2, f3⟩
  replace hS := hS.n4 L (a0 := Arn a A1) rfl
  refine WL.nil ?_
  refine ⟨by exact trivial, ?_⟩
  intro m2
  replace hS := hS.drewN m2; generalize hwm2 : World.drewN _ _ = w at *; clear hwm2
  refine ⟨[], trivial, ?_⟩
  replace hS := (hS.sel 4 [1, 0] rfl)
  exact ⟨_, _, _, _, rfl, hS, f2⟩
end Go.Proofs.YtbeacjcmdijdmaaGreat
/-! ## Sky -/
namespace Go.Proofs
open Go.Shelf
def Tryz.keysW_ren : Go.Shelf.Ren := ⟨fun | 7 => 121 | 10 => 183 | n => n, fun | 23 => 186 | 26 => 2 | 3 => 217 | 28 => 214 | 0 => 0 | 27 => 213 | 33 => 211 | 4 => 4 | n => n, fun | n => n⟩
theorem Tryz.keysW : Go.Proofs.SlLaysZI.n7 Tryz.prog Tryz.keysW_ren := {
  mixed := by kernel_rfl
  f7 := ⟨Tryz.f121.name, by decide, Tryz.func121.trans (congrArg some (by kernel_rfl))⟩
  f10 := ⟨Tryz.f183.name, by decide, Tryz.func183.trans (congrArg some (by kernel_rfl))⟩
  t0 := Tryz.underlying0
  a0 := Tryz.isAgg0
  z0 := Tryz.sizeOf0
  v0 := Tryz.zeroValue0
  t4 := Tryz.underlying4
  a4 := Tryz.isAgg4
  z4 := Tryz.sizeOf4
  v4 := Tryz.zeroValue4
  t23 := Tryz.underlying186
  a23 := Tryz.isAgg186
  z23 := Tryz.sizeOf186
  v23 := Tryz.zeroValue186
  t26 := Tryz.underlying2
  a26 := Tryz.isAgg2
  z26 := Tryz.sizeOf2
  v26 := Tryz.zeroValue2
  t27 := Tryz.underlying213
  a27 := Tryz.isAgg213
  z27 := Tryz.sizeOf213
  v27 := Tryz.zeroValue213
  t28 := Tryz.underlying214
  a28 := Tryz.isAgg214
  z28 := Tryz.sizeOf214
  v28 := Tryz.zeroValue214
  t33 := Tryz.underlying211
  a33 := Tryz.isAgg211
  z33 := Tryz.sizeOf211
  v33 := Tryz.zeroValue211 }
def Tryz.sortedL_ren : Go.Shelf.Ren := ⟨fun | 6 => 120 | 8 => 181 | 9 => 182 | 11 => 212 | 13 => 198 | 12 => 213 | 23 => 231 | 24 => 232 | 14 => 248 | 15 => 249 | 16 => 250 | 17 => 251 | 18 => 252 | 19 => 253 | 20 => 254 | 21 => 255 | 22 => 256 | 25 => 266 | 26 => 258 | 27 => 259 | 28 => 267 | 29 => 268 | 30 => 269 | 31 => 272 | n => n, fun | 26 => 2 | 28 => 214 | 24 => 208 | 0 => 0 | 3 => 3 | 37 => 299 | 48 => 64 | 50 => 23 | 4 => 4 | 40 => 328 | 39 => 327 | 45 => 332 | 5 => 5 | 9 => 9 | 51 => 356 | 55 => 360 | 57 => 367 | 58 => 368 | 33 => 211 | n => n, fun | n => n⟩
theorem Tryz.sortedL : Go.Proofs.SlLaysZI.n6 Tryz.prog Tryz.sortedL_ren := {
  mixed := by kernel_rfl
  f6 := ⟨Tryz.f120.name, by decide, Tryz.func120.trans (congrArg some (by kernel_rfl))⟩
  f8 := ⟨Tryz.f181.name, by decide, Tryz.func181.trans (congrArg some (by kernel_rfl))⟩
  f11 := ⟨Tryz.f212.name, by decide, Tryz.func212.trans (congrArg some (by kernel_rfl))⟩
  t0 := Tryz.underlying0
  a0 := Tryz.isAgg0
  z0 := Tryz.sizeOf0
  v0 := Tryz.zeroValue0
  t24 := Tryz.underlying208
  a24 := Tryz.isAgg208
  z24 := Tryz.sizeOf208
  v24 := Tryz.zeroValue208
  t26 := Tryz.underlying2
  a26 := Tryz.isAgg2
  z26 := Tryz.sizeOf2
  v26 := Tryz.zeroValue2
  t28 := Tryz.underlying214
  a28 := Tryz.isAgg214
  z28 := Tryz.sizeOf214
  v28 := Tryz.zeroValue214
  i26 := by kernel_rfl }
def Tryz.sortL_ren : Go.Shelf.Ren := ⟨fun | 5 => 182 | 8 => 198 | 7 => 213 | 19 => 231 | 20 => 232 | 10 => 248 | 11 => 249 | 12 => 250 | 13 => 251 | 14 => 252 | 15 => 253 | 16 => 254 | 17 => 255 | 18 => 256 | 30 => 266 | 31 => 258 | 32 => 259 | 33 => 267 | 34 => 268 | 35 => 269 | 40 => 272 | n => n, fun | 23 => 208 | 25 => 2 | 3 => 3 | 32 => 299 | 22 => 208 | 0 => 0 | 44 => 64 | 46 => 23 | 4 => 4 | 36 => 328 | 35 => 327 | 41 => 332 | 5 => 5 | 9 => 9 | 53 => 356 | 57 => 360 | 63 => 367 | 64 => 368 | n => n, fun | n => n⟩
theorem Tryz.sortL : Go.Proofs.SlLaysM.n5 Tryz.prog Tryz.sortL_ren := {
  mixed := by kernel_rfl
  f5 := ⟨Tryz.f182.name, by decide, Tryz.func182.trans (congrArg some (by kernel_rfl))⟩
  f7 := ⟨Tryz.f213.name, by decide, Tryz.func213.trans (congrArg some (by kernel_rfl))⟩
  f8 := Tryz.func198.trans (congrArg some (by kernel_rfl))
  f10 := ⟨Tryz.f248.name, by decide, Tryz.func248.trans (congrArg some (by kernel_rfl))⟩
  f11 := ⟨Tryz.f249.name, by decide, Tryz.func249.trans (congrArg some (by kernel_rfl))⟩
  f12 := ⟨Tryz.f250.name, by decide, Tryz.func250.trans (congrArg some (by kernel_rfl))⟩
  f13 := ⟨Tryz.f251.name, by decide, Tryz.func251.trans (congrArg some (by kernel_rfl))⟩
  f14 := ⟨Tryz.f252.name, by decide, Tryz.func252.trans (congrArg some (by kernel_rfl))⟩
  f15 := ⟨Tryz.f253.name, by decide, Tryz.func253.trans (congrArg some (by kernel_rfl))⟩
  f16 := ⟨Tryz.f254.name, by decide, Tryz.func254.trans (congrArg some (by kernel_rfl))⟩
  f17 := ⟨Tryz.f255.name, by decide, Tryz.func255.trans (congrArg some (by kernel_rfl))⟩
  f18 := ⟨Tryz.f256.name, by decide, Tryz.func256.trans (congrArg some (by kernel_rfl))⟩
  f19 := Tryz.func231.trans (congrArg some (by kernel_rfl))
  f20 := Tryz.func232.trans (congrArg some (by kernel_rfl))
  f30 := ⟨Tryz.f266.name, by decide, Tryz.func266.trans (congrArg some (by kernel_rfl))⟩
  f31 := Tryz.func258.trans (congrArg some (by kernel_rfl))
  f32 := Tryz.func259.trans (congrArg some (by kernel_rfl))
  f33 := ⟨Tryz.f267.name, by decide, Tryz.func267.trans (congrArg some (by kernel_rfl))⟩
  f34 := ⟨Tryz.f268.name, by decide, Tryz.func268.trans (congrArg some (by kernel_rfl))⟩
  f35 := ⟨Tryz.f269.name, by decide, Tryz.func269.trans (congrArg some (by kernel_rfl))⟩
  f40 := ⟨Tryz.f272.name, by decide, Tryz.func272.trans (congrArg some (by kernel_rfl))⟩
  t0 := Tryz.underlying0
  a0 := Tryz.isAgg0
  z0 := Tryz.sizeOf0
  v0 := Tryz.zeroValue0
  t3 := Tryz.underlying3
  a3 := Tryz.isAgg3
  z3 := Tryz.sizeOf3
  v3 := Tryz.zeroValue3
  t4 := Tryz.underlying4
  a4 := Tryz.isAgg4
  z4 := Tryz.sizeOf4
  v4 := Tryz.zeroValue4
  t5 := Tryz.underlying5
  a5 := Tryz.isAgg5
  z5 := Tryz.sizeOf5
  v5 := Tryz.zeroValue5
  t9 := Tryz.underlying9
  a9 := Tryz.isAgg9
  z9 := Tryz.sizeOf9
  v9 := Tryz.zeroValue9
  t22 := Tryz.underlying208
  a22 := Tryz.isAgg208
  z22 := Tryz.sizeOf208
  v22 := Tryz.zeroValue208
  t23 := Tryz.underlying208
  a23 := Tryz.isAgg208
  z23 := Tryz.sizeOf208
  v23 := Tryz.zeroValue208
  t25 := Tryz.underlying2
  a25 := Tryz.isAgg2
  z25 := Tryz.sizeOf2
  v25 := Tryz.zeroValue2
  t32 := Tryz.underlying299
  a32 := Tryz.isAgg299
  z32 := Tryz.sizeOf299
  v32 := Tryz.zeroValue299
  t35 := Tryz.underlying327
  a35 := Tryz.isAgg327
  z35 := Tryz.sizeOf327
  v35 := Tryz.zeroValue327
  t36 := Tryz.underlying328
  a36 := Tryz.isAgg328
  z36 := Tryz.sizeOf328
  v36 := Tryz.zeroValue328
  t41 := Tryz.underlying332
  a41 := Tryz.isAgg332
  z41 := Tryz.sizeOf332
  v41 := Tryz.zeroValue332
  t44 := Tryz.underlying64
  a44 := Tryz.isAgg64
  z44 := Tryz.sizeOf64
  v44 := Tryz.zeroValue64
  t46 := Tryz.underlying23
  a46 := Tryz.isAgg23
  z46 := Tryz.sizeOf23
  v46 := Tryz.zeroValue23
  t53 := Tryz.underlying356
  a53 := Tryz.isAgg356
  z53 := Tryz.sizeOf356
  v53 := Tryz.zeroValue356
  t57 := Tryz.underlying360
  a57 := Tryz.isAgg360
  z57 := Tryz.sizeOf360
  v57 := Tryz.zeroValue360
  t63 := Tryz.underlying367
  a63 := Tryz.isAgg367
  z63 := Tryz.sizeOf367
  v63 := Tryz.zeroValue367
  t64 := Tryz.underlying368
  a64 := Tryz.isAgg368
  z64 := Tryz.sizeOf368
  v64 := Tryz.zeroValue368 }
end Go.Proofs
/-! ## Tx2 -/
namespace Go.Proofs
open Go.RowKit Go.Maps Go.Sort Go.Shelf
theorem Tryz.sortsL (m : Nat) : AnyZI.SortsIn Tryz.prog Tryz.sortedL_ren Fence.wide m :=
  ⟨fun blk off cap ss W hH hblk hsz => callsIn_wide.2 (AnyM.slices_Sort_int Tryz.sortL blk off cap ss W hH hblk hsz),
   fun p cap W => callsIn_wide.2 (AnyM.slices_Sort_int_none Tryz.sortL p cap W)⟩
end Go.Proofs
namespace Go.Proofs.YtbeacjcmdijdmaaGreat
open Go Go.V Go.RowKit Go.Maps Go.Sort Go.Shelf
set_option maxRecDepth 8192 in
theorem keysW_spec {g w : World} {L : List HP} (m : Nat) (hS : St g (L) w) :
    Sp Tryz.prog 121 [.map (some m)] w (fun v w' => ∃ (c : Nat), v = .func (.func 183) #[] #[.pointer (some ⟨c, 0, none⟩)] ∧ St g (cel c #[.map (some m)] 186 :: L) w') := by
  have h := callsIn_wide.1 (AnyZI.keys_in Tryz.keysW Fence.wide 5 trivial rfl (some m) w)
  refine ⟨⟨_, _, Tryz.func121, by kernel_rfl, rfl⟩, h.mono fun e w' ⟨he, hw⟩ => ⟨_, he, ?_⟩⟩
  subst hw
  exact ⟨_, rfl, hS.new _⟩
set_option maxRecDepth 8192 in
theorem sortedW_spec {g w : World} {L : List HP} (m c q : Nat) (rs : List WE) (ss : List Int) (ht : KOk wK WE.k rs q) (hp : ss.Perm (rs.map WE.k)) (hs : ss.Pairwise (· ≤ ·)) (hS : St g (cel c #[.map (some m)] 186 :: blk m (.map (mE (List.map wK rs)) q) :: L) w) :
    Sp Tryz.prog 120 [.func (.func 183) #[] #[.pointer (some ⟨c, 0, none⟩)]] w (fun v w' => ∃ (a2 : Option Addr) (c2 : Nat), v = .slice a2 (List.length (i64s ss)) c2 ∧ St g (Own 2 1 (i64s ss) a2 c2 :: cel c #[.map (some m)] 186 :: blk m (.map (mE (List.map wK rs)) q) :: L) w') := by
  have hc : w.cell? ⟨c, 0, none⟩ = some (.map (some m)) := hS.ld 0 rfl rfl
  have hcl : c < w.heap.size := by
    have h1 := hS.heap 0 rfl
    exact (Array.getElem?_eq_some_iff.1 h1).1
  have hm := hS.heap 1 rfl
  obtain ⟨D, hD, hsz, hk⟩ := keys_of (P := Tryz.prog) (k := 2) rs q ht Tryz.underlying2 hm
  have hseq := AnyZI.keys_gives (ρ := Tryz.keysW_ren) { Tryz.keysW with } Fence.wide 2 trivial rfl (by omega) c m 4096 D w hcl hc hD
  have h := callsIn_wide.1 (AnyZI.sorted_in Tryz.sortedL Fence.wide 5 trivial trivial trivial trivial rfl (by omega) (Tryz.sortsL _) (enters_of Tryz.func182 (by kernel_rfl) rfl) 183 #[.pointer (some ⟨c, 0, none⟩)] trivial (enters_of Tryz.func183 (by kernel_rfl) rfl) _ _ (by rw [hsz]; exact Nat.le_trans ht.num (by decide)) (by rw [hsz]; have := ht.num; omega) w hseq)
  refine ⟨⟨_, _, Tryz.func120, by kernel_rfl, rfl⟩, h.mono fun e w' ⟨v, ys, he, hys, hrow, _, hb⟩ => ⟨v, he, ?_⟩⟩
  have hpp : ss.Perm ys := hp.trans (hys.trans hk).symm
  obtain ⟨a, c2, rfl, hS2⟩ := St.of_row (i64s ss) hS hb hrow (by rw [sort_eqI hpp hs, i64s_flat]) (by simpa using hpp.length_eq) (i64s_ok ss)
  exact ⟨a, c2, rfl, hS2⟩
def wks (M : Wrs) : List Int := M.map fun x => x.1
theorem WOk.pick {xs : List WE} {q : Nat} {M : Wrs} (h : WOk xs q M) {k : Nat} {e : Int × Bool × Int} (he : M[k]? = some e) : ∃ (j : Nat) (y : WE), xs[j]? = some y ∧ y.k = e.1 ∧ y.p = e.2.1 ∧ y.v = e.2.2 := by
  obtain ⟨y, hy, rfl⟩ := (h.mem e).1 (List.mem_of_getElem? he)
  obtain ⟨j, hj⟩ := List.mem_iff_getElem?.1 hy
  exact ⟨j, y, hj, rfl, rfl, rfl⟩
def wCs (M : Wrs) (k : Nat) : List (Int × Int × Int × Int) := (M.take k).map wC
theorem wCs_succ {M : Wrs} {k : Nat} {e : Int × Bool × Int} (h : M[k]? = some e) : wCs M (k + 1) = wCs M k ++ [wC e] := by
  unfold wCs; rw [List.take_add_one, h]; simp
set_option maxRecDepth 8192 in
theorem tx_writes {g w : World} {L : List HP} (x a : Nat) (rt : Int) (xs : List WE) (q : Nat) (S : Kvs) (M : Wrs) (hW : WOk xs q M) (hS : St g (Tx x a rt xs q S :: L) w) :
    Sp Tryz.prog 41 [.pointer (some ⟨x, 0, none⟩)] w (fun v w' => ∃ (a2 : Option Addr) (c2 : Nat), v = .slice a2 (List.length (ch4 (M.map wC))) c2 ∧ St g (Own 110 4 (ch4 (M.map wC)) a2 c2 :: Tx x a rt xs q S :: L) w') := by
  refine Sp.enter Tryz.func41 rfl (by kernel_rfl) (by kernel_rfl) ?_
  refine WC.seq <| WC.region <| WL.r 1 rfl <| WL.nil <| WC.seq <| WC.seq <| WC.region ?_
  obtain ⟨⟨xm, xu, xc⟩, hS⟩ := St.exOpen (f := txF x a rt xs q S) hS
  replace hS : St g (cel x #[.pointer (some ⟨a, 0, none⟩), .int .u32 rt, .bool false, .map (some xm), .slice xu (List.length (en2 S)) xc] 188 :: blk xm (.map (mE (List.map wK xs)) q) :: Own 106 2 (en2 S) xu xc :: L) w := hS
  have hll := hW.len; have hnm := hW.k.num; obtain ⟨hk1, hk2⟩ := hW.keys
  refine WL.run 4 [.bool false] rfl (by exact hS.ld 0 rfl rfl) ?_
  refine WL.nil <| WC.ifF rfl rfl <| WC.skip <| WC.seq <| WC.region <| WL.r 1 rfl <| WL.nil <| WC.seq <| WC.seq <| WC.region ?_
  have hsl := i64s_len (wks M); have hwl : (wks M).length = M.length := List.length_map ..
  refine WL.run 4 [.map (some xm)] rfl (by exact hS.ld 0 rfl rfl) ?_
  refine WL.call rfl rfl (keysW_spec (m := xm)  (hS := hS)) rfl ?_
  clear hS; rintro _ w ⟨c1, rfl, hS⟩
  replace hS := hS.n4 L (a0 := cel c1 #[.map (some xm)] 186) rfl
  refine WL.call rfl rfl (sortedW_spec (q := q) (rs := xs) (ss := wks M) (ht := hW.k) (hp := hk1) (hs := hk2) (hS := (hS.sel 3 [0, 1, 0] rfl))) rfl ?_
  clear hS; rintro _ w ⟨a1, c2, rfl, hS⟩
  replace hS := hS.n5 L (a0 := Own 2 1 (i64s (wks M)) a1 c2) rfl
  refine WL.r 2 rfl <| WL.nil ?_
  as_aux_lemma =>
  refine WC.block ?_
  replace hS := hS.nil_ 110 4
  refine WC.loop [0, 2, 3, 17, 18, 19] (fun kM vs w => ∃ (k : Nat) (acc : List (Int × Int × Int × Int)) (u : Option Addr) (d : Nat), vs = [.pointer (some ⟨x, 0, none⟩), .slice none 0 0, .slice u (List.length (ch4 acc)) d, .slice a1 (List.length (i64s (wks M))) c2, .int .i64 (List.length (i64s (wks M)) : Int), .int .i64 (k : Int)] ∧ St g (Own 110 4 (ch4 acc) u d :: Own 2 1 (i64s (wks M)) a1 c2 :: cel c1 #[.map (some xm)] 186 :: blk xm (.map (mE (List.map wK xs)) q) :: cel x #[.pointer (some ⟨a, 0, none⟩), .int .u32 rt, .bool false, .map (some xm), .slice xu (List.length (en2 S)) xc] 188 :: Own 106 2 (en2 S) xu xc :: L) w ∧ (k ≤ M.length) ∧ (acc = wCs M k) ∧ (M.length - k) = kM) ((List.length M) - 0) ⟨0, [], none, 0, rfl, hS, (Nat.zero_le _), (rfl), rfl⟩ ?_
  clear hS; rintro _ _ w j ⟨k, acc, u, d, rfl, hS, hk, ha, rfl⟩
  refine WC.seq <| WC.region ?_
  have hsl := i64s_len (wks M); have hwl : (wks M).length = M.length := List.length_map ..
  refine WL.r 1 rfl <| WL.nil <| WC.seq <| WC.ifP rfl (fun cd1 => ?_) (fun cd1 => ?_)
  · refine WC.skip <| WC.seq <| WC.block <| WC.seq <| WC.region ?_
    obtain ⟨e, he⟩ : ∃ e, M[k]? = some e := ⟨_, List.getElem?_eq_getElem (by omega)⟩; have hz : (wks M)[k]? = some e.1 := (by unfold wks; rw [List.getElem?_map, he]; rfl); obtain ⟨j, y, hj, hy1, hy2, hy3⟩ := WOk.pick hW he; have hac : acc.length ≤ 4096 := (by rw [ha]; unfold wCs; rw [List.length_map, List.length_take]; omega); have hal := ch4_len acc
    refine WL.ix rfl rfl (i := (k : Int)) (k) el_208 rfl rfl (by omega) (by omega) (hS.rdO 1 rfl (i64s_at hz)).1 ?_
    refine WL.run 2 [.int .i64 e.1] rfl (by exact (hS.rdO 1 rfl (i64s_at hz)).2 0 _ rfl) ?_
    refine WL.nil <| WC.seq <| WC.region <| WL.r 1 rfl <| WL.build rfl rfl (cs := [.int .i64 2, .int .i64 e.1, .int .i64 0, .int .i64 0]) zv_110 rfl rfl <| WL.new rfl rfl zv_110 hS (fun b1 w hS => ?_)
    refine WL.stF rfl rfl rfl 0 hS rfl rfl rfl rfl rfl ag_110 (fun w hS => ?_)
    replace hS := hS.n7 L (a0 := cel b1 #[.int .i64 2, .int .i64 e.1, .int .i64 0, .int .i64 0] 110) rfl
    refine WL.nil ?_
    as_aux_lemma =>
    refine WC.seq <| WC.seq <| WC.region <| WL.run 5 [.map (some xm)] rfl (by exact hS.ld 5 rfl rfl) ?_
    refine WL.lk rfl rfl mt_186 4 hS rfl rfl rfl (by first | trivial | rfl) (r := some (j, .agg #[.bool y.p, .int .i64 y.v])) (hy1 ▸ ki_in (f := wK) (n := WE.k) hW.k.key hW.k.uniq hj) rfl ?_
    refine WL.new rfl rfl zv_217 hS (fun b2 w hS => ?_)
    refine WL.stF rfl rfl rfl 0 hS rfl rfl rfl rfl rfl ag_217 (fun w hS => ?_)
    replace hS := hS.n8 L (a0 := cel b2 #[.bool y.p, .int .i64 y.v] 217) rfl
    refine WL.nil <| WC.seq <| WC.region <| WL.run 2 [.bool y.p] rfl (by exact hS.ld 0 rfl rfl) ?_
    refine WL.nil <| WC.if_ rfl (fun hp => ?_) (fun hp => ?_)
    · refine WC.plan [([0, 2, 1], some (3, [0, 1])), ([4], some (5, []))] (by kernel_rfl) (by kernel_rfl) ?_
      refine WQ.run 3 [.int .i64 y.v] rfl (by exact hS.ld 0 rfl rfl) ?_
      refine WQ.nil ?_
      intro m1
      replace hS := hS.drewN m1; generalize hwm1 : World.drewN _ _ = w at *; clear hwm1
      refine WL.st rfl rfl rfl 1 hS rfl rfl rfl rfl rfl rfl (fun w hS => ?_)
      replace hS := hS.n8 L (a1 := cel b1 #[.int .i64 3, .int .i64 e.1, .int .i64 0, .int .i64 0] 110) rfl
      refine WL.nil ?_
      refine ⟨by exact ⟨RQ.pure rfl rfl rfl rfl, RQ.load rfl rfl rfl rfl (hS.ld 0 rfl rfl)⟩, ?_⟩
      refine WQ.r 1 rfl <| WQ.nil ?_
      intro m2
      replace hS := hS.drewN m2; generalize hwm2 : World.drewN _ _ = w at *; clear hwm2
      refine WL.st rfl rfl rfl 1 hS rfl rfl rfl rfl rfl rfl (fun w hS => ?_)
      replace hS := hS.n8 L (a1 := cel b1 #[.int .i64 3, .int .i64 e.1, .int .i64 0, .int .i64 y.v] 110) rfl
      refine WL.nil ?_
      refine ⟨by exact trivial, ?_⟩
      intro m3
      replace hS := hS.drewN m3; generalize hwm3 : World.drewN _ _ = w at *; clear hwm3
      as_aux_lemma =>
      refine WC.region <| WL.r 1 rfl <| WL.ldF rfl rfl 1 hS rfl rfl ag_110 <| WL.lit rfl rfl (ch4 [(3, e.1, 0, y.v)]) el_111 hS (by exact ⟨rfl, rfl⟩) (ch4_ok _) rfl (Nat.le_of_ble_eq_true rfl) (fun b3 w hS => ?_)
      refine WL.app rfl rfl 3 (ch4 (acc ++ [(3, e.1, 0, y.v)])) el_111 hS rfl (hS.srcO 0 rfl) (ch4_app _ _).symm (Rm.of (by first | omega | (simp <;> omega)) (by decide)) rfl rfl (fun a2 c3 w hS => ?_)
      replace hS := hS.n9 L (a0 := Own 110 4 (ch4 [(3, e.1, 0, y.v)]) (some ⟨b3, 0, none⟩) (List.length (ch4 [(3, e.1, 0, y.v)]))) (a3 := Own 110 4 (ch4 (acc ++ [(3, e.1, 0, y.v)])) a2 c3) rfl
      refine WL.r 1 rfl <| WL.nil <| WC.region <| WL.r 1 rfl <| WL.nw 41 rfl (w64 (by omega)) ?_
      refine WL.r 1 rfl <| WL.nil ?_
      exact ⟨_, by omega, k + 1, acc ++ [(3, e.1, 0, y.v)], a2, c3, rfl, (hS.sel 3 [] rfl), (by omega), (by rw [wCs_succ he, ha]; unfold wC; rw [← hy2, if_pos hp, hy3]), rfl⟩
    · refine WC.skip <| WC.region <| WL.r 1 rfl <| WL.ldF rfl rfl 1 hS rfl rfl ag_110 <| WL.lit rfl rfl (ch4 [(2, e.1, 0, 0)]) el_111 hS (by exact ⟨rfl, rfl⟩) (ch4_ok _) rfl (Nat.le_of_ble_eq_true rfl) (fun b3 w hS => ?_)
      refine WL.app rfl rfl 3 (ch4 (acc ++ [(2, e.1, 0, 0)])) el_111 hS rfl (hS.srcO 0 rfl) (ch4_app _ _).symm (Rm.of (by first | omega | (simp <;> omega)) (by decide)) rfl rfl (fun a2 c3 w hS => ?_)
      replace hS := hS.n9 L (a0 := Own 110 4 (ch4 [(2, e.1, 0, 0)]) (some ⟨b3, 0, none⟩) (List.length (ch4 [(2, e.1, 0, 0)]))) (a3 := Own 110 4 (ch4 (acc ++ [(2, e.1, 0, 0)])) a2 c3) rfl
      refine WL.r 1 rfl <| WL.nil <| WC.region <| WL.r 1 rfl <| WL.nw 41 rfl (w64 (by omega)) ?_
      refine WL.r 1 rfl <| WL.nil ?_
      exact ⟨_, by omega, k + 1, acc ++ [(2, e.1, 0, 0)], a2, c3, rfl, (hS.sel 3 [] rfl), (by omega), (by rw [wCs_succ he, ha]; unfold wC; rw [← hy2, if_neg (by rw [hp]; decide)]), rfl⟩
  · refine WC.exit <| WC.seq <| WC.region <| WL.r 2 rfl <| WL.nil <| WC.ret ?_
    replace hS := St.exClose (f := txF x a rt xs q S) (L := Own 110 4 (ch4 acc) u d :: Own 2 1 (i64s (wks M)) a1 c2 :: cel c1 #[.map (some xm)] 186 :: L) ⟨xm, xu, xc⟩ ((hS.sel 6 [4, 3, 3, 0, 0, 0] rfl))
    replace hS := hS.n4 L (a0 := Tx x a rt xs q S) rfl
    refine ⟨[.slice u (List.length (ch4 acc)) d], rfl, ?_⟩
    replace hS := (hS.sel 4 [1, 0] rfl)
    have e9 : acc = M.map wC := (by rw [ha]; unfold wCs; rw [List.take_of_length_le (by omega)]); rw [e9] at hS ⊢; exact ⟨_, _, rfl, hS⟩
end Go.Proofs.YtbeacjcmdijdmaaGreat
/-! ## Pb -/
namespace Go.V
open Go Go.RowKit
structure SiA where
  u : Option Addr
  c : Nat
def sidF (s : Nat) (P : List Pt) (x : SiA) : List HP := [cel s #[.slice x.u (pts P).length x.c] 342, Own 345 5 (pts P) x.u x.c]
def Sid (s : Nat) (P : List Pt) : HP := ExB (sidF s P)
structure DfA where
  lb : Nat
  hb : Nat
  u : Option Addr
  c : Nat
def dfsF (b ob : Nat) (lo hi : Int) (out : List Chg) (x : DfA) : List HP := [cel b #[.func (.func 170) #[] #[.pointer (some ⟨x.lb, 0, none⟩), .pointer (some ⟨x.hb, 0, none⟩), .pointer (some ⟨ob, 0, none⟩)]] 272, cel x.lb #[.int .i64 lo] 2, cel x.hb #[.int .i64 hi] 2, cel ob #[.slice x.u (ch4 out).length x.c] 111, Own 110 4 (ch4 out) x.u x.c]
def Dfs (b ob : Nat) (lo hi : Int) (out : List Chg) : HP := ExB (dfsF b ob lo hi out)
end Go.V
/-! ## P1 -/
namespace Go.Proofs.YtbeacjcmdijdmaaGreat
open Go Go.V
set_option maxRecDepth 8192 in
theorem sd_push {g w : World} {L : List HP} (s a : Nat) (P : List Pt) (A : AM) (R : List Int) (i : Int) (t : Tr) (hA : ARf A R) (hi : Is A t i) (hl : P.length ≤ 900000000) (hS : St g (Sid s P :: Arn a A :: L) w) :
    Sp Tryz.prog 242 [.pointer (some ⟨s, 0, none⟩), .pointer (some ⟨a, 0, none⟩), .int .u32 i] w (fun v w' => v = .tuple #[] ∧ St g (Sid s (pushP P i t) :: Arn a A :: L) w') := by
  refine Sp.enter Tryz.func242 rfl (by kernel_rfl) (by kernel_rfl) ?_
  have _ := hl
  refine WC.seq <| WC.region <| WL.r 2 rfl <| WL.nil <| WC.ifP rfl (fun hne => ?_) (fun hne => ?_)
  · refine WC.plan [([0, 1, 5, 6, 7, 2, 3, 4], some (8, [0, 1, 2, 3, 4, 5])), ([], some (9, [0, 1, 2, 3, 4])), ([], some (10, [0, 1, 2, 3, 4])), ([], some (11, [0])), ([12, 13], some (14, []))] (by kernel_rfl) (by kernel_rfl) ?_
    obtain ⟨⟨su, sc⟩, hS⟩ := St.exOpen (f := sidF s P) hS
    replace hS := hS.n3 L (a0 := cel s #[.slice su (List.length (pts P)) sc] 342) (a1 := Own 345 5 (pts P) su sc) rfl
    have hpl := pts_len P
    refine WQ.run 8 [.slice su (List.length (pts P)) sc] rfl (by exact hS.ld 0 rfl rfl) ?_
    refine WQ.nil ?_
    intro m1
    replace hS := hS.drewN m1; generalize hwm1 : World.drewN _ _ = w at *; clear hwm1
    refine WL.call rfl rfl (tr_size (R := R) (i := i) (t := t) (hA := hA) (hi := hi) (hS := (hS.sel 3 [2, 0, 0] rfl))) rfl ?_
    clear hS; rintro _ w ⟨rfl, hS⟩
    replace hS := hS.n3 L rfl
    refine WL.nil ?_
    refine ⟨by exact ⟨RQ.pure rfl rfl rfl rfl, RQ.pure rfl rfl rfl rfl, RQ.pure rfl rfl rfl rfl, RQ.pure rfl rfl rfl rfl, RQ.load rfl rfl rfl rfl (hS.ld 1 rfl rfl), RQ.pure rfl rfl rfl rfl⟩, ?_⟩
    refine WQ.nil ?_
    intro m2
    replace hS := hS.drewN m2; generalize hwm2 : World.drewN _ _ = w at *; clear hwm2
    refine WL.build rfl rfl (cs := [.int .u32 i, .int .i64 (t.n : Int), .int .i64 0, .int .i64 0, .bool false]) zv_345 rfl rfl <| WL.nil ?_
    refine ⟨by exact ⟨RQ.pure rfl rfl rfl rfl, RQ.pure rfl rfl rfl rfl, RQ.pure rfl rfl rfl rfl, RQ.pure rfl rfl rfl rfl, RQ.load rfl rfl rfl rfl (hS.ld 1 rfl rfl)⟩, ?_⟩
    refine WQ.nil ?_
    intro m3
    replace hS := hS.drewN m3; generalize hwm3 : World.drewN _ _ = w at *; clear hwm3
    refine WL.lit rfl rfl (pts [Pt.sub i t]) el_340 hS (by exact ⟨rfl, rfl⟩) (pts_ok _) rfl (Nat.le_of_ble_eq_true rfl) (fun b1 w hS => ?_)
    refine WL.nil ?_
    refine ⟨by exact ⟨RQ.pure rfl rfl rfl rfl, RQ.pure rfl rfl rfl rfl, RQ.pure rfl rfl rfl rfl, RQ.pure rfl rfl rfl rfl, RQ.load rfl rfl rfl rfl (hS.ld 2 rfl rfl)⟩, ?_⟩
    refine WQ.nil ?_
    intro m4
    replace hS := hS.drewN m4; generalize hwm4 : World.drewN _ _ = w at *; clear hwm4
    refine WL.app rfl rfl 3 (pts (P ++ [Pt.sub i t])) el_340 hS rfl (hS.srcO 0 rfl) (pts_app _ _).symm (Rm.of (by first | omega | (simp <;> omega)) (by decide)) rfl rfl (fun a1 c1 w hS => ?_)
    replace hS := hS.n4 L (a0 := Own 345 5 (pts [Pt.sub i t]) (some ⟨b1, 0, none⟩) (List.length (pts [Pt.sub i t]))) (a3 := Own 345 5 (pts (P ++ [Pt.sub i t])) a1 c1) rfl
    refine WL.nil ?_
    refine ⟨by exact RQ.pure rfl rfl rfl rfl, ?_⟩
    refine WQ.r 2 rfl <| WQ.nil ?_
    intro m5
    replace hS := hS.drewN m5; generalize hwm5 : World.drewN _ _ = w at *; clear hwm5
    refine WL.st rfl rfl rfl 2 hS rfl rfl rfl rfl rfl rfl (fun w hS => ?_)
    replace hS := hS.n4 L (a2 := cel s #[.slice a1 (List.length (pts (P ++ [Pt.sub i t]))) c1] 342) rfl
    refine WL.nil ?_
    refine ⟨by exact trivial, ?_⟩
    intro m6
    replace hS := hS.drewN m6; generalize hwm6 : World.drewN _ _ = w at *; clear hwm6
    replace hS := St.exClose (f := sidF s (P ++ [Pt.sub i t])) (L := Own 345 5 (pts [Pt.sub i t]) (some ⟨b1, 0, none⟩) (List.length (pts [Pt.sub i t])) :: Arn a A :: L) ⟨a1, c1⟩ ((hS.sel 4 [2, 2, 0, 0] rfl))
    replace hS := hS.n3 L (a0 := Sid s (P ++ [Pt.sub i t])) rfl
    refine ⟨[], trivial, ?_⟩
    replace hS := (hS.sel 2 [0] rfl)
    exact ⟨rfl, by unfold pushP; first | (rw [if_neg hne]; exact hS) | (rw [if_pos (by omega)]; exact hS)⟩
  · refine WC.skip ?_
    refine ⟨[], trivial, ?_⟩
    exact ⟨rfl, by unfold pushP; first | (rw [if_neg hne]; exact hS) | (rw [if_pos (by omega)]; exact hS)⟩
set_option maxRecDepth 8192 in
theorem sd_top {g w : World} {L : List HP} (s : Nat) (P : List Pt) (hl : P.length ≤ 900000000) (hS : St g (Sid s P :: L) w) :
    Sp Tryz.prog 243 [.pointer (some ⟨s, 0, none⟩)] w (fun v w' => v = .tuple #[.agg #[.int .u32 (pI (topP P)), .int .i64 (pN (topP P)), .int .i64 (pK (topP P)), .int .i64 (pV (topP P)), .bool (pS (topP P))], .bool (topP P).isSome] ∧ St g (Sid s P :: L) w') := by
  refine Sp.enter Tryz.func243 rfl (by kernel_rfl) (by kernel_rfl) ?_
  have _ := hl
  refine WC.seq <| WC.region ?_
  obtain ⟨⟨su, sc⟩, hS⟩ := St.exOpen (f := sidF s P) hS
  replace hS : St g (cel s #[.slice su (List.length (pts P)) sc] 342 :: Own 345 5 (pts P) su sc :: L) w := hS
  have hpl := pts_len P
  refine WL.new rfl rfl zv_345 hS (fun b1 w hS => ?_)
  refine WL.r 1 rfl <| WL.nil <| WC.seq <| WC.seq <| WC.region <| WL.run 6 [.slice su (List.length (pts P)) sc] rfl (by exact hS.ld 1 rfl rfl) ?_
  refine WL.nil <| WC.ifP rfl (fun he => ?_) (fun he => ?_)
  · refine WC.seq <| WC.region <| WL.build rfl rfl (cs := [.int .u32 0, .int .i64 0, .int .i64 0, .int .i64 0, .bool false]) zv_345 rfl rfl <| WL.stF rfl rfl rfl 0 hS rfl rfl rfl rfl rfl ag_345 (fun w hS => ?_)
    replace hS := hS.n3 L (a0 := cel b1 #[.int .u32 0, .int .i64 0, .int .i64 0, .int .i64 0, .bool false] 345) rfl
    refine WL.r 1 rfl <| WL.nil <| WC.ret ?_
    replace hS := St.exClose (f := sidF s P) (L := cel b1 #[.int .u32 0, .int .i64 0, .int .i64 0, .int .i64 0, .bool false] 345 :: L) ⟨su, sc⟩ ((hS.sel 3 [1, 1, 0] rfl))
    replace hS := hS.n2 L (a0 := Sid s P) rfl
    refine ⟨[.agg #[.int .u32 0, .int .i64 0, .int .i64 0, .int .i64 0, .bool false], .bool false], ⟨⟨_, rfl, hS.lvF 1 rfl ag_345⟩, rfl⟩, ?_⟩
    replace hS := (hS.sel 2 [0] rfl)
    have hn : P = [] := List.length_eq_zero_iff.1 (by omega); subst hn; exact ⟨rfl, hS⟩
  · refine WC.skip <| WC.seq <| WC.plan [([0, 4, 1, 5, 2, 6, 3, 7, 8, 9], some (10, [])), ([], some (11, [])), ([], some (12, [])), ([13], none)] (by kernel_rfl) (by kernel_rfl) ?_
    refine WQ.run 10 [.slice su (List.length (pts P)) sc, .slice su (List.length (pts P)) sc] rfl (by exact ⟨hS.ld 1 rfl rfl, hS.ld 1 rfl rfl⟩) ?_
    refine WQ.nw 20 rfl (w64 (by omega)) ?_
    refine WQ.nil ?_
    intro m1
    replace hS := hS.drewN m1; generalize hwm1 : World.drewN _ _ = w at *; clear hwm1
    obtain ⟨x, hx⟩ : ∃ x, P[P.length - 1]? = some x := ⟨_, List.getElem?_eq_getElem (by omega)⟩; have hgl : topP P = some x := (by unfold topP; rw [List.getLast?_eq_getElem?]; exact hx)
    refine WL.ix rfl rfl (i := (List.length (pts P) : Int) - 1) (P.length - 1) el_340 rfl rfl (by omega) (by omega) (hS.rdO 2 rfl (pts_at hx)).1 ?_
    refine WL.nil ?_
    refine ⟨by exact trivial, ?_⟩
    refine WQ.nil ?_
    intro m2
    replace hS := hS.drewN m2; generalize hwm2 : World.drewN _ _ = w at *; clear hwm2
    refine WL.ldC rfl rfl [.int .u32 (pI (some x)), .int .i64 (pN (some x)), .int .i64 (pK (some x)), .int .i64 (pV (some x)), .bool (pS (some x))] ag_345 rfl (hS.rdO 2 rfl (pts_at hx)).2 <| WL.nil ?_
    refine ⟨by exact trivial, ?_⟩
    refine WQ.nil ?_
    intro m3
    replace hS := hS.drewN m3; generalize hwm3 : World.drewN _ _ = w at *; clear hwm3
    refine WL.stF rfl rfl rfl 0 hS rfl rfl rfl rfl rfl ag_345 (fun w hS => ?_)
    replace hS := hS.n3 L (a0 := cel b1 #[.int .u32 (pI (some x)), .int .i64 (pN (some x)), .int .i64 (pK (some x)), .int .i64 (pV (some x)), .bool (pS (some x))] 345) rfl
    refine WL.nil ?_
    refine ⟨by exact trivial, ?_⟩
    refine WQ.r 1 rfl <| WQ.nil ?_
    intro m4
    replace hS := hS.drewN m4; generalize hwm4 : World.drewN _ _ = w at *; clear hwm4
    as_aux_lemma =>
    refine WC.ret ?_
    replace hS := St.exClose (f := sidF s P) (L := cel b1 #[.int .u32 (pI (some x)), .int .i64 (pN (some x)), .int .i64 (pK (some x)), .int .i64 (pV (some x)), .bool (pS (some x))] 345 :: L) ⟨su, sc⟩ ((hS.sel 3 [1, 1, 0] rfl))
    replace hS := hS.n2 L (a0 := Sid s P) rfl
    refine ⟨[.agg #[.int .u32 (pI (some x)), .int .i64 (pN (some x)), .int .i64 (pK (some x)), .int .i64 (pV (some x)), .bool (pS (some x))], .bool true], ⟨⟨_, rfl, hS.lvF 1 rfl ag_345⟩, rfl⟩, ?_⟩
    replace hS := (hS.sel 2 [0] rfl)
    exact ⟨by rw [hgl]; rfl, hS⟩
set_option maxRecDepth 8192 in
theorem sd_pop {g w : World} {L : List HP} (s : Nat) (P : List Pt) (hl : P.length ≤ 900000000) (hne : P ≠ []) (hS : St g (Sid s P :: L) w) :
    Sp Tryz.prog 244 [.pointer (some ⟨s, 0, none⟩)] w (fun v w' => v = .tuple #[] ∧ St g (Sid s P.dropLast :: L) w') := by
  refine Sp.enter Tryz.func244 rfl (by kernel_rfl) (by kernel_rfl) ?_
  have _ := hl
  refine WC.plan [([0, 1, 5, 2, 6, 3, 7, 4, 8, 9, 10], some (11, [0])), ([12, 13], some (14, []))] (by kernel_rfl) (by kernel_rfl) ?_
  obtain ⟨⟨su, sc⟩, hS⟩ := St.exOpen (f := sidF s P) hS
  replace hS : St g (cel s #[.slice su (List.length (pts P)) sc] 342 :: Own 345 5 (pts P) su sc :: L) w := hS
  have hpl := pts_len P; have hpos := List.length_pos_iff.2 hne
  refine WQ.run 11 [.slice su (List.length (pts P)) sc, .slice su (List.length (pts P)) sc] rfl (by exact ⟨hS.ld 0 rfl rfl, hS.ld 0 rfl rfl⟩) ?_
  refine WQ.nw 12 rfl (w64 (by omega)) ?_
  refine WQ.nil ?_
  intro m1
  replace hS := hS.drewN m1; generalize hwm1 : World.drewN _ _ = w at *; clear hwm1
  refine WL.slOwn rfl rfl (v := (List.length (pts P) : Int) - 1) 1 (P.length - 1) (pts P.dropLast) el_340 hS rfl rfl rfl (by omega) (by omega) (by rw [List.dropLast_eq_take, pts_take]) (fun hS => ?_)
  replace hS := hS.n2 L (a1 := Own 345 5 (pts P.dropLast) su sc) rfl
  refine WL.nil ?_
  refine ⟨by exact RQ.pure rfl rfl rfl rfl, ?_⟩
  refine WQ.r 2 rfl <| WQ.nil ?_
  intro m2
  replace hS := hS.drewN m2; generalize hwm2 : World.drewN _ _ = w at *; clear hwm2
  refine WL.st rfl rfl rfl 0 hS rfl rfl rfl rfl rfl rfl (fun w hS => ?_)
  replace hS := hS.n2 L (a0 := cel s #[.slice su (List.length (pts P.dropLast)) sc] 342) rfl
  refine WL.nil ?_
  refine ⟨by exact trivial, ?_⟩
  intro m3
  replace hS := hS.drewN m3; generalize hwm3 : World.drewN _ _ = w at *; clear hwm3
  replace hS := St.exClose (f := sidF s P.dropLast) (L := L) ⟨su, sc⟩ (hS)
  replace hS : St g (Sid s P.dropLast :: L) w := hS
  refine ⟨[], trivial, ?_⟩
  exact ⟨rfl, hS⟩
set_option maxHeartbeats 1000000 in
set_option maxRecDepth 8192 in
theorem sd_exp {g w : World} {L : List HP} (s a : Nat) (P : List Pt) (A : AM) (R : List Int) (i k z : Int) (tl tr : Tr) (hA : ARf A R) (hP : (topP P) = some (.sub i (.node tl k z tr))) (hi : Is A (.node tl k z tr) i) (hl : P.length ≤ 800000000) (hS : St g (Sid s P :: Arn a A :: L) w) :
    Sp Tryz.prog 245 [.pointer (some ⟨s, 0, none⟩), .pointer (some ⟨a, 0, none⟩)] w (fun v w' => v = .tuple #[] ∧ St g (Sid s (expP P.dropLast A i k z tl tr) :: Arn a A :: L) w') := by
  refine Sp.enter Tryz.func245 rfl (by kernel_rfl) (by kernel_rfl) ?_
  have _ := hl
  refine WC.seq <| WC.region ?_
  have hne : P ≠ [] := (fun e => by subst e; cases hP); have hri := hA.okrng hi.ref; have hpI : pI (topP P) = i := (by rw [hP]; rfl); have hdl : P.dropLast.length ≤ P.length := (by rw [List.length_dropLast]; omega)
  refine WL.r 1 rfl <| WL.call rfl rfl (sd_top  (hl := (by omega)) (hS := hS)) rfl ?_
  clear hS; rintro _ w ⟨rfl, hS⟩
  replace hS := hS.n2 L rfl
  refine WL.r 3 rfl <| WL.new rfl rfl zv_345 hS (fun b1 w hS => ?_)
  refine WL.stF rfl rfl rfl 0 hS rfl rfl rfl rfl rfl ag_345 (fun w hS => ?_)
  replace hS := hS.n3 L (a0 := cel b1 #[.int .u32 (pI (topP P)), .int .i64 (pN (topP P)), .int .i64 (pK (topP P)), .int .i64 (pV (topP P)), .bool (pS (topP P))] 345) rfl
  refine WL.r 1 rfl <| WL.nil <| WC.seq <| WC.region <| WL.r 1 rfl <| WL.call rfl rfl (sd_pop  (hl := (by omega)) (hne := hne) (hS := (hS.sel 2 [1, 0] rfl))) rfl ?_
  clear hS; rintro _ w ⟨rfl, hS⟩
  replace hS := hS.n3 L (a0 := Sid s P.dropLast) rfl
  refine WL.nil <| WC.seq <| WC.region <| WL.run 3 [.int .u32 (pI (topP P))] rfl (by exact hS.ld 1 rfl rfl) ?_
  refine WL.call rfl rfl (ar_node (i := pI (topP P)) (hA := hA.toAWf) (hi := (by omega)) (hio := (by rw [hpI]; exact hi.2.1)) (hS := (hS.sel 3 [2, 0, 0] rfl))) rfl ?_
  clear hS; rintro _ w ⟨rfl, hS⟩
  replace hS := hS.n3 L rfl
  refine WL.r 3 rfl <| WL.new rfl rfl zv_172 hS (fun b2 w hS => ?_)
  refine WL.stF rfl rfl rfl 0 hS rfl rfl rfl rfl rfl ag_172 (fun w hS => ?_)
  replace hS := hS.n4 L (a0 := cel b2 #[.int .i64 (A.nd (pI (topP P))).key, .int .i64 (A.nd (pI (topP P))).val, .int .u32 (A.nd (pI (topP P))).lf, .int .u32 (A.nd (pI (topP P))).rg, .int .i64 (A.nd (pI (topP P))).size, .int .i64 (A.nd (pI (topP P))).sum, .int .i64 (A.nd (pI (topP P))).mn, .int .i64 (A.nd (pI (topP P))).mx] 172) rfl
  refine WL.r 1 rfl <| WL.nil ?_
  as_aux_lemma =>
  refine WC.seq <| WC.seq <| WC.region <| WL.r 2 rfl <| WL.nil <| WC.ifF rfl rfl <| WC.skip <| WC.seq <| WC.region ?_
  have hir : Is A tr (A.nd (pI (topP P))).rg := (by rw [hpI]; exact hi.2.2.2.2.2); have hil : Is A tl (A.nd (pI (topP P))).lf := (by rw [hpI]; exact hi.2.2.2.2.1); have hpl2 := pushP_len P.dropLast (A.nd (pI (topP P))).rg tr
  refine WL.run 4 [.int .u32 (A.nd (pI (topP P))).rg] rfl (by exact hS.ld 0 rfl rfl) ?_
  refine WL.call rfl rfl (sd_push (P := P.dropLast) (R := R) (i := (A.nd (pI (topP P))).rg) (t := tr) (hA := hA) (hi := hir) (hl := (by omega)) (hS := (hS.sel 3 [2, 1, 0] rfl))) rfl ?_
  clear hS; rintro _ w ⟨rfl, hS⟩
  replace hS := hS.n4 L (a0 := Sid s (pushP P.dropLast (A.nd (pI (topP P))).rg tr)) rfl
  refine WL.nil <| WC.seq <| WC.plan [([0, 1, 5, 7, 2, 6, 8, 3, 4], some (9, [0, 1, 2, 3, 4])), ([], some (10, [0, 1, 2, 3, 4])), ([], some (11, [0, 1, 2, 3, 4])), ([], some (12, [0])), ([13, 14], some (15, []))] (by kernel_rfl) (by kernel_rfl) ?_
  obtain ⟨⟨su, sc⟩, hS⟩ := St.exOpen (f := sidF s (pushP P.dropLast (A.nd (pI (topP P))).rg tr)) hS
  replace hS := hS.n5 L (a0 := cel s #[.slice su (List.length (pts (pushP P.dropLast (A.nd (pI (topP P))).rg tr))) sc] 342) (a1 := Own 345 5 (pts (pushP P.dropLast (A.nd (pI (topP P))).rg tr)) su sc) rfl
  have hpl3 := pts_len (pushP P.dropLast (A.nd (pI (topP P))).rg tr)
  refine WQ.run 9 [.int .i64 (A.nd (pI (topP P))).key, .int .i64 (A.nd (pI (topP P))).val, .slice su (List.length (pts (pushP P.dropLast (A.nd (pI (topP P))).rg tr))) sc] rfl (by exact ⟨hS.ld 3 rfl rfl, hS.ld 3 rfl rfl, hS.ld 0 rfl rfl⟩) ?_
  refine WQ.nil ?_
  intro m1
  replace hS := hS.drewN m1; generalize hwm1 : World.drewN _ _ = w at *; clear hwm1
  refine WL.build rfl rfl (cs := [.int .i64 (A.nd (pI (topP P))).key, .int .i64 (A.nd (pI (topP P))).val]) zv_121 rfl rfl <| WL.nil ?_
  refine ⟨by exact ⟨RQ.pure rfl rfl rfl rfl, RQ.pure rfl rfl rfl rfl, RQ.pure rfl rfl rfl rfl, RQ.pure rfl rfl rfl rfl, RQ.load rfl rfl rfl rfl (hS.ld 0 rfl rfl)⟩, ?_⟩
  refine WQ.nil ?_
  intro m2
  replace hS := hS.drewN m2; generalize hwm2 : World.drewN _ _ = w at *; clear hwm2
  refine WL.build rfl rfl (cs := [.int .u32 0, .int .i64 0, .int .i64 (A.nd (pI (topP P))).key, .int .i64 (A.nd (pI (topP P))).val, .bool true]) zv_345 rfl rfl <| WL.nil ?_
  refine ⟨by exact ⟨RQ.pure rfl rfl rfl rfl, RQ.pure rfl rfl rfl rfl, RQ.pure rfl rfl rfl rfl, RQ.pure rfl rfl rfl rfl, RQ.load rfl rfl rfl rfl (hS.ld 0 rfl rfl)⟩, ?_⟩
  refine WQ.nil ?_
  intro m3
  replace hS := hS.drewN m3; generalize hwm3 : World.drewN _ _ = w at *; clear hwm3
  refine WL.lit rfl rfl (pts [Pt.one (A.nd (pI (topP P))).key (A.nd (pI (topP P))).val]) el_340 hS (by exact ⟨rfl, rfl⟩) (pts_ok _) rfl (Nat.le_of_ble_eq_true rfl) (fun b3 w hS => ?_)
  refine WL.nil ?_
  refine ⟨by exact ⟨RQ.pure rfl rfl rfl rfl, RQ.pure rfl rfl rfl rfl, RQ.pure rfl rfl rfl rfl, RQ.pure rfl rfl rfl rfl, RQ.load rfl rfl rfl rfl (hS.ld 1 rfl rfl)⟩, ?_⟩
  refine WQ.nil ?_
  intro m4
  replace hS := hS.drewN m4; generalize hwm4 : World.drewN _ _ = w at *; clear hwm4
  refine WL.app rfl rfl 2 (pts ((pushP P.dropLast (A.nd (pI (topP P))).rg tr) ++ [Pt.one (A.nd (pI (topP P))).key (A.nd (pI (topP P))).val])) el_340 hS rfl (hS.srcO 0 rfl) (pts_app _ _).symm (Rm.of (by first | omega | (simp <;> omega)) (by decide)) rfl rfl (fun a1 c1 w hS => ?_)
  replace hS := hS.n6 L (a0 := Own 345 5 (pts [Pt.one (A.nd (pI (topP P))).key (A.nd (pI (topP P))).val]) (some ⟨b3, 0, none⟩) (List.length (pts [Pt.one (A.nd (pI (topP P))).key (A.nd (pI (topP P))).val]))) (a2 := Own 345 5 (pts ((pushP P.dropLast (A.nd (pI (topP P))).rg tr) ++ [Pt.one (A.nd (pI (topP P))).key (A.nd (pI (topP P))).val])) a1 c1) rfl
  refine WL.nil ?_
  refine ⟨by exact RQ.pure rfl rfl rfl rfl, ?_⟩
  refine WQ.r 2 rfl <| WQ.nil ?_
  intro m5
  replace hS := hS.drewN m5; generalize hwm5 : World.drewN _ _ = w at *; clear hwm5
  refine WL.st rfl rfl rfl 1 hS rfl rfl rfl rfl rfl rfl (fun w hS => ?_)
  replace hS := hS.n6 L (a1 := cel s #[.slice a1 (List.length (pts ((pushP P.dropLast (A.nd (pI (topP P))).rg tr) ++ [Pt.one (A.nd (pI (topP P))).key (A.nd (pI (topP P))).val]))) c1] 342) rfl
  refine WL.nil ?_
  refine ⟨by exact trivial, ?_⟩
  intro m6
  replace hS := hS.drewN m6; generalize hwm6 : World.drewN _ _ = w at *; clear hwm6
  as_aux_lemma =>
  refine WC.region ?_
  replace hS := St.exClose (f := sidF s (pushP P.dropLast (A.nd (pI (topP P))).rg tr ++ [Pt.one (A.nd (pI (topP P))).key (A.nd (pI (topP P))).val])) (L := Own 345 5 (pts [Pt.one (A.nd (pI (topP P))).key (A.nd (pI (topP P))).val]) (some ⟨b3, 0, none⟩) (List.length (pts [Pt.one (A.nd (pI (topP P))).key (A.nd (pI (topP P))).val])) :: Arn a A :: cel b2 #[.int .i64 (A.nd (pI (topP P))).key, .int .i64 (A.nd (pI (topP P))).val, .int .u32 (A.nd (pI (topP P))).lf, .int .u32 (A.nd (pI (topP P))).rg, .int .i64 (A.nd (pI (topP P))).size, .int .i64 (A.nd (pI (topP P))).sum, .int .i64 (A.nd (pI (topP P))).mn, .int .i64 (A.nd (pI (topP P))).mx] 172 :: cel b1 #[.int .u32 (pI (topP P)), .int .i64 (pN (topP P)), .int .i64 (pK (topP P)), .int .i64 (pV (topP P)), .bool (pS (topP P))] 345 :: L) ⟨a1, c1⟩ ((hS.sel 3 [1, 1, 0] rfl))
  replace hS := hS.n5 L (a0 := Sid s (pushP P.dropLast (A.nd (pI (topP P))).rg tr ++ [Pt.one (A.nd (pI (topP P))).key (A.nd (pI (topP P))).val])) rfl
  refine WL.run 4 [.int .u32 (A.nd (pI (topP P))).lf] rfl (by exact hS.ld 3 rfl rfl) ?_
  refine WL.call rfl rfl (sd_push (P := pushP P.dropLast (A.nd (pI (topP P))).rg tr ++ [Pt.one (A.nd (pI (topP P))).key (A.nd (pI (topP P))).val]) (R := R) (i := (A.nd (pI (topP P))).lf) (t := tl) (hA := hA) (hi := hil) (hl := (by simp; omega)) (hS := (hS.sel 3 [0, 1, 0] rfl))) rfl ?_
  clear hS; rintro _ w ⟨rfl, hS⟩
  replace hS := hS.n5 L (a0 := Sid s (pushP (pushP P.dropLast (A.nd (pI (topP P))).rg tr ++ [Pt.one (A.nd (pI (topP P))).key (A.nd (pI (topP P))).val]) (A.nd (pI (topP P))).lf tl)) rfl
  refine WL.nil ?_
  refine ⟨[], trivial, ?_⟩
  replace hS := (hS.sel 5 [0, 0] rfl)
  exact ⟨rfl, by unfold expP; rw [hpI, hi.2.2.1, hi.2.2.2.1] at hS; exact hS⟩
end Go.Proofs.YtbeacjcmdijdmaaGreat
/-! ## P2 -/
namespace Go.Proofs.YtbeacjcmdijdmaaGreat
open Go Go.V
set_option maxRecDepth 8192 in
theorem df_visit {g w : World} {L : List HP} (lb hb ob : Nat) (lo hi x y z q : Int) (out : List Chg) (u : Option Addr) (d : Nat) (hl : out.length ≤ 900000000) (hS : St g (cel lb #[.int .i64 lo] 2 :: cel hb #[.int .i64 hi] 2 :: cel ob #[.slice u (List.length (ch4 out)) d] 111 :: Own 110 4 (ch4 out) u d :: L) w) :
    Sp Tryz.prog 170 [.agg #[.int .i64 x, .int .i64 y, .int .i64 z, .int .i64 q], .pointer (some ⟨lb, 0, none⟩), .pointer (some ⟨hb, 0, none⟩), .pointer (some ⟨ob, 0, none⟩)] w (fun v w' => ∃ (a2 : Option Addr) (c2 : Nat), v = .bool (decide (y < hi)) ∧ St g (cel lb #[.int .i64 lo] 2 :: cel hb #[.int .i64 hi] 2 :: cel ob #[.slice a2 (List.length (ch4 (out ++ oneR lo hi (some (x, y, z, q))))) c2] 111 :: Own 110 4 (ch4 (out ++ oneR lo hi (some (x, y, z, q)))) a2 c2 :: L) w') := by
  refine Sp.enter Tryz.func170 rfl (by kernel_rfl) (by kernel_rfl) ?_
  have _ := hl
  refine WC.seq <| WC.region ?_
  have hol := ch4_len out
  refine WL.box rfl rfl #[.int .i64 x, .int .i64 y, .int .i64 z, .int .i64 q] hS rfl rfl (fun b1 w hS => ?_)
  refine WL.r 1 rfl <| WL.nil <| WC.seq <| WC.seq <| WC.region <| WL.run 4 [.int .i64 y, .int .i64 lo] rfl (by exact ⟨hS.ld 0 rfl rfl, hS.ld 1 rfl rfl⟩) ?_
  refine WL.runG 6 [.int .i64 y, .int .i64 hi] rfl (by exact ⟨fun _ => hS.ld 0 rfl rfl, fun _ => hS.ld 2 rfl rfl⟩) (fun j => ?_)
  refine WL.prop 15 rfl (band (dd _) (dd _)) <| WL.nil <| WC.ifP rfl (fun hc => ?_) (fun hc => ?_)
  · refine WC.region <| WL.run 1 [.slice u (List.length (ch4 out)) d] rfl (by exact hS.ld 3 rfl rfl) ?_
    refine WL.ldF rfl rfl 0 hS rfl rfl ag_110 <| WL.lit rfl rfl (ch4 [(x, y, z, q)]) el_111 hS (by exact ⟨rfl, rfl⟩) (ch4_ok _) rfl (Nat.le_of_ble_eq_true rfl) (fun b2 w hS => ?_)
    refine WL.app rfl rfl 5 (ch4 (out ++ [(x, y, z, q)])) el_111 hS rfl (hS.srcO 0 rfl) (ch4_app _ _).symm (Rm.of (by first | omega | (simp <;> omega)) (by decide)) rfl rfl (fun a1 c1 w hS => ?_)
    replace hS := hS.n6 L (a0 := Own 110 4 (ch4 [(x, y, z, q)]) (some ⟨b2, 0, none⟩) (List.length (ch4 [(x, y, z, q)]))) (a1 := cel b1 #[.int .i64 x, .int .i64 y, .int .i64 z, .int .i64 q] 110) (a5 := Own 110 4 (ch4 (out ++ [(x, y, z, q)])) a1 c1) rfl
    refine WL.st rfl rfl rfl 4 hS rfl rfl rfl rfl rfl rfl (fun w hS => ?_)
    replace hS := hS.n6 L (a4 := cel ob #[.slice a1 (List.length (ch4 (out ++ [(x, y, z, q)]))) c1] 111) rfl
    refine WL.nil <| WC.seq <| WC.region <| WL.run 5 [.int .i64 y, .int .i64 hi] rfl (by exact ⟨hS.ld 1 rfl rfl, hS.ld 3 rfl rfl⟩) ?_
    refine WL.nil ?_
    as_aux_lemma =>
    refine WC.ret ?_
    refine ⟨[.bool (decide (y < hi))], rfl, ?_⟩
    replace hS := (hS.sel 2 [] rfl)
    have e9 : oneR lo hi (some (x, y, z, q)) = [(x, y, z, q)] := if_pos hc; rw [e9]; exact ⟨_, _, rfl, hS⟩
  · refine WC.skip <| WC.seq <| WC.region <| WL.run 5 [.int .i64 y, .int .i64 hi] rfl (by exact ⟨hS.ld 0 rfl rfl, hS.ld 2 rfl rfl⟩) ?_
    refine WL.nil <| WC.ret ?_
    refine ⟨[.bool (decide (y < hi))], rfl, ?_⟩
    replace hS := (hS.sel 1 [] rfl)
    have e9 : oneR lo hi (some (x, y, z, q)) = [] := if_neg hc; rw [e9, List.append_nil]; exact ⟨_, _, rfl, hS⟩
set_option maxRecDepth 8192 in
theorem df_each2 {g w : World} {L : List HP} (vb ob : Nat) (lo hi k z q : Int) (out : List Chg) (il ir ml mr : Bool) (hl : out.length ≤ 900000000) (hS : St g (Dfs vb ob lo hi out :: L) w) :
    Sp Tryz.prog 207 [.agg #[.int .i64 k, .int .i64 z, .int .i64 q, .bool il, .bool ir, .bool ml, .bool mr], .pointer (some ⟨vb, 0, none⟩)] w (fun v w' => v = .bool (goOn hi (pChg k z q il ir)) ∧ St g (Dfs vb ob lo hi (out ++ oneR lo hi (pChg k z q il ir)) :: L) w') := by
  refine Sp.enter Tryz.func207 rfl (by kernel_rfl) (by kernel_rfl) ?_
  have _ := hl
  refine WC.seq <| WC.region ?_
  obtain ⟨⟨xl, xh, xu, xc⟩, hS⟩ := St.exOpen (f := dfsF vb ob lo hi out) hS
  replace hS : St g (cel vb #[.func (.func 170) #[] #[.pointer (some ⟨xl, 0, none⟩), .pointer (some ⟨xh, 0, none⟩), .pointer (some ⟨ob, 0, none⟩)]] 272 :: cel xl #[.int .i64 lo] 2 :: cel xh #[.int .i64 hi] 2 :: cel ob #[.slice xu (List.length (ch4 out)) xc] 111 :: Own 110 4 (ch4 out) xu xc :: L) w := hS
  refine WL.box rfl rfl #[.int .i64 k, .int .i64 z, .int .i64 q, .bool il, .bool ir, .bool ml, .bool mr] hS rfl rfl (fun b1 w hS => ?_)
  refine WL.r 1 rfl <| WL.nil <| WC.seq <| WC.block <| WC.seq <| WC.region <| WL.run 3 [.bool il] rfl (by exact hS.ld 0 rfl rfl) ?_
  refine WL.r 1 rfl <| WL.nil <| WC.if_ rfl (fun hil => ?_) (fun hil => ?_)
  · refine WC.seq <| WC.region ?_
    have hch : pChg k z q il ir = some (1, k, 0, q) := if_pos (by simpa using hil)
    refine WL.run 5 [.func (.func 170) #[] #[.pointer (some ⟨xl, 0, none⟩), .pointer (some ⟨xh, 0, none⟩), .pointer (some ⟨ob, 0, none⟩)], .int .i64 k, .int .i64 q] rfl (by exact ⟨hS.ld 1 rfl rfl, hS.ld 0 rfl rfl, hS.ld 0 rfl rfl⟩) ?_
    refine WL.build rfl rfl (cs := [.int .i64 1, .int .i64 k, .int .i64 0, .int .i64 q]) zv_110 rfl rfl <| WL.callV (bs := [.pointer (some ⟨xl, 0, none⟩), .pointer (some ⟨xh, 0, none⟩), .pointer (some ⟨ob, 0, none⟩)]) rfl rfl rfl (df_visit (lo := lo) (hi := hi) (x := 1) (y := k) (z := 0) (q := q) (hl := (by omega)) (hS := (hS.sel 6 [2, 2, 2, 2, 0, 0] rfl))) rfl ?_
    clear hS; rintro _ w ⟨a1, c1, rfl, hS⟩
    replace hS := hS.n6 L (a2 := cel ob #[.slice a1 (List.length (ch4 (out ++ oneR lo hi (some (1, k, 0, q))))) c1] 111) (a3 := Own 110 4 (ch4 (out ++ oneR lo hi (some (1, k, 0, q)))) a1 c1) (a4 := cel b1 #[.int .i64 k, .int .i64 z, .int .i64 q, .bool il, .bool ir, .bool ml, .bool mr] 312) rfl
    refine WL.r 1 rfl <| WL.nil ?_
    as_aux_lemma =>
    refine WC.ret ?_
    replace hS := St.exClose (f := dfsF vb ob lo hi (out ++ oneR lo hi (some (1, k, 0, q)))) (L := cel b1 #[.int .i64 k, .int .i64 z, .int .i64 q, .bool il, .bool ir, .bool ml, .bool mr] 312 :: L) ⟨xl, xh, a1, c1⟩ ((hS.sel 6 [5, 0, 0, 0, 0, 0] rfl))
    replace hS := hS.n2 L (a0 := Dfs vb ob lo hi (out ++ oneR lo hi (some (1, k, 0, q)))) rfl
    refine ⟨[.bool (decide (k < hi))], rfl, ?_⟩
    replace hS := (hS.sel 2 [0] rfl)
    exact ⟨by rw [hch]; rfl, by rw [hch]; exact hS⟩
  · refine WC.seq <| WC.region <| WL.run 3 [.bool ir] rfl (by exact hS.ld 0 rfl rfl) ?_
    refine WL.r 1 rfl <| WL.nil <| WC.if_ rfl (fun hir => ?_) (fun hir => ?_)
    · refine WC.seq <| WC.region ?_
      have hch : pChg k z q il ir = some (2, k, z, 0) := (by unfold pChg; rw [if_neg (by simpa using hil), if_pos (by simpa using hir)])
      refine WL.run 5 [.func (.func 170) #[] #[.pointer (some ⟨xl, 0, none⟩), .pointer (some ⟨xh, 0, none⟩), .pointer (some ⟨ob, 0, none⟩)], .int .i64 k, .int .i64 z] rfl (by exact ⟨hS.ld 1 rfl rfl, hS.ld 0 rfl rfl, hS.ld 0 rfl rfl⟩) ?_
      refine WL.build rfl rfl (cs := [.int .i64 2, .int .i64 k, .int .i64 z, .int .i64 0]) zv_110 rfl rfl <| WL.callV (bs := [.pointer (some ⟨xl, 0, none⟩), .pointer (some ⟨xh, 0, none⟩), .pointer (some ⟨ob, 0, none⟩)]) rfl rfl rfl (df_visit (lo := lo) (hi := hi) (x := 2) (y := k) (z := z) (q := 0) (hl := (by omega)) (hS := (hS.sel 6 [2, 2, 2, 2, 0, 0] rfl))) rfl ?_
      clear hS; rintro _ w ⟨a1, c1, rfl, hS⟩
      replace hS := hS.n6 L (a2 := cel ob #[.slice a1 (List.length (ch4 (out ++ oneR lo hi (some (2, k, z, 0))))) c1] 111) (a3 := Own 110 4 (ch4 (out ++ oneR lo hi (some (2, k, z, 0)))) a1 c1) (a4 := cel b1 #[.int .i64 k, .int .i64 z, .int .i64 q, .bool il, .bool ir, .bool ml, .bool mr] 312) rfl
      refine WL.r 1 rfl <| WL.nil ?_
      as_aux_lemma =>
      refine WC.ret ?_
      replace hS := St.exClose (f := dfsF vb ob lo hi (out ++ oneR lo hi (some (2, k, z, 0)))) (L := cel b1 #[.int .i64 k, .int .i64 z, .int .i64 q, .bool il, .bool ir, .bool ml, .bool mr] 312 :: L) ⟨xl, xh, a1, c1⟩ ((hS.sel 6 [5, 0, 0, 0, 0, 0] rfl))
      replace hS := hS.n2 L (a0 := Dfs vb ob lo hi (out ++ oneR lo hi (some (2, k, z, 0)))) rfl
      refine ⟨[.bool (decide (k < hi))], rfl, ?_⟩
      replace hS := (hS.sel 2 [0] rfl)
      exact ⟨by rw [hch]; rfl, by rw [hch]; exact hS⟩
    · refine WC.seq <| WC.region <| WL.run 6 [.int .i64 z, .int .i64 q] rfl (by exact ⟨hS.ld 0 rfl rfl, hS.ld 0 rfl rfl⟩) ?_
      refine WL.nil ?_
      as_aux_lemma =>
      refine WC.ifP rfl (fun hvw => ?_) (fun hvw => ?_)
      · refine WC.seq <| WC.region ?_
        have hch : pChg k z q il ir = some (3, k, z, q) := (by unfold pChg; rw [if_neg (by simpa using hil), if_neg (by simpa using hir), if_pos hvw])
        refine WL.run 7 [.func (.func 170) #[] #[.pointer (some ⟨xl, 0, none⟩), .pointer (some ⟨xh, 0, none⟩), .pointer (some ⟨ob, 0, none⟩)], .int .i64 k, .int .i64 z, .int .i64 q] rfl (by exact ⟨hS.ld 1 rfl rfl, hS.ld 0 rfl rfl, hS.ld 0 rfl rfl, hS.ld 0 rfl rfl⟩) ?_
        refine WL.build rfl rfl (cs := [.int .i64 3, .int .i64 k, .int .i64 z, .int .i64 q]) zv_110 rfl rfl <| WL.callV (bs := [.pointer (some ⟨xl, 0, none⟩), .pointer (some ⟨xh, 0, none⟩), .pointer (some ⟨ob, 0, none⟩)]) rfl rfl rfl (df_visit (lo := lo) (hi := hi) (x := 3) (y := k) (z := z) (q := q) (hl := (by omega)) (hS := (hS.sel 6 [2, 2, 2, 2, 0, 0] rfl))) rfl ?_
        clear hS; rintro _ w ⟨a1, c1, rfl, hS⟩
        replace hS := hS.n6 L (a2 := cel ob #[.slice a1 (List.length (ch4 (out ++ oneR lo hi (some (3, k, z, q))))) c1] 111) (a3 := Own 110 4 (ch4 (out ++ oneR lo hi (some (3, k, z, q)))) a1 c1) (a4 := cel b1 #[.int .i64 k, .int .i64 z, .int .i64 q, .bool il, .bool ir, .bool ml, .bool mr] 312) rfl
        refine WL.r 1 rfl <| WL.nil <| WC.ret ?_
        replace hS := St.exClose (f := dfsF vb ob lo hi (out ++ oneR lo hi (some (3, k, z, q)))) (L := cel b1 #[.int .i64 k, .int .i64 z, .int .i64 q, .bool il, .bool ir, .bool ml, .bool mr] 312 :: L) ⟨xl, xh, a1, c1⟩ ((hS.sel 6 [5, 0, 0, 0, 0, 0] rfl))
        replace hS := hS.n2 L (a0 := Dfs vb ob lo hi (out ++ oneR lo hi (some (3, k, z, q)))) rfl
        refine ⟨[.bool (decide (k < hi))], rfl, ?_⟩
        replace hS := (hS.sel 2 [0] rfl)
        exact ⟨by rw [hch]; rfl, by rw [hch]; exact hS⟩
      · refine WC.skip <| WC.seq <| WC.region ?_
        have hch : pChg k z q il ir = none := (by unfold pChg; rw [if_neg (by simpa using hil), if_neg (by simpa using hir), if_neg hvw])
        refine WL.r 1 rfl <| WL.nil <| WC.ret ?_
        replace hS := St.exClose (f := dfsF vb ob lo hi out) (L := cel b1 #[.int .i64 k, .int .i64 z, .int .i64 q, .bool il, .bool ir, .bool ml, .bool mr] 312 :: L) ⟨xl, xh, xu, xc⟩ ((hS.sel 6 [1, 1, 1, 1, 1, 0] rfl))
        replace hS : St g (Dfs vb ob lo hi out :: cel b1 #[.int .i64 k, .int .i64 z, .int .i64 q, .bool il, .bool ir, .bool ml, .bool mr] 312 :: L) w := hS
        refine ⟨[.bool true], rfl, ?_⟩
        replace hS := (hS.sel 2 [0] rfl)
        exact ⟨by rw [hch]; rfl, by rw [hch]; exact (by simpa [oneR] using hS)⟩
theorem kEq {a b : Prop} {x y : Int} (h : a ∧ (¬ b ∨ x ≤ y)) (k : b ∧ (¬ a ∨ y ≤ x)) : x = y := by
  have h1 := h.2.resolve_left (fun n => n k.1)
  have h2 := k.2.resolve_left (fun n => n h.1)
  omega
theorem kR {a b : Prop} {x y : Int} (k : ¬ (b ∧ (¬ a ∨ y ≤ x))) (hb : b) : x < y := Int.not_le.1 fun h => k ⟨hb, .inr h⟩
theorem kL {a b : Prop} {x y : Int} (h : ¬ (a ∧ (¬ b ∨ x ≤ y))) (ha : a) : y < x := Int.not_le.1 fun k => h ⟨ha, .inr k⟩
theorem kNo {a b : Bool} {x y : Int} (h : ¬ (a = true ∧ (¬ b = true ∨ x ≤ y))) (k : ¬ (b = true ∧ (¬ a = true ∨ y ≤ x))) (o : a = false → b = true) : False := by
  cases ha : a with
  | false => exact k ⟨o ha, .inl (by rw [ha]; decide)⟩
  | true =>
    cases hb : b with
    | false => exact h ⟨ha, .inl (by rw [hb]; decide)⟩
    | true =>
      have := kL h ha
      exact k ⟨hb, .inr (Int.le_of_lt this)⟩
theorem b_none {a b : Bool} (h : (bif (!a) then (!b) else false) = true) : a = false ∧ b = false := by
  cases a <;> cases b <;> simp_all
set_option maxRecDepth 8192 in
theorem df_skip {g w : World} {L : List HP} (hS : St g (L) w) :
    Sp Tryz.prog 205 [] w (fun v w' => v = .bool true ∧ St g (L) w') := by
  refine Sp.enter Tryz.func205 rfl (by kernel_rfl) (by kernel_rfl) ?_
  refine WC.seq <| WC.region <| WL.r 1 rfl <| WL.nil <| WC.seq <| WC.region <| WL.r 1 rfl <| WL.nil <| WC.ret ?_
  refine ⟨[.bool true], rfl, ?_⟩
  exact ⟨rfl, hS⟩
set_option maxHeartbeats 2000000 in
set_option maxRecDepth 8192 in
theorem tw_pairs {g w : World} {L : List HP} (a : Nat) (A : AM) (R : List Int) (x y lo hi : Int) (vb ob : Nat) (tx ty : Tr) (hA : ARf A R) (hx : Is A tx x) (hy : Is A ty y) (hsx : Srt tx.ls) (hsy : Srt ty.ls) (hl : tx.n + ty.n ≤ 100000000) (hS : St g (Arn a A :: Dfs vb ob lo hi [] :: L) w) :
    Sp Tryz.prog 206 [.pointer (some ⟨a, 0, none⟩), .int .u32 x, .int .u32 y, .func (.func 205) #[] #[], .func (.func 207) #[] #[.pointer (some ⟨vb, 0, none⟩)]] w (fun v w' => v = .tuple #[] ∧ St g (Arn a A :: Dfs vb ob lo hi (inR lo hi (dif tx.ls ty.ls)) :: L) w') := by
  refine Sp.enter Tryz.func206 rfl (by kernel_rfl) (by kernel_rfl) ?_
  have _ := hl
  refine WC.seq <| WC.region ?_
  replace hS : St g (Own 345 5 (pts []) none 0 :: Own 345 5 (pts []) none 0 :: Arn a A :: Dfs vb ob lo hi [] :: L) w := (hS.nil_ 345 5).nil_ 345 5
  refine WL.new rfl rfl zv_342 hS (fun b1 w hS => ?_)
  refine WL.new rfl rfl zv_342 hS (fun b2 w hS => ?_)
  refine WL.nil <| WC.seq <| WC.region ?_
  replace hS := St.exClose (f := sidF b1 []) (L := cel b2 #[.slice none 0 0] 342 :: Own 345 5 (pts []) none 0 :: Arn a A :: Dfs vb ob lo hi [] :: L) ⟨none, 0⟩ ((hS.sel 3 [1, 1, 0] rfl))
  replace hS := hS.n5 L (a0 := Sid b1 []) (a1 := cel b2 #[.slice none 0 0] 342) (a2 := Own 345 5 (pts []) none 0) rfl
  replace hS := St.exClose (f := sidF b2 []) (L := Sid b1 [] :: Arn a A :: Dfs vb ob lo hi [] :: L) ⟨none, 0⟩ ((hS.sel 3 [1, 1, 0] rfl))
  replace hS := hS.n4 L (a0 := Sid b2 []) rfl
  refine WL.r 2 rfl <| WL.call rfl rfl (sd_push (P := []) (R := R) (i := x) (t := tx) (hA := hA) (hi := hx) (hl := (by simp)) (hS := (hS.sel 3 [1, 1, 0] rfl))) rfl ?_
  clear hS; rintro _ w ⟨rfl, hS⟩
  replace hS := hS.n4 L (a0 := Sid b1 (pushP [] x tx)) rfl
  refine WL.nil <| WC.seq <| WC.region <| WL.r 2 rfl <| WL.call rfl rfl (sd_push (P := []) (R := R) (i := y) (t := ty) (hA := hA) (hi := hy) (hl := (by simp)) (hS := (hS.sel 3 [2, 1, 0] rfl))) rfl ?_
  clear hS; rintro _ w ⟨rfl, hS⟩
  replace hS := hS.n4 L (a0 := Sid b2 (pushP [] y ty)) rfl
  refine WL.nil ?_
  as_aux_lemma =>
  refine WC.block <| WC.loop [0, 3, 4, 10, 11] (fun kM vs w => ∃ (PL PR : List Pt) (out : List Chg), vs = [.pointer (some ⟨a, 0, none⟩), .func (.func 205) #[] #[], .func (.func 207) #[] #[.pointer (some ⟨vb, 0, none⟩)], .pointer (some ⟨b1, 0, none⟩), .pointer (some ⟨b2, 0, none⟩)] ∧ St g (Sid b2 PR :: Arn a A :: Sid b1 PL :: Dfs vb ob lo hi out :: L) w ∧ (Pv A lo hi (inR lo hi (dif tx.ls ty.ls)) (3 * (tx.n + ty.n)) PL PR out) ∧ (wgt PL + wgt PR) = kM) (wgt (pushP [] x tx) + wgt (pushP [] y ty)) ⟨pushP [] x tx, pushP [] y ty, [], rfl, hS, (⟨pushP_ok ⟨fun _ h => by cases h⟩ hx, pushP_ok ⟨fun _ h => by cases h⟩ hy, by rw [pushP_rem hx]; simpa [rem] using hsx, by rw [pushP_rem hy]; simpa [rem] using hsy, by rw [pushP_rem hx, pushP_rem hy]; simp [rem], by rw [pushP_wgt hx, pushP_wgt hy]; simp [wgt]; omega⟩), rfl⟩ ?_
  clear hS; rintro _ _ w j ⟨PL, PR, out, rfl, hS, hP, rfl⟩
  refine WC.block <| WC.seq <| WC.region ?_
  have hlL := wgt_len hP.oL; have hlR := wgt_len hP.oR; have hpw := hP.w
  refine WL.call rfl rfl (sd_top  (hl := (by omega)) (hS := (hS.sel 3 [2, 0, 0] rfl))) rfl ?_
  clear hS; rintro _ w ⟨rfl, hS⟩
  replace hS := hS.n4 L rfl
  refine WL.r 3 rfl <| WL.new rfl rfl zv_345 hS (fun b3 w hS => ?_)
  refine WL.stF rfl rfl rfl 0 hS rfl rfl rfl rfl rfl ag_345 (fun w hS => ?_)
  replace hS := hS.n5 L (a0 := cel b3 #[.int .u32 (pI (topP PL)), .int .i64 (pN (topP PL)), .int .i64 (pK (topP PL)), .int .i64 (pV (topP PL)), .bool (pS (topP PL))] 345) rfl
  refine WL.r 1 rfl <| WL.nil <| WC.seq <| WC.region <| WL.call rfl rfl (sd_top  (hl := (by omega)) (hS := (hS.sel 3 [2, 0, 0] rfl))) rfl ?_
  clear hS; rintro _ w ⟨rfl, hS⟩
  replace hS := hS.n5 L rfl
  refine WL.r 3 rfl <| WL.new rfl rfl zv_345 hS (fun b4 w hS => ?_)
  refine WL.stF rfl rfl rfl 0 hS rfl rfl rfl rfl rfl ag_345 (fun w hS => ?_)
  replace hS := hS.n6 L (a0 := cel b4 #[.int .u32 (pI (topP PR)), .int .i64 (pN (topP PR)), .int .i64 (pK (topP PR)), .int .i64 (pV (topP PR)), .bool (pS (topP PR))] 345) rfl
  refine WL.r 1 rfl <| WL.nil ?_
  as_aux_lemma =>
  refine WC.block <| WC.seq <| WC.region <| WL.r 2 rfl <| WL.rG 5 rfl (fun j => ?_)
  refine WL.prop 96 rfl (band (bnot (dv _)) (bnot (dv _))) <| WL.nil <| WC.if_ rfl (fun cd1 => ?_) (fun cd1 => ?_)
  · refine WC.ret ?_
    refine ⟨[], trivial, ?_⟩
    replace hS := (hS.sel 4 [] rfl)
    obtain ⟨n1, n2⟩ := b_none cd1; have m1 := top_none n1; have m2 := top_none n2; subst m1; subst m2; rw [hP.done] at hS; exact ⟨rfl, hS⟩
  · refine WC.seq <| WC.region <| WL.r 1 rfl <| WL.runG 21 [.bool (pS (topP PL)), .bool (pS (topP PR)), .int .u32 (pI (topP PL)), .int .u32 (pI (topP PR))] rfl (by exact ⟨fun _ => hS.ld 2 rfl rfl, fun _ => hS.ld 0 rfl rfl, fun _ => hS.ld 2 rfl rfl, fun _ => hS.ld 0 rfl rfl⟩) (fun j => ?_)
    refine WL.prop 118 rfl (band (band (band (band (dv _) (dv _)) (bnot (dv _))) (bnot (dv _))) (dd _)) <| WL.nil <| WC.if_ rfl (fun cd2 => ?_) (fun cd2 => ?_)
    · refine WC.seq <| WC.region ?_
      obtain ⟨q1, q2, q3, q4, q5⟩ := b_both cd2; obtain ⟨i0, t0, ht⟩ := top_sub q1 q3; obtain ⟨j0, u0, hu⟩ := top_sub q2 q4; have hij : i0 = j0 := (by rw [ht, hu] at q5; exact q5); subst hij; obtain ⟨hb1, hb2⟩ := hP.both ht hu
      refine WL.call rfl rfl (sd_pop  (hl := (by omega)) (hne := top_ne q1) (hS := (hS.sel 4 [3, 0, 0, 0] rfl))) rfl ?_
      clear hS; rintro _ w ⟨rfl, hS⟩
      replace hS := hS.n6 L (a0 := Sid b1 PL.dropLast) rfl
      refine WL.nil <| WC.seq <| WC.region <| WL.call rfl rfl (sd_pop  (hl := (by omega)) (hne := top_ne q2) (hS := (hS.sel 3 [2, 0, 0] rfl))) rfl ?_
      clear hS; rintro _ w ⟨rfl, hS⟩
      replace hS := hS.n6 L (a0 := Sid b2 PR.dropLast) rfl
      refine WL.nil ?_
      as_aux_lemma =>
      refine WC.seq <| WC.region <| WL.r 1 rfl <| WL.callV (bs := []) rfl rfl rfl (df_skip   (hS := hS)) rfl ?_
      clear hS; rintro _ w ⟨rfl, hS⟩
      replace hS := hS.n6 L rfl
      refine WL.r 1 rfl <| WL.nil <| WC.ifF rfl rfl <| WC.skip ?_
      exact ⟨_, (by first | omega | exact (hP.vLR cd5.1 (o1 cd5.1) cd6.1 (o2 cd6.1) (kEq cd5 cd6) rfl rfl rfl).2.1 | exact (hP.vL (w := 0) cd5.1 (o1 cd5.1) (fun hb => ⟨o2 hb, kR cd6 hb⟩) rfl rfl).2.1 | exact (hP.vR (v := 0) cd6.1 (o2 cd6.1) (fun ha => ⟨o1 ha, kL cd5 ha⟩) rfl rfl).2.1 | exact (kNo cd5 cd6 o3).elim), PL.dropLast, PR.dropLast, out, rfl, (hS.sel 5 [0, 3, 0] rfl), (hb1), rfl⟩
    · refine WC.seq <| WC.region <| WL.r 1 rfl <| WL.runG 21 [.bool (pS (topP PL)), .bool (pS (topP PR)), .int .i64 (pN (topP PL)), .int .i64 (pN (topP PR))] rfl (by exact ⟨fun _ => hS.ld 2 rfl rfl, fun _ => hS.ld 0 rfl rfl, fun _ => hS.ld 2 rfl rfl, fun _ => hS.ld 0 rfl rfl⟩) (fun j => ?_)
      refine WL.prop 145 rfl (band (band (dv _) (bnot (dv _))) (bor (bor (bnot (dv _)) (dv _)) (dd _))) <| WL.nil <| WC.if_ rfl (fun cd3 => ?_) (fun cd3 => ?_)
      · refine WC.region ?_
        obtain ⟨q1, q2⟩ := b_left cd3; obtain ⟨i0, t0, ht⟩ := top_sub q1 q2; obtain ⟨k0, z0, tl0, tr0, ht2, hi0, hp2, hw2⟩ := hP.expL ht
        refine WL.r 1 rfl <| WL.call rfl rfl (sd_exp (R := R) (i := i0) (k := k0) (z := z0) (tl := tl0) (tr := tr0) (hA := hA) (hP := ht2) (hi := hi0) (hl := (by omega)) (hS := (hS.sel 5 [3, 3, 0, 0, 0] rfl))) rfl ?_
        clear hS; rintro _ w ⟨rfl, hS⟩
        replace hS := hS.n6 L (a0 := Sid b1 (expP PL.dropLast A i0 k0 z0 tl0 tr0)) rfl
        refine WL.nil ?_
        exact ⟨_, (by first | omega | exact (hP.vLR cd5.1 (o1 cd5.1) cd6.1 (o2 cd6.1) (kEq cd5 cd6) rfl rfl rfl).2.1 | exact (hP.vL (w := 0) cd5.1 (o1 cd5.1) (fun hb => ⟨o2 hb, kR cd6 hb⟩) rfl rfl).2.1 | exact (hP.vR (v := 0) cd6.1 (o2 cd6.1) (fun ha => ⟨o1 ha, kL cd5 ha⟩) rfl rfl).2.1 | exact (kNo cd5 cd6 o3).elim), expP PL.dropLast A i0 k0 z0 tl0 tr0, PR, out, rfl, (hS.sel 5 [3, 1, 0] rfl), (hp2), rfl⟩
      · refine WC.seq <| WC.region <| WL.r 1 rfl <| WL.runG 6 [.bool (pS (topP PR))] rfl (by exact (fun _ => hS.ld 0 rfl rfl)) (fun j => ?_)
        refine WL.prop 154 rfl (band (dv _) (bnot (dv _))) <| WL.nil ?_
        as_aux_lemma =>
        refine WC.if_ rfl (fun cd4 => ?_) (fun cd4 => ?_)
        · refine WC.region ?_
          obtain ⟨q1, q2⟩ := b_right cd4; obtain ⟨i0, t0, ht⟩ := top_sub q1 q2; obtain ⟨k0, z0, tl0, tr0, ht2, hi0, hp2, hw2⟩ := hP.expR ht
          refine WL.r 1 rfl <| WL.call rfl rfl (sd_exp (R := R) (i := i0) (k := k0) (z := z0) (tl := tl0) (tr := tr0) (hA := hA) (hP := ht2) (hi := hi0) (hl := (by omega)) (hS := (hS.sel 5 [1, 3, 0, 0, 0] rfl))) rfl ?_
          clear hS; rintro _ w ⟨rfl, hS⟩
          replace hS := hS.n6 L (a0 := Sid b2 (expP PR.dropLast A i0 k0 z0 tl0 tr0)) rfl
          refine WL.nil ?_
          exact ⟨_, (by first | omega | exact (hP.vLR cd5.1 (o1 cd5.1) cd6.1 (o2 cd6.1) (kEq cd5 cd6) rfl rfl rfl).2.1 | exact (hP.vL (w := 0) cd5.1 (o1 cd5.1) (fun hb => ⟨o2 hb, kR cd6 hb⟩) rfl rfl).2.1 | exact (hP.vR (v := 0) cd6.1 (o2 cd6.1) (fun ha => ⟨o1 ha, kL cd5 ha⟩) rfl rfl).2.1 | exact (kNo cd5 cd6 o3).elim), PL, expP PR.dropLast A i0 k0 z0 tl0 tr0, out, rfl, (hS.sel 4 [0, 0] rfl), (hp2), rfl⟩
        · refine WC.seq <| WC.region ?_
          obtain ⟨o1, o2, o3⟩ := b_ones cd1 cd3 cd4
          refine WL.r 2 rfl <| WL.build rfl rfl (cs := [.int .i64 0, .int .i64 0, .int .i64 0, .bool false, .bool false, .bool (topP PL).isSome, .bool (topP PR).isSome]) zv_312 rfl rfl <| WL.new rfl rfl zv_312 hS (fun b5 w hS => ?_)
          refine WL.stF rfl rfl rfl 0 hS rfl rfl rfl rfl rfl ag_312 (fun w hS => ?_)
          replace hS := hS.n7 L (a0 := cel b5 #[.int .i64 0, .int .i64 0, .int .i64 0, .bool false, .bool false, .bool (topP PL).isSome, .bool (topP PR).isSome] 312) rfl
          refine WL.nil <| WC.seq <| WC.region <| WL.r 1 rfl <| WL.runG 14 [.int .i64 (pK (topP PL)), .int .i64 (pK (topP PR))] rfl (by exact ⟨fun _ => hS.ld 3 rfl rfl, fun _ => hS.ld 1 rfl rfl⟩) (fun j => ?_)
          refine WL.prop 47 rfl (band (dv _) (bor (bnot (dv _)) (dd _))) <| WL.st rfl rfl rfl 0 hS rfl rfl rfl rfl rfl rfl (fun w hS => ?_)
          replace hS := hS.n7 L (a0 := cel b5 #[.int .i64 0, .int .i64 0, .int .i64 0, .bool (decide (((topP PL).isSome = true) ∧ ((¬ ((topP PR).isSome = true)) ∨ ((pK (topP PL)) ≤ (pK (topP PR)))))), .bool false, .bool (topP PL).isSome, .bool (topP PR).isSome] 312) rfl
          refine WL.nil <| WC.seq <| WC.region <| WL.r 1 rfl <| WL.runG 14 [.int .i64 (pK (topP PR)), .int .i64 (pK (topP PL))] rfl (by exact ⟨fun _ => hS.ld 1 rfl rfl, fun _ => hS.ld 3 rfl rfl⟩) (fun j => ?_)
          refine WL.prop 62 rfl (band (dv _) (bor (bnot (dv _)) (dd _))) <| WL.st rfl rfl rfl 0 hS rfl rfl rfl rfl rfl rfl (fun w hS => ?_)
          replace hS := hS.n7 L (a0 := cel b5 #[.int .i64 0, .int .i64 0, .int .i64 0, .bool (decide (((topP PL).isSome = true) ∧ ((¬ ((topP PR).isSome = true)) ∨ ((pK (topP PL)) ≤ (pK (topP PR)))))), .bool (decide (((topP PR).isSome = true) ∧ ((¬ ((topP PL).isSome = true)) ∨ ((pK (topP PR)) ≤ (pK (topP PL)))))), .bool (topP PL).isSome, .bool (topP PR).isSome] 312) rfl
          refine WL.nil ?_
          as_aux_lemma =>
          refine WC.seq <| WC.seq <| WC.region <| WL.run 2 [.bool (decide (((topP PL).isSome = true) ∧ ((¬ ((topP PR).isSome = true)) ∨ ((pK (topP PL)) ≤ (pK (topP PR))))))] rfl (by exact hS.ld 0 rfl rfl) ?_
          refine WL.nil <| WC.ifP rfl (fun cd5 => ?_) (fun cd5 => ?_)
          · refine WC.seq <| WC.plan [([0, 3, 1, 4, 2, 5, 6], some (7, [3, 4, 5])), ([8], some (9, []))] (by kernel_rfl) (by kernel_rfl) ?_
            refine WQ.run 7 [.int .i64 (pK (topP PL)), .int .i64 (pV (topP PL))] rfl (by exact ⟨hS.ld 3 rfl rfl, hS.ld 3 rfl rfl⟩) ?_
            refine WQ.nil ?_
            intro m1
            replace hS := hS.drewN m1; generalize hwm1 : World.drewN _ _ = w at *; clear hwm1
            refine WL.st rfl rfl rfl 0 hS rfl rfl rfl rfl rfl rfl (fun w hS => ?_)
            replace hS := hS.n7 L (a0 := cel b5 #[.int .i64 (pK (topP PL)), .int .i64 0, .int .i64 0, .bool (decide (((topP PL).isSome = true) ∧ ((¬ ((topP PR).isSome = true)) ∨ ((pK (topP PL)) ≤ (pK (topP PR)))))), .bool (decide (((topP PR).isSome = true) ∧ ((¬ ((topP PL).isSome = true)) ∨ ((pK (topP PR)) ≤ (pK (topP PL)))))), .bool (topP PL).isSome, .bool (topP PR).isSome] 312) rfl
            refine WL.nil ?_
            refine ⟨by exact ⟨RQ.pure rfl rfl rfl rfl, RQ.pure rfl rfl rfl rfl, RQ.load rfl rfl rfl rfl (hS.ld 3 rfl rfl)⟩, ?_⟩
            refine WQ.r 1 rfl <| WQ.nil ?_
            intro m2
            replace hS := hS.drewN m2; generalize hwm2 : World.drewN _ _ = w at *; clear hwm2
            refine WL.st rfl rfl rfl 0 hS rfl rfl rfl rfl rfl rfl (fun w hS => ?_)
            replace hS := hS.n7 L (a0 := cel b5 #[.int .i64 (pK (topP PL)), .int .i64 (pV (topP PL)), .int .i64 0, .bool (decide (((topP PL).isSome = true) ∧ ((¬ ((topP PR).isSome = true)) ∨ ((pK (topP PL)) ≤ (pK (topP PR)))))), .bool (decide (((topP PR).isSome = true) ∧ ((¬ ((topP PL).isSome = true)) ∨ ((pK (topP PR)) ≤ (pK (topP PL)))))), .bool (topP PL).isSome, .bool (topP PR).isSome] 312) rfl
            refine WL.nil ?_
            refine ⟨by exact trivial, ?_⟩
            intro m3
            replace hS := hS.drewN m3; generalize hwm3 : World.drewN _ _ = w at *; clear hwm3
            as_aux_lemma =>
            refine WC.region <| WL.call rfl rfl (sd_pop  (hl := (by omega)) (hne := top_ne cd5.1) (hS := (hS.sel 5 [4, 0, 0, 0, 0] rfl))) rfl ?_
            clear hS; rintro _ w ⟨rfl, hS⟩
            replace hS := hS.n7 L (a0 := Sid b1 PL.dropLast) rfl
            refine WL.nil <| WC.seq <| WC.seq <| WC.region <| WL.run 2 [.bool (decide (((topP PR).isSome = true) ∧ ((¬ ((topP PL).isSome = true)) ∨ ((pK (topP PR)) ≤ (pK (topP PL))))))] rfl (by exact hS.ld 1 rfl rfl) ?_
            refine WL.nil <| WC.ifP rfl (fun cd6 => ?_) (fun cd6 => ?_)
            · refine WC.seq <| WC.plan [([0, 3, 1, 4, 2, 5, 6], some (7, [3, 4, 5])), ([8], some (9, []))] (by kernel_rfl) (by kernel_rfl) ?_
              refine WQ.run 7 [.int .i64 (pK (topP PR)), .int .i64 (pV (topP PR))] rfl (by exact ⟨hS.ld 2 rfl rfl, hS.ld 2 rfl rfl⟩) ?_
              refine WQ.nil ?_
              intro m4
              replace hS := hS.drewN m4; generalize hwm4 : World.drewN _ _ = w at *; clear hwm4
              refine WL.st rfl rfl rfl 1 hS rfl rfl rfl rfl rfl rfl (fun w hS => ?_)
              replace hS := hS.n7 L (a1 := cel b5 #[.int .i64 (pK (topP PR)), .int .i64 (pV (topP PL)), .int .i64 0, .bool (decide (((topP PL).isSome = true) ∧ ((¬ ((topP PR).isSome = true)) ∨ ((pK (topP PL)) ≤ (pK (topP PR)))))), .bool (decide (((topP PR).isSome = true) ∧ ((¬ ((topP PL).isSome = true)) ∨ ((pK (topP PR)) ≤ (pK (topP PL)))))), .bool (topP PL).isSome, .bool (topP PR).isSome] 312) rfl
              refine WL.nil ?_
              refine ⟨by exact ⟨RQ.pure rfl rfl rfl rfl, RQ.pure rfl rfl rfl rfl, RQ.load rfl rfl rfl rfl (hS.ld 2 rfl rfl)⟩, ?_⟩
              refine WQ.r 1 rfl <| WQ.nil ?_
              intro m5
              replace hS := hS.drewN m5; generalize hwm5 : World.drewN _ _ = w at *; clear hwm5
              refine WL.st rfl rfl rfl 1 hS rfl rfl rfl rfl rfl rfl (fun w hS => ?_)
              replace hS := hS.n7 L (a1 := cel b5 #[.int .i64 (pK (topP PR)), .int .i64 (pV (topP PL)), .int .i64 (pV (topP PR)), .bool (decide (((topP PL).isSome = true) ∧ ((¬ ((topP PR).isSome = true)) ∨ ((pK (topP PL)) ≤ (pK (topP PR)))))), .bool (decide (((topP PR).isSome = true) ∧ ((¬ ((topP PL).isSome = true)) ∨ ((pK (topP PR)) ≤ (pK (topP PL)))))), .bool (topP PL).isSome, .bool (topP PR).isSome] 312) rfl
              refine WL.nil ?_
              refine ⟨by exact trivial, ?_⟩
              intro m6
              replace hS := hS.drewN m6; generalize hwm6 : World.drewN _ _ = w at *; clear hwm6
              as_aux_lemma =>
              refine WC.region <| WL.call rfl rfl (sd_pop  (hl := (by omega)) (hne := top_ne cd6.1) (hS := (hS.sel 4 [3, 0, 0, 0] rfl))) rfl ?_
              clear hS; rintro _ w ⟨rfl, hS⟩
              replace hS := hS.n7 L (a0 := Sid b2 PR.dropLast) rfl
              refine WL.nil <| WC.seq <| WC.region <| WL.r 1 rfl <| WL.ldF rfl rfl 2 hS rfl rfl ag_312 <| WL.callV (bs := [.pointer (some ⟨vb, 0, none⟩)]) rfl rfl rfl (df_each2 (k := pK (topP PR)) (z := pV (topP PL)) (q := pV (topP PR)) (il := decide (((topP PL).isSome = true) ∧ ((¬ ((topP PR).isSome = true)) ∨ ((pK (topP PL)) ≤ (pK (topP PR)))))) (ir := decide (((topP PR).isSome = true) ∧ ((¬ ((topP PL).isSome = true)) ∨ ((pK (topP PR)) ≤ (pK (topP PL)))))) (ml := (topP PL).isSome) (mr := (topP PR).isSome) (hl := (by omega)) (hS := (hS.sel 7 [6, 0, 0, 0, 0, 0, 0] rfl))) rfl ?_
              clear hS; rintro _ w ⟨rfl, hS⟩
              replace hS := hS.n7 L (a0 := Dfs vb ob lo hi (out ++ oneR lo hi (pChg (pK (topP PR)) (pV (topP PL)) (pV (topP PR)) (decide (((topP PL).isSome = true) ∧ ((¬ ((topP PR).isSome = true)) ∨ ((pK (topP PL)) ≤ (pK (topP PR)))))) (decide (((topP PR).isSome = true) ∧ ((¬ ((topP PL).isSome = true)) ∨ ((pK (topP PR)) ≤ (pK (topP PL))))))))) rfl
              refine WL.r 1 rfl <| WL.nil <| WC.if_ rfl (fun cd7 => ?_) (fun cd7 => ?_)
              · refine WC.ret ?_
                refine ⟨[], trivial, ?_⟩
                replace hS := (hS.sel 7 [6, 0] rfl)
                rw [decide_eq_true cd5, decide_eq_true cd6] at cd7 hS; rw [(hP.vLR cd5.1 (o1 cd5.1) cd6.1 (o2 cd6.1) (kEq cd5 cd6) rfl rfl rfl).2.2 (by simpa using cd7)] at hS; exact ⟨rfl, hS⟩
              · refine WC.skip ?_
                exact ⟨_, (by first | omega | exact (hP.vLR cd5.1 (o1 cd5.1) cd6.1 (o2 cd6.1) (kEq cd5 cd6) rfl rfl rfl).2.1 | exact (hP.vL (w := 0) cd5.1 (o1 cd5.1) (fun hb => ⟨o2 hb, kR cd6 hb⟩) rfl rfl).2.1 | exact (hP.vR (v := 0) cd6.1 (o2 cd6.1) (fun ha => ⟨o1 ha, kL cd5 ha⟩) rfl rfl).2.1 | exact (kNo cd5 cd6 o3).elim), PL.dropLast, PR.dropLast, _, rfl, (hS.sel 7 [1, 5, 1, 0] rfl), (by rw [decide_eq_true cd5, decide_eq_true cd6] at cd7 ⊢; exact (hP.vLR cd5.1 (o1 cd5.1) cd6.1 (o2 cd6.1) (kEq cd5 cd6) rfl rfl rfl).1 (by simpa using cd7)), rfl⟩
            · refine WC.skip <| WC.seq <| WC.region <| WL.r 1 rfl <| WL.ldF rfl rfl 1 hS rfl rfl ag_312 <| WL.callV (bs := [.pointer (some ⟨vb, 0, none⟩)]) rfl rfl rfl (df_each2 (k := pK (topP PL)) (z := pV (topP PL)) (q := 0) (il := decide (((topP PL).isSome = true) ∧ ((¬ ((topP PR).isSome = true)) ∨ ((pK (topP PL)) ≤ (pK (topP PR)))))) (ir := decide (((topP PR).isSome = true) ∧ ((¬ ((topP PL).isSome = true)) ∨ ((pK (topP PR)) ≤ (pK (topP PL)))))) (ml := (topP PL).isSome) (mr := (topP PR).isSome) (hl := (by omega)) (hS := (hS.sel 7 [6, 0, 0, 0, 0, 0, 0] rfl))) rfl ?_
              clear hS; rintro _ w ⟨rfl, hS⟩
              replace hS := hS.n7 L (a0 := Dfs vb ob lo hi (out ++ oneR lo hi (pChg (pK (topP PL)) (pV (topP PL)) 0 (decide (((topP PL).isSome = true) ∧ ((¬ ((topP PR).isSome = true)) ∨ ((pK (topP PL)) ≤ (pK (topP PR)))))) (decide (((topP PR).isSome = true) ∧ ((¬ ((topP PL).isSome = true)) ∨ ((pK (topP PR)) ≤ (pK (topP PL))))))))) rfl
              refine WL.r 1 rfl <| WL.nil <| WC.if_ rfl (fun cd7 => ?_) (fun cd7 => ?_)
              · refine WC.ret ?_
                refine ⟨[], trivial, ?_⟩
                replace hS := (hS.sel 7 [6, 0] rfl)
                rw [decide_eq_true cd5, decide_eq_false cd6] at cd7 hS; rw [(hP.vL (w := 0) cd5.1 (o1 cd5.1) (fun hb => ⟨o2 hb, kR cd6 hb⟩) rfl rfl).2.2 (by simpa using cd7)] at hS; exact ⟨rfl, hS⟩
              · refine WC.skip ?_
                exact ⟨_, (by first | omega | exact (hP.vLR cd5.1 (o1 cd5.1) cd6.1 (o2 cd6.1) (kEq cd5 cd6) rfl rfl rfl).2.1 | exact (hP.vL (w := 0) cd5.1 (o1 cd5.1) (fun hb => ⟨o2 hb, kR cd6 hb⟩) rfl rfl).2.1 | exact (hP.vR (v := 0) cd6.1 (o2 cd6.1) (fun ha => ⟨o1 ha, kL cd5 ha⟩) rfl rfl).2.1 | exact (kNo cd5 cd6 o3).elim), PL.dropLast, PR, _, rfl, (hS.sel 7 [4, 5, 1, 0] rfl), (by rw [decide_eq_true cd5, decide_eq_false cd6] at cd7 ⊢; exact (hP.vL (w := 0) cd5.1 (o1 cd5.1) (fun hb => ⟨o2 hb, kR cd6 hb⟩) rfl rfl).1 (by simpa using cd7)), rfl⟩
          · refine WC.skip <| WC.seq <| WC.seq <| WC.region <| WL.run 2 [.bool (decide (((topP PR).isSome = true) ∧ ((¬ ((topP PL).isSome = true)) ∨ ((pK (topP PR)) ≤ (pK (topP PL))))))] rfl (by exact hS.ld 0 rfl rfl) ?_
            refine WL.nil <| WC.ifP rfl (fun cd6 => ?_) (fun cd6 => ?_)
            · refine WC.seq <| WC.plan [([0, 3, 1, 4, 2, 5, 6], some (7, [3, 4, 5])), ([8], some (9, []))] (by kernel_rfl) (by kernel_rfl) ?_
              refine WQ.run 7 [.int .i64 (pK (topP PR)), .int .i64 (pV (topP PR))] rfl (by exact ⟨hS.ld 1 rfl rfl, hS.ld 1 rfl rfl⟩) ?_
              refine WQ.nil ?_
              intro m1
              replace hS := hS.drewN m1; generalize hwm1 : World.drewN _ _ = w at *; clear hwm1
              refine WL.st rfl rfl rfl 0 hS rfl rfl rfl rfl rfl rfl (fun w hS => ?_)
              replace hS := hS.n7 L (a0 := cel b5 #[.int .i64 (pK (topP PR)), .int .i64 0, .int .i64 0, .bool (decide (((topP PL).isSome = true) ∧ ((¬ ((topP PR).isSome = true)) ∨ ((pK (topP PL)) ≤ (pK (topP PR)))))), .bool (decide (((topP PR).isSome = true) ∧ ((¬ ((topP PL).isSome = true)) ∨ ((pK (topP PR)) ≤ (pK (topP PL)))))), .bool (topP PL).isSome, .bool (topP PR).isSome] 312) rfl
              refine WL.nil ?_
              refine ⟨by exact ⟨RQ.pure rfl rfl rfl rfl, RQ.pure rfl rfl rfl rfl, RQ.load rfl rfl rfl rfl (hS.ld 1 rfl rfl)⟩, ?_⟩
              refine WQ.r 1 rfl <| WQ.nil ?_
              intro m2
              replace hS := hS.drewN m2; generalize hwm2 : World.drewN _ _ = w at *; clear hwm2
              refine WL.st rfl rfl rfl 0 hS rfl rfl rfl rfl rfl rfl (fun w hS => ?_)
              replace hS := hS.n7 L (a0 := cel b5 #[.int .i64 (pK (topP PR)), .int .i64 0, .int .i64 (pV (topP PR)), .bool (decide (((topP PL).isSome = true) ∧ ((¬ ((topP PR).isSome = true)) ∨ ((pK (topP PL)) ≤ (pK (topP PR)))))), .bool (decide (((topP PR).isSome = true) ∧ ((¬ ((topP PL).isSome = true)) ∨ ((pK (topP PR)) ≤ (pK (topP PL)))))), .bool (topP PL).isSome, .bool (topP PR).isSome] 312) rfl
              refine WL.nil ?_
              refine ⟨by exact trivial, ?_⟩
              intro m3
              replace hS := hS.drewN m3; generalize hwm3 : World.drewN _ _ = w at *; clear hwm3
              as_aux_lemma =>
              refine WC.region <| WL.call rfl rfl (sd_pop  (hl := (by omega)) (hne := top_ne cd6.1) (hS := (hS.sel 3 [2, 0, 0] rfl))) rfl ?_
              clear hS; rintro _ w ⟨rfl, hS⟩
              replace hS := hS.n7 L (a0 := Sid b2 PR.dropLast) rfl
              refine WL.nil <| WC.seq <| WC.region <| WL.r 1 rfl <| WL.ldF rfl rfl 1 hS rfl rfl ag_312 <| WL.callV (bs := [.pointer (some ⟨vb, 0, none⟩)]) rfl rfl rfl (df_each2 (k := pK (topP PR)) (z := 0) (q := pV (topP PR)) (il := decide (((topP PL).isSome = true) ∧ ((¬ ((topP PR).isSome = true)) ∨ ((pK (topP PL)) ≤ (pK (topP PR)))))) (ir := decide (((topP PR).isSome = true) ∧ ((¬ ((topP PL).isSome = true)) ∨ ((pK (topP PR)) ≤ (pK (topP PL)))))) (ml := (topP PL).isSome) (mr := (topP PR).isSome) (hl := (by omega)) (hS := (hS.sel 7 [6, 0, 0, 0, 0, 0, 0] rfl))) rfl ?_
              clear hS; rintro _ w ⟨rfl, hS⟩
              replace hS := hS.n7 L (a0 := Dfs vb ob lo hi (out ++ oneR lo hi (pChg (pK (topP PR)) 0 (pV (topP PR)) (decide (((topP PL).isSome = true) ∧ ((¬ ((topP PR).isSome = true)) ∨ ((pK (topP PL)) ≤ (pK (topP PR)))))) (decide (((topP PR).isSome = true) ∧ ((¬ ((topP PL).isSome = true)) ∨ ((pK (topP PR)) ≤ (pK (topP PL))))))))) rfl
              refine WL.r 1 rfl <| WL.nil <| WC.if_ rfl (fun cd7 => ?_) (fun cd7 => ?_)
              · refine WC.ret ?_
                refine ⟨[], trivial, ?_⟩
                replace hS := (hS.sel 7 [6, 0] rfl)
                rw [decide_eq_false cd5, decide_eq_true cd6] at cd7 hS; rw [(hP.vR (v := 0) cd6.1 (o2 cd6.1) (fun ha => ⟨o1 ha, kL cd5 ha⟩) rfl rfl).2.2 (by simpa using cd7)] at hS; exact ⟨rfl, hS⟩
              · refine WC.skip ?_
                exact ⟨_, (by first | omega | exact (hP.vLR cd5.1 (o1 cd5.1) cd6.1 (o2 cd6.1) (kEq cd5 cd6) rfl rfl rfl).2.1 | exact (hP.vL (w := 0) cd5.1 (o1 cd5.1) (fun hb => ⟨o2 hb, kR cd6 hb⟩) rfl rfl).2.1 | exact (hP.vR (v := 0) cd6.1 (o2 cd6.1) (fun ha => ⟨o1 ha, kL cd5 ha⟩) rfl rfl).2.1 | exact (kNo cd5 cd6 o3).elim), PL, PR.dropLast, _, rfl, (hS.sel 7 [1, 5, 4, 0] rfl), (by rw [decide_eq_false cd5, decide_eq_true cd6] at cd7 ⊢; exact (hP.vR (v := 0) cd6.1 (o2 cd6.1) (fun ha => ⟨o1 ha, kL cd5 ha⟩) rfl rfl).1 (by simpa using cd7)), rfl⟩
            · refine WC.skip <| WC.seq <| WC.region <| WL.r 1 rfl <| WL.ldF rfl rfl 0 hS rfl rfl ag_312 <| WL.callV (bs := [.pointer (some ⟨vb, 0, none⟩)]) rfl rfl rfl (df_each2 (k := 0) (z := 0) (q := 0) (il := decide (((topP PL).isSome = true) ∧ ((¬ ((topP PR).isSome = true)) ∨ ((pK (topP PL)) ≤ (pK (topP PR)))))) (ir := decide (((topP PR).isSome = true) ∧ ((¬ ((topP PL).isSome = true)) ∨ ((pK (topP PR)) ≤ (pK (topP PL)))))) (ml := (topP PL).isSome) (mr := (topP PR).isSome) (hl := (by omega)) (hS := (hS.sel 7 [6, 0, 0, 0, 0, 0, 0] rfl))) rfl ?_
              clear hS; rintro _ w ⟨rfl, hS⟩
              replace hS := hS.n7 L (a0 := Dfs vb ob lo hi (out ++ oneR lo hi (pChg 0 0 0 (decide (((topP PL).isSome = true) ∧ ((¬ ((topP PR).isSome = true)) ∨ ((pK (topP PL)) ≤ (pK (topP PR)))))) (decide (((topP PR).isSome = true) ∧ ((¬ ((topP PL).isSome = true)) ∨ ((pK (topP PR)) ≤ (pK (topP PL))))))))) rfl
              refine WL.r 1 rfl <| WL.nil <| WC.if_ rfl (fun cd7 => ?_) (fun cd7 => ?_)
              · refine WC.ret ?_
                refine ⟨[], trivial, ?_⟩
                replace hS := (hS.sel 7 [6, 0] rfl)
                exact (kNo cd5 cd6 o3).elim
              · refine WC.skip ?_
                exact ⟨_, (by first | omega | exact (hP.vLR cd5.1 (o1 cd5.1) cd6.1 (o2 cd6.1) (kEq cd5 cd6) rfl rfl rfl).2.1 | exact (hP.vL (w := 0) cd5.1 (o1 cd5.1) (fun hb => ⟨o2 hb, kR cd6 hb⟩) rfl rfl).2.1 | exact (hP.vR (v := 0) cd6.1 (o2 cd6.1) (fun ha => ⟨o1 ha, kL cd5 ha⟩) rfl rfl).2.1 | exact (kNo cd5 cd6 o3).elim), PL, PR, _, rfl, (hS.sel 7 [3, 5, 4, 0] rfl), (kNo cd5 cd6 o3).elim, rfl⟩
end Go.Proofs.YtbeacjcmdijdmaaGreat
