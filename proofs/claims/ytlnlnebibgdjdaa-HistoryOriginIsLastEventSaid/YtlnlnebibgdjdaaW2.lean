/-
  Trees: a rotation to either side, balance.
  Conditions: counts are numbers of references; the sides are not too different.
-/
import Derived.Test.YtlnlnebibgdjdaaW1
namespace Go.Proofs.Ytlnlnebibgdjdaa
open Go Go.V

theorem not_nil {t : Tr} (h : t.n ≠ 0) : ∃ l k v r, t = .node l k v r := by
  cases t with
  | nil => exact absurd rfl h
  | node l k v r => exact ⟨l, k, v, r, rfl⟩
theorem dec_congr {a b : Prop} [Decidable a] [Decidable b] (h : a ↔ b) : decide a = decide b := by
  by_cases h1 : a
  · rw [decide_eq_true h1, decide_eq_true (h.1 h1)]
  · rw [decide_eq_false h1, decide_eq_false (fun h2 => h1 (h.2 h2))]
set_option maxHeartbeats 1000000 in
set_option maxRecDepth 8192 in
theorem tw_litL {g w : World} {L : List HP} (a : Nat) (A : AM) (R : List Int) (l r k z : Int) (tl tm ts : Tr) (fk fz : Int) (hA : ARf A (l :: r :: R)) (hl : Is A tl l) (hr : Is A (.node tm fk fz ts) r) (hf : 3 ≤ A.s.free) (hz : R.length + tl.n + tm.n + ts.n ≤ 800000000) (hS : St g (Arn a A :: L) w) :
    Sp Try.prog 148 [.pointer (some ⟨a, 0, none⟩), .int .i64 (tl.n : Int), .int .u32 l, .agg #[.int .i64 k, .int .i64 z], .int .u32 r] w (fun v w' => ∃ (A2 : AM) (i : Int), v = .int .u32 i ∧ St g (Arn a A2 :: L) w' ∧ (TOp A A2 R i (Tr.litL tl k z (.node tm fk fz ts)) 3)) := by
  refine Sp.enter Try.func148 rfl (by kernel_rfl) (by kernel_rfl) ?_
  have _ := hz
  have _ := hf
  refine WC.seq ?_
  refine WC.region ?_
  refine WL.box rfl rfl #[.int .i64 k, .int .i64 z] hS rfl rfl (fun b1 w hS => ?_)
  refine WL.r 1 rfl ?_
  refine WL.nil ?_
  refine WC.seq ?_
  refine WC.region ?_
  refine WL.r 2 rfl ?_
  refine WL.call rfl rfl (tw_open (a := a) (A := A) (R := l :: R) (i := r) (k := fk) (z := fz) (l := tm) (r := ts) (hA := hA.sw) (hi := hr) (hz := (by simp only [List.length_cons]; omega)) (hS := (hS.sel 2 [1, 0] rfl))) rfl ?_
  clear hS; rintro _ w ⟨A1, x1, y1, rfl, hS, f1⟩
  replace hS : St g (Arn a A1 :: cel b1 #[.int .i64 k, .int .i64 z] 46 :: L) w := hS
  refine WL.r 4 rfl ?_
  refine WL.new rfl rfl zv_46 hS (fun b2 w hS => ?_)
  refine WL.r 1 rfl ?_
  refine WL.stF rfl rfl rfl 0 hS rfl rfl rfl rfl rfl ag_46 (fun w hS => ?_)
  replace hS : St g (cel b2 #[.int .i64 fk, .int .i64 fz] 46 :: Arn a A1 :: cel b1 #[.int .i64 k, .int .i64 z] 46 :: L) w := hS
  refine WL.r 1 rfl ?_
  refine WL.nil ?_
  refine WC.seq ?_
  refine WC.region ?_
  have hr1 := f1.rng; have hl1 := f1.kp l (by simp) tl hl; have hx0 := Is.nil_iff f1.il; have hfr1 := f1.fr
  refine WL.r 2 rfl ?_
  refine WL.call rfl rfl (tr_size (a := a) (A := A1) (R := x1 :: y1 :: l :: R) (i := x1) (t := tm) (hA := f1.ref) (hi := f1.il) (hS := (hS.sel 2 [1, 0] rfl))) rfl ?_
  clear hS; rintro _ w ⟨rfl, hS⟩
  replace hS : St g (Arn a A1 :: cel b2 #[.int .i64 fk, .int .i64 fz] 46 :: cel b1 #[.int .i64 k, .int .i64 z] 46 :: L) w := hS
  refine WL.r 1 rfl ?_
  refine WL.nil ?_
  as_aux_lemma =>
    refine WC.seq ?_
    refine WC.seq ?_
    refine WC.cut [0, 2, 8, 10, 11, 12, 13, 45] (fun vs w => ∃ (tb : Bool), vs = [.pointer (some ⟨a, 0, none⟩), .int .u32 l, .pointer (some ⟨b1, 0, none⟩), .int .u32 0, .int .u32 x1, .pointer (some ⟨b2, 0, none⟩), .int .u32 y1, .bool tb] ∧ St g (Arn a A1 :: cel b2 #[.int .i64 fk, .int .i64 fz] 46 :: cel b1 #[.int .i64 k, .int .i64 z] 46 :: L) w ∧ (tb = decide (tm.n = 0 ∨ (Bal tl.n tm.n ∧ Bal (tl.n + tm.n + 1) ts.n)))) ?_ ?_
    · refine WC.region ?_
      refine WL.r 3 rfl ?_
      by_cases cg1 : x1 = 0
      · refine WL.reb 31 (.bool true) (congrArg Value.bool (decide_eq_true cg1)) ?_
        refine WL.skp rfl rfl rfl rfl ?_
        refine WL.skp rfl rfl rfl rfl ?_
        refine WL.skp rfl rfl rfl rfl ?_
        refine WL.skp rfl rfl rfl rfl ?_
        refine WL.skU rfl rfl rfl ?_
        refine WL.skU rfl rfl rfl ?_
        refine WL.skU rfl rfl rfl ?_
        refine WL.skU rfl rfl rfl ?_
        refine WL.skU rfl rfl rfl ?_
        refine WL.skU rfl rfl rfl ?_
        refine WL.skU rfl rfl rfl ?_
        refine WL.skU rfl rfl rfl ?_
        refine WL.skp rfl rfl rfl rfl ?_
        refine WL.r 1 rfl ?_
        refine WL.nil ?_
        exact ⟨true, rfl, hS, (decide_eq_true (.inl (by rw [hx0.1 cg1]; rfl))).symm⟩
      · refine WL.reb 31 (.bool false) (congrArg Value.bool (decide_eq_false cg1)) ?_
        refine WL.ung rfl rfl rfl ?_
        refine WL.r 1 rfl ?_
        refine WL.ung rfl rfl rfl ?_
        refine WL.r 1 rfl ?_
        refine WL.ung rfl rfl rfl ?_
        refine WL.call rfl rfl (bal_spec (x := (tl.n : Int)) (y := (tm.n : Int)) (hx := (by omega)) (hy := (by omega)) (hS := hS)) rfl ?_
        clear hS; rintro _ w ⟨rfl, hS⟩
        replace hS : St g (Arn a A1 :: cel b2 #[.int .i64 fk, .int .i64 fz] 46 :: cel b1 #[.int .i64 k, .int .i64 z] 46 :: L) w := hS
        refine WL.ung rfl rfl rfl ?_
        refine WL.r 1 rfl ?_
        by_cases cg2 : (tl.n : Int) + 1 ≤ 3 * ((tm.n : Int) + 1) ∧ (tm.n : Int) + 1 ≤ 3 * ((tl.n : Int) + 1)
        · refine WL.reb 35 (.bool true) (congrArg Value.bool (decide_eq_true cg2)) ?_
          refine WL.ung rfl rfl rfl ?_
          refine WL.r 1 rfl ?_
          refine WL.ung rfl rfl rfl ?_
          refine WL.r 1 rfl ?_
          refine WL.ung rfl rfl rfl ?_
          refine WL.r 1 rfl ?_
          refine WL.nw 38 rfl (w64 (by omega)) ?_
          refine WL.ung rfl rfl rfl ?_
          refine WL.r 1 rfl ?_
          refine WL.nw 39 rfl (w64 (by omega)) ?_
          refine WL.ung rfl rfl rfl ?_
          refine WL.r 1 rfl ?_
          refine WL.ung rfl rfl rfl ?_
          refine WL.r 1 rfl ?_
          refine WL.ung rfl rfl rfl ?_
          refine WL.call rfl rfl (tr_size (a := a) (A := A1) (R := x1 :: y1 :: l :: R) (i := y1) (t := ts) (hA := f1.ref) (hi := f1.ir) (hS := hS)) rfl ?_
          clear hS; rintro _ w ⟨rfl, hS⟩
          replace hS : St g (Arn a A1 :: cel b2 #[.int .i64 fk, .int .i64 fz] 46 :: cel b1 #[.int .i64 k, .int .i64 z] 46 :: L) w := hS
          refine WL.ung rfl rfl rfl ?_
          refine WL.call rfl rfl (bal_spec (x := ((tl.n : Int) + (tm.n : Int)) + 1) (y := (ts.n : Int)) (hx := (by omega)) (hy := (by omega)) (hS := hS)) rfl ?_
          clear hS; rintro _ w ⟨rfl, hS⟩
          replace hS : St g (Arn a A1 :: cel b2 #[.int .i64 fk, .int .i64 fz] 46 :: cel b1 #[.int .i64 k, .int .i64 z] 46 :: L) w := hS
          refine WL.ung rfl rfl rfl ?_
          refine WL.r 2 rfl ?_
          refine WL.nil ?_
          exact ⟨decide ((((tl.n : Int) + (tm.n : Int)) + 1) + 1 ≤ 3 * ((ts.n : Int) + 1) ∧ (ts.n : Int) + 1 ≤ 3 * ((((tl.n : Int) + (tm.n : Int)) + 1) + 1)), rfl, hS, (dec_congr (by have h9 : tm.n ≠ 0 := fun e => cg1 (hx0.2 (Tr.n0 e)); unfold Bal; omega))⟩
        · refine WL.reb 35 (.bool false) (congrArg Value.bool (decide_eq_false cg2)) ?_
          refine WL.skp rfl rfl rfl rfl ?_
          refine WL.skp rfl rfl rfl rfl ?_
          refine WL.skp rfl rfl rfl rfl ?_
          refine WL.skp rfl rfl rfl rfl ?_
          refine WL.skp rfl rfl rfl rfl ?_
          refine WL.skp rfl rfl rfl rfl ?_
          refine WL.skp rfl rfl rfl rfl ?_
          refine WL.skp rfl rfl rfl rfl ?_
          refine WL.ung rfl rfl rfl ?_
          refine WL.r 2 rfl ?_
          refine WL.nil ?_
          exact ⟨false, rfl, hS, (decide_eq_false (by have h9 : tm.n ≠ 0 := fun e => cg1 (hx0.2 (Tr.n0 e)); unfold Bal; omega)).symm⟩
    clear hS; rintro _ w j ⟨tb, rfl, hS, hb⟩
    refine WC.if_ rfl (fun hc => ?_) (fun hc => ?_)
    · refine WC.seq ?_
      refine WC.plan [([0, 1, 2, 3, 4, 6, 7], some (5, [0, 6, 7])), ([], some (8, [])), ([9], none)] (by kernel_rfl) (by kernel_rfl) ?_
      refine WQ.r 3 rfl ?_
      refine WQ.ldF rfl rfl 2 hS rfl rfl ag_46 ?_
      refine WQ.r 1 rfl ?_
      refine WQ.ldF rfl rfl 1 hS rfl rfl ag_46 ?_
      refine WQ.r 1 rfl ?_
      refine WQ.nil ?_
      intro m1
      replace hS := hS.drewN m1; generalize hwm1 : World.drewN _ _ = w at *; clear hwm1
      refine WL.call rfl rfl (tw_node (a := a) (A := A1) (R := y1 :: R) (l := l) (r := x1) (k := k) (z := z) (tl := tl) (tr := tm) (hA := f1.ref.r3) (hl := hl1) (hr := f1.il) (hf := (by omega)) (hz := (by simp only [List.length_cons]; omega)) (hS := hS)) rfl ?_
      clear hS; rintro _ w ⟨A2, i1, rfl, hS, f2⟩
      replace hS : St g (Arn a A2 :: cel b2 #[.int .i64 fk, .int .i64 fz] 46 :: cel b1 #[.int .i64 k, .int .i64 z] 46 :: L) w := hS
      refine WL.nil ?_
      refine ⟨by exact ⟨RQ.pure rfl rfl rfl rfl, RQ.ldF rfl rfl 1 hS rfl rfl ag_46 rfl rfl, RQ.pure rfl rfl rfl rfl⟩, ?_⟩
      refine WQ.nil ?_
      intro m2
      replace hS := hS.drewN m2; generalize hwm2 : World.drewN _ _ = w at *; clear hwm2
      refine WL.call rfl rfl (tw_node (a := a) (A := A2) (R := R) (l := i1) (r := y1) (k := fk) (z := fz) (tl := .node tl k z tm) (tr := ts) (hA := f2.ref) (hl := f2.is) (hr := (f2.kp y1 (by simp) ts f1.ir)) (hf := (by have := f2.fr; omega)) (hz := (by simp only [Tr.n]; omega)) (hS := hS)) rfl ?_
      clear hS; rintro _ w ⟨A3, i2, rfl, hS, f3⟩
      replace hS : St g (Arn a A3 :: cel b2 #[.int .i64 fk, .int .i64 fz] 46 :: cel b1 #[.int .i64 k, .int .i64 z] 46 :: L) w := hS
      refine WL.nil ?_
      refine ⟨by exact trivial, ?_⟩
      refine WQ.r 1 rfl ?_
      refine WQ.nil ?_
      intro m3
      replace hS := hS.drewN m3; generalize hwm3 : World.drewN _ _ = w at *; clear hwm3
      as_aux_lemma =>
        refine WC.ret ?_
        refine ⟨[.int .u32 i2], rfl, ?_⟩
        replace hS := (hS.sel 3 [0] rfl)
        exact ⟨_, _, rfl, hS, by rw [Tr.litL, if_pos (of_decide_eq_true (hb ▸ hc))]; exact f3.after (f1.ch.trans f2.ch sb1 sb1) sb0 (by omega)⟩
    · refine WC.skip ?_
      refine WC.seq ?_
      refine WC.region ?_
      have hcn := of_decide_eq_false (hb.symm.trans hc); obtain ⟨tx, gk, gz, ty, htm⟩ := not_nil (t := tm) (fun e => hcn (.inl e)); have him : Is A1 (.node tx gk gz ty) x1 := htm ▸ f1.il; have htn : tm.n = tx.n + ty.n + 1 := (by rw [htm]; rfl)
      refine WL.r 2 rfl ?_
      refine WL.call rfl rfl (tw_open (a := a) (A := A1) (R := y1 :: l :: R) (i := x1) (k := gk) (z := gz) (l := tx) (r := ty) (hA := f1.ref) (hi := him) (hz := (by simp only [List.length_cons]; omega)) (hS := hS)) rfl ?_
      clear hS; rintro _ w ⟨A2, x2, y2, rfl, hS, f2⟩
      replace hS : St g (Arn a A2 :: cel b2 #[.int .i64 fk, .int .i64 fz] 46 :: cel b1 #[.int .i64 k, .int .i64 z] 46 :: L) w := hS
      refine WL.r 4 rfl ?_
      refine WL.new rfl rfl zv_46 hS (fun b3 w hS => ?_)
      refine WL.r 1 rfl ?_
      refine WL.stF rfl rfl rfl 0 hS rfl rfl rfl rfl rfl ag_46 (fun w hS => ?_)
      replace hS : St g (cel b3 #[.int .i64 gk, .int .i64 gz] 46 :: Arn a A2 :: cel b2 #[.int .i64 fk, .int .i64 fz] 46 :: cel b1 #[.int .i64 k, .int .i64 z] 46 :: L) w := hS
      refine WL.r 1 rfl ?_
      refine WL.nil ?_
      refine WC.seq ?_
      refine WC.region ?_
      have hr2 := f2.rng; have hl2 := f2.kp l (by simp) tl hl1; have hs2 := f2.kp y1 (by simp) ts f1.ir; have hfr2 := f2.fr
      refine WL.r 2 rfl ?_
      refine WL.ldF rfl rfl 3 hS rfl rfl ag_46 ?_
      refine WL.r 1 rfl ?_
      refine WL.call rfl rfl (tw_node (a := a) (A := A2) (R := y2 :: y1 :: R) (l := l) (r := x2) (k := k) (z := z) (tl := tl) (tr := tx) (hA := f2.ref.r4) (hl := hl2) (hr := f2.il) (hf := (by omega)) (hz := (by simp only [List.length_cons]; omega)) (hS := (hS.sel 2 [1, 0] rfl))) rfl ?_
      clear hS; rintro _ w ⟨A3, i1, rfl, hS, f3⟩
      replace hS : St g (Arn a A3 :: cel b3 #[.int .i64 gk, .int .i64 gz] 46 :: cel b2 #[.int .i64 fk, .int .i64 fz] 46 :: cel b1 #[.int .i64 k, .int .i64 z] 46 :: L) w := hS
      refine WL.r 1 rfl ?_
      refine WL.nil ?_
      as_aux_lemma =>
        refine WC.seq ?_
        refine WC.plan [([0, 1, 2, 3, 4, 5, 6], some (7, [0, 1, 2])), ([], some (8, [])), ([9], none)] (by kernel_rfl) (by kernel_rfl) ?_
        have hr3 := f3.rng; have hfr3 := f3.fr
        refine WQ.r 2 rfl ?_
        refine WQ.ldF rfl rfl 1 hS rfl rfl ag_46 ?_
        refine WQ.r 2 rfl ?_
        refine WQ.ldF rfl rfl 2 hS rfl rfl ag_46 ?_
        refine WQ.r 1 rfl ?_
        refine WQ.nil ?_
        intro m1
        replace hS := hS.drewN m1; generalize hwm1 : World.drewN _ _ = w at *; clear hwm1
        refine WL.call rfl rfl (tw_node (a := a) (A := A3) (R := i1 :: R) (l := y2) (r := y1) (k := fk) (z := fz) (tl := ty) (tr := ts) (hA := f3.ref.r3.r3) (hl := (f3.kp y2 (by simp) ty f2.ir)) (hr := (f3.kp y1 (by simp) ts hs2)) (hf := (by omega)) (hz := (by simp only [List.length_cons]; omega)) (hS := hS)) rfl ?_
        clear hS; rintro _ w ⟨A4, i2, rfl, hS, f4⟩
        replace hS : St g (Arn a A4 :: cel b3 #[.int .i64 gk, .int .i64 gz] 46 :: cel b2 #[.int .i64 fk, .int .i64 fz] 46 :: cel b1 #[.int .i64 k, .int .i64 z] 46 :: L) w := hS
        refine WL.nil ?_
        refine ⟨by exact ⟨RQ.pure rfl rfl rfl rfl, RQ.pure rfl rfl rfl rfl, RQ.ldF rfl rfl 1 hS rfl rfl ag_46 rfl rfl⟩, ?_⟩
        refine WQ.nil ?_
        intro m2
        replace hS := hS.drewN m2; generalize hwm2 : World.drewN _ _ = w at *; clear hwm2
        refine WL.call rfl rfl (tw_node (a := a) (A := A4) (R := R) (l := i1) (r := i2) (k := gk) (z := gz) (tl := .node tl k z tx) (tr := .node ty fk fz ts) (hA := f4.ref.sw) (hl := (f4.kp i1 (by simp) _ f3.is)) (hr := f4.is) (hf := (by have := f4.fr; omega)) (hz := (by simp only [Tr.n]; omega)) (hS := hS)) rfl ?_
        clear hS; rintro _ w ⟨A5, i3, rfl, hS, f5⟩
        replace hS : St g (Arn a A5 :: cel b3 #[.int .i64 gk, .int .i64 gz] 46 :: cel b2 #[.int .i64 fk, .int .i64 fz] 46 :: cel b1 #[.int .i64 k, .int .i64 z] 46 :: L) w := hS
        refine WL.nil ?_
        refine ⟨by exact trivial, ?_⟩
        refine WQ.r 1 rfl ?_
        refine WQ.nil ?_
        intro m3
        replace hS := hS.drewN m3; generalize hwm3 : World.drewN _ _ = w at *; clear hwm3
        as_aux_lemma =>
          refine WC.ret ?_
          refine ⟨[.int .u32 i3], rfl, ?_⟩
          replace hS := (hS.sel 4 [0] rfl)
          exact ⟨_, _, rfl, hS, by rw [Tr.litL, if_neg hcn, htm]; exact f5.after ((f1.ch.trans f2.ch sb1 sb2).trans (f3.ch.trans f4.ch sb2 sb1) sb0 sb0) sb0 (by omega)⟩
set_option maxHeartbeats 1000000 in
set_option maxRecDepth 8192 in
theorem tw_litR {g w : World} {L : List HP} (a : Nat) (A : AM) (R : List Int) (l r k z : Int) (tr tm ts : Tr) (fk fz : Int) (hA : ARf A (l :: r :: R)) (hl : Is A (.node ts fk fz tm) l) (hr : Is A tr r) (hf : 3 ≤ A.s.free) (hz : R.length + tr.n + tm.n + ts.n ≤ 800000000) (hS : St g (Arn a A :: L) w) :
    Sp Try.prog 149 [.pointer (some ⟨a, 0, none⟩), .int .i64 (tr.n : Int), .int .u32 l, .agg #[.int .i64 k, .int .i64 z], .int .u32 r] w (fun v w' => ∃ (A2 : AM) (i : Int), v = .int .u32 i ∧ St g (Arn a A2 :: L) w' ∧ (TOp A A2 R i (Tr.litR tr k z (.node ts fk fz tm)) 3)) := by
  refine Sp.enter Try.func149 rfl (by kernel_rfl) (by kernel_rfl) ?_
  have _ := hz
  have _ := hf
  refine WC.seq ?_
  refine WC.region ?_
  refine WL.box rfl rfl #[.int .i64 k, .int .i64 z] hS rfl rfl (fun b1 w hS => ?_)
  refine WL.r 1 rfl ?_
  refine WL.nil ?_
  refine WC.seq ?_
  refine WC.region ?_
  refine WL.r 2 rfl ?_
  refine WL.call rfl rfl (tw_open (a := a) (A := A) (R := r :: R) (i := l) (k := fk) (z := fz) (l := ts) (r := tm) (hA := hA) (hi := hl) (hz := (by simp only [List.length_cons]; omega)) (hS := (hS.sel 2 [1, 0] rfl))) rfl ?_
  clear hS; rintro _ w ⟨A1, x1, y1, rfl, hS, f1⟩
  replace hS : St g (Arn a A1 :: cel b1 #[.int .i64 k, .int .i64 z] 46 :: L) w := hS
  refine WL.r 4 rfl ?_
  refine WL.new rfl rfl zv_46 hS (fun b2 w hS => ?_)
  refine WL.r 1 rfl ?_
  refine WL.stF rfl rfl rfl 0 hS rfl rfl rfl rfl rfl ag_46 (fun w hS => ?_)
  replace hS : St g (cel b2 #[.int .i64 fk, .int .i64 fz] 46 :: Arn a A1 :: cel b1 #[.int .i64 k, .int .i64 z] 46 :: L) w := hS
  refine WL.r 1 rfl ?_
  refine WL.nil ?_
  refine WC.seq ?_
  refine WC.region ?_
  have hr1 := f1.rng; have hl1 := f1.kp r (by simp) tr hr; have hx0 := Is.nil_iff f1.ir; have hfr1 := f1.fr
  refine WL.r 2 rfl ?_
  refine WL.call rfl rfl (tr_size (a := a) (A := A1) (R := x1 :: y1 :: r :: R) (i := y1) (t := tm) (hA := f1.ref) (hi := f1.ir) (hS := (hS.sel 2 [1, 0] rfl))) rfl ?_
  clear hS; rintro _ w ⟨rfl, hS⟩
  replace hS : St g (Arn a A1 :: cel b2 #[.int .i64 fk, .int .i64 fz] 46 :: cel b1 #[.int .i64 k, .int .i64 z] 46 :: L) w := hS
  refine WL.r 1 rfl ?_
  refine WL.nil ?_
  as_aux_lemma =>
    refine WC.seq ?_
    refine WC.seq ?_
    refine WC.cut [0, 4, 8, 10, 11, 12, 13, 45] (fun vs w => ∃ (tb : Bool), vs = [.pointer (some ⟨a, 0, none⟩), .int .u32 r, .pointer (some ⟨b1, 0, none⟩), .int .u32 0, .int .u32 x1, .pointer (some ⟨b2, 0, none⟩), .int .u32 y1, .bool tb] ∧ St g (Arn a A1 :: cel b2 #[.int .i64 fk, .int .i64 fz] 46 :: cel b1 #[.int .i64 k, .int .i64 z] 46 :: L) w ∧ (tb = decide (tm.n = 0 ∨ (Bal tm.n tr.n ∧ Bal ts.n (tm.n + tr.n + 1))))) ?_ ?_
    · refine WC.region ?_
      refine WL.r 3 rfl ?_
      by_cases cg1 : y1 = 0
      · refine WL.reb 31 (.bool true) (congrArg Value.bool (decide_eq_true cg1)) ?_
        refine WL.skp rfl rfl rfl rfl ?_
        refine WL.skp rfl rfl rfl rfl ?_
        refine WL.skp rfl rfl rfl rfl ?_
        refine WL.skp rfl rfl rfl rfl ?_
        refine WL.skU rfl rfl rfl ?_
        refine WL.skU rfl rfl rfl ?_
        refine WL.skU rfl rfl rfl ?_
        refine WL.skU rfl rfl rfl ?_
        refine WL.skU rfl rfl rfl ?_
        refine WL.skU rfl rfl rfl ?_
        refine WL.skU rfl rfl rfl ?_
        refine WL.skU rfl rfl rfl ?_
        refine WL.skp rfl rfl rfl rfl ?_
        refine WL.r 1 rfl ?_
        refine WL.nil ?_
        exact ⟨true, rfl, hS, (decide_eq_true (.inl (by rw [hx0.1 cg1]; rfl))).symm⟩
      · refine WL.reb 31 (.bool false) (congrArg Value.bool (decide_eq_false cg1)) ?_
        refine WL.ung rfl rfl rfl ?_
        refine WL.r 1 rfl ?_
        refine WL.ung rfl rfl rfl ?_
        refine WL.r 1 rfl ?_
        refine WL.ung rfl rfl rfl ?_
        refine WL.call rfl rfl (bal_spec (x := (tm.n : Int)) (y := (tr.n : Int)) (hx := (by omega)) (hy := (by omega)) (hS := hS)) rfl ?_
        clear hS; rintro _ w ⟨rfl, hS⟩
        replace hS : St g (Arn a A1 :: cel b2 #[.int .i64 fk, .int .i64 fz] 46 :: cel b1 #[.int .i64 k, .int .i64 z] 46 :: L) w := hS
        refine WL.ung rfl rfl rfl ?_
        refine WL.r 1 rfl ?_
        by_cases cg2 : (tm.n : Int) + 1 ≤ 3 * ((tr.n : Int) + 1) ∧ (tr.n : Int) + 1 ≤ 3 * ((tm.n : Int) + 1)
        · refine WL.reb 35 (.bool true) (congrArg Value.bool (decide_eq_true cg2)) ?_
          refine WL.ung rfl rfl rfl ?_
          refine WL.r 1 rfl ?_
          refine WL.ung rfl rfl rfl ?_
          refine WL.r 1 rfl ?_
          refine WL.ung rfl rfl rfl ?_
          refine WL.call rfl rfl (tr_size (a := a) (A := A1) (R := x1 :: y1 :: r :: R) (i := x1) (t := ts) (hA := f1.ref) (hi := f1.il) (hS := hS)) rfl ?_
          clear hS; rintro _ w ⟨rfl, hS⟩
          replace hS : St g (Arn a A1 :: cel b2 #[.int .i64 fk, .int .i64 fz] 46 :: cel b1 #[.int .i64 k, .int .i64 z] 46 :: L) w := hS
          refine WL.ung rfl rfl rfl ?_
          refine WL.r 1 rfl ?_
          refine WL.ung rfl rfl rfl ?_
          refine WL.r 1 rfl ?_
          refine WL.ung rfl rfl rfl ?_
          refine WL.r 1 rfl ?_
          refine WL.nw 41 rfl (w64 (by omega)) ?_
          refine WL.ung rfl rfl rfl ?_
          refine WL.r 1 rfl ?_
          refine WL.nw 42 rfl (w64 (by omega)) ?_
          refine WL.ung rfl rfl rfl ?_
          refine WL.call rfl rfl (bal_spec (x := (ts.n : Int)) (y := ((tm.n : Int) + (tr.n : Int)) + 1) (hx := (by omega)) (hy := (by omega)) (hS := hS)) rfl ?_
          clear hS; rintro _ w ⟨rfl, hS⟩
          replace hS : St g (Arn a A1 :: cel b2 #[.int .i64 fk, .int .i64 fz] 46 :: cel b1 #[.int .i64 k, .int .i64 z] 46 :: L) w := hS
          refine WL.ung rfl rfl rfl ?_
          refine WL.r 2 rfl ?_
          refine WL.nil ?_
          exact ⟨decide ((ts.n : Int) + 1 ≤ 3 * ((((tm.n : Int) + (tr.n : Int)) + 1) + 1) ∧ (((tm.n : Int) + (tr.n : Int)) + 1) + 1 ≤ 3 * ((ts.n : Int) + 1)), rfl, hS, (dec_congr (by have h9 : tm.n ≠ 0 := fun e => cg1 (hx0.2 (Tr.n0 e)); unfold Bal; omega))⟩
        · refine WL.reb 35 (.bool false) (congrArg Value.bool (decide_eq_false cg2)) ?_
          refine WL.skp rfl rfl rfl rfl ?_
          refine WL.skp rfl rfl rfl rfl ?_
          refine WL.skp rfl rfl rfl rfl ?_
          refine WL.skp rfl rfl rfl rfl ?_
          refine WL.skp rfl rfl rfl rfl ?_
          refine WL.skp rfl rfl rfl rfl ?_
          refine WL.skp rfl rfl rfl rfl ?_
          refine WL.skp rfl rfl rfl rfl ?_
          refine WL.ung rfl rfl rfl ?_
          refine WL.r 2 rfl ?_
          refine WL.nil ?_
          exact ⟨false, rfl, hS, (decide_eq_false (by have h9 : tm.n ≠ 0 := fun e => cg1 (hx0.2 (Tr.n0 e)); unfold Bal; omega)).symm⟩
    clear hS; rintro _ w j ⟨tb, rfl, hS, hb⟩
    refine WC.if_ rfl (fun hc => ?_) (fun hc => ?_)
    · refine WC.seq ?_
      refine WC.plan [([0, 1, 2, 3, 4, 5, 6], some (7, [0, 1, 2])), ([], some (8, [])), ([9], none)] (by kernel_rfl) (by kernel_rfl) ?_
      refine WQ.r 2 rfl ?_
      refine WQ.ldF rfl rfl 1 hS rfl rfl ag_46 ?_
      refine WQ.r 2 rfl ?_
      refine WQ.ldF rfl rfl 2 hS rfl rfl ag_46 ?_
      refine WQ.r 1 rfl ?_
      refine WQ.nil ?_
      intro m1
      replace hS := hS.drewN m1; generalize hwm1 : World.drewN _ _ = w at *; clear hwm1
      refine WL.call rfl rfl (tw_node (a := a) (A := A1) (R := x1 :: R) (l := y1) (r := r) (k := k) (z := z) (tl := tm) (tr := tr) (hA := f1.ref.r3.r3) (hl := f1.ir) (hr := hl1) (hf := (by omega)) (hz := (by simp only [List.length_cons]; omega)) (hS := hS)) rfl ?_
      clear hS; rintro _ w ⟨A2, i1, rfl, hS, f2⟩
      replace hS : St g (Arn a A2 :: cel b2 #[.int .i64 fk, .int .i64 fz] 46 :: cel b1 #[.int .i64 k, .int .i64 z] 46 :: L) w := hS
      refine WL.nil ?_
      refine ⟨by exact ⟨RQ.pure rfl rfl rfl rfl, RQ.pure rfl rfl rfl rfl, RQ.ldF rfl rfl 1 hS rfl rfl ag_46 rfl rfl⟩, ?_⟩
      refine WQ.nil ?_
      intro m2
      replace hS := hS.drewN m2; generalize hwm2 : World.drewN _ _ = w at *; clear hwm2
      refine WL.call rfl rfl (tw_node (a := a) (A := A2) (R := R) (l := x1) (r := i1) (k := fk) (z := fz) (tl := ts) (tr := .node tm k z tr) (hA := f2.ref.sw) (hl := (f2.kp x1 (by simp) ts f1.il)) (hr := f2.is) (hf := (by have := f2.fr; omega)) (hz := (by simp only [Tr.n]; omega)) (hS := hS)) rfl ?_
      clear hS; rintro _ w ⟨A3, i2, rfl, hS, f3⟩
      replace hS : St g (Arn a A3 :: cel b2 #[.int .i64 fk, .int .i64 fz] 46 :: cel b1 #[.int .i64 k, .int .i64 z] 46 :: L) w := hS
      refine WL.nil ?_
      refine ⟨by exact trivial, ?_⟩
      refine WQ.r 1 rfl ?_
      refine WQ.nil ?_
      intro m3
      replace hS := hS.drewN m3; generalize hwm3 : World.drewN _ _ = w at *; clear hwm3
      as_aux_lemma =>
        refine WC.ret ?_
        refine ⟨[.int .u32 i2], rfl, ?_⟩
        replace hS := (hS.sel 3 [0] rfl)
        exact ⟨_, _, rfl, hS, by rw [Tr.litR, if_pos (of_decide_eq_true (hb ▸ hc))]; exact f3.after (f1.ch.trans f2.ch sb1 sb1) sb0 (by omega)⟩
    · refine WC.skip ?_
      refine WC.seq ?_
      refine WC.region ?_
      have hcn := of_decide_eq_false (hb.symm.trans hc); obtain ⟨tx, gk, gz, ty, htm⟩ := not_nil (t := tm) (fun e => hcn (.inl e)); have him : Is A1 (.node tx gk gz ty) y1 := htm ▸ f1.ir; have htn : tm.n = tx.n + ty.n + 1 := (by rw [htm]; rfl)
      refine WL.r 2 rfl ?_
      refine WL.call rfl rfl (tw_open (a := a) (A := A1) (R := x1 :: r :: R) (i := y1) (k := gk) (z := gz) (l := tx) (r := ty) (hA := f1.swap) (hi := him) (hz := (by simp only [List.length_cons]; omega)) (hS := hS)) rfl ?_
      clear hS; rintro _ w ⟨A2, x2, y2, rfl, hS, f2⟩
      replace hS : St g (Arn a A2 :: cel b2 #[.int .i64 fk, .int .i64 fz] 46 :: cel b1 #[.int .i64 k, .int .i64 z] 46 :: L) w := hS
      refine WL.r 4 rfl ?_
      refine WL.new rfl rfl zv_46 hS (fun b3 w hS => ?_)
      refine WL.r 1 rfl ?_
      refine WL.stF rfl rfl rfl 0 hS rfl rfl rfl rfl rfl ag_46 (fun w hS => ?_)
      replace hS : St g (cel b3 #[.int .i64 gk, .int .i64 gz] 46 :: Arn a A2 :: cel b2 #[.int .i64 fk, .int .i64 fz] 46 :: cel b1 #[.int .i64 k, .int .i64 z] 46 :: L) w := hS
      refine WL.r 1 rfl ?_
      refine WL.nil ?_
      refine WC.seq ?_
      refine WC.region ?_
      have hr2 := f2.rng; have hl2 := f2.kp r (by simp) tr hl1; have hs2 := f2.kp x1 (by simp) ts f1.il; have hfr2 := f2.fr
      refine WL.r 2 rfl ?_
      refine WL.ldF rfl rfl 2 hS rfl rfl ag_46 ?_
      refine WL.r 1 rfl ?_
      refine WL.call rfl rfl (tw_node (a := a) (A := A2) (R := y2 :: r :: R) (l := x1) (r := x2) (k := fk) (z := fz) (tl := ts) (tr := tx) (hA := f2.ref.r3) (hl := hs2) (hr := f2.il) (hf := (by omega)) (hz := (by simp only [List.length_cons]; omega)) (hS := (hS.sel 2 [1, 0] rfl))) rfl ?_
      clear hS; rintro _ w ⟨A3, i1, rfl, hS, f3⟩
      replace hS : St g (Arn a A3 :: cel b3 #[.int .i64 gk, .int .i64 gz] 46 :: cel b2 #[.int .i64 fk, .int .i64 fz] 46 :: cel b1 #[.int .i64 k, .int .i64 z] 46 :: L) w := hS
      refine WL.r 1 rfl ?_
      refine WL.nil ?_
      as_aux_lemma =>
        refine WC.seq ?_
        refine WC.plan [([0, 1, 2, 3, 4, 5, 6], some (7, [0, 1, 2])), ([], some (8, [])), ([9], none)] (by kernel_rfl) (by kernel_rfl) ?_
        have hr3 := f3.rng; have hfr3 := f3.fr
        refine WQ.r 2 rfl ?_
        refine WQ.ldF rfl rfl 1 hS rfl rfl ag_46 ?_
        refine WQ.r 2 rfl ?_
        refine WQ.ldF rfl rfl 3 hS rfl rfl ag_46 ?_
        refine WQ.r 1 rfl ?_
        refine WQ.nil ?_
        intro m1
        replace hS := hS.drewN m1; generalize hwm1 : World.drewN _ _ = w at *; clear hwm1
        refine WL.call rfl rfl (tw_node (a := a) (A := A3) (R := i1 :: R) (l := y2) (r := r) (k := k) (z := z) (tl := ty) (tr := tr) (hA := f3.ref.r3.r3) (hl := (f3.kp y2 (by simp) ty f2.ir)) (hr := (f3.kp r (by simp) tr hl2)) (hf := (by omega)) (hz := (by simp only [List.length_cons]; omega)) (hS := hS)) rfl ?_
        clear hS; rintro _ w ⟨A4, i2, rfl, hS, f4⟩
        replace hS : St g (Arn a A4 :: cel b3 #[.int .i64 gk, .int .i64 gz] 46 :: cel b2 #[.int .i64 fk, .int .i64 fz] 46 :: cel b1 #[.int .i64 k, .int .i64 z] 46 :: L) w := hS
        refine WL.nil ?_
        refine ⟨by exact ⟨RQ.pure rfl rfl rfl rfl, RQ.pure rfl rfl rfl rfl, RQ.ldF rfl rfl 1 hS rfl rfl ag_46 rfl rfl⟩, ?_⟩
        refine WQ.nil ?_
        intro m2
        replace hS := hS.drewN m2; generalize hwm2 : World.drewN _ _ = w at *; clear hwm2
        refine WL.call rfl rfl (tw_node (a := a) (A := A4) (R := R) (l := i1) (r := i2) (k := gk) (z := gz) (tl := .node ts fk fz tx) (tr := .node ty k z tr) (hA := f4.ref.sw) (hl := (f4.kp i1 (by simp) _ f3.is)) (hr := f4.is) (hf := (by have := f4.fr; omega)) (hz := (by simp only [Tr.n]; omega)) (hS := hS)) rfl ?_
        clear hS; rintro _ w ⟨A5, i3, rfl, hS, f5⟩
        replace hS : St g (Arn a A5 :: cel b3 #[.int .i64 gk, .int .i64 gz] 46 :: cel b2 #[.int .i64 fk, .int .i64 fz] 46 :: cel b1 #[.int .i64 k, .int .i64 z] 46 :: L) w := hS
        refine WL.nil ?_
        refine ⟨by exact trivial, ?_⟩
        refine WQ.r 1 rfl ?_
        refine WQ.nil ?_
        intro m3
        replace hS := hS.drewN m3; generalize hwm3 : World.drewN _ _ = w at *; clear hwm3
        as_aux_lemma =>
          refine WC.ret ?_
          refine ⟨[.int .u32 i3], rfl, ?_⟩
          replace hS := (hS.sel 4 [0] rfl)
          exact ⟨_, _, rfl, hS, by rw [Tr.litR, if_neg hcn, htm]; exact f5.after ((f1.ch.trans f2.ch sb1 sb2).trans (f3.ch.trans f4.ch sb2 sb1) sb0 sb0) sb0 (by omega)⟩
set_option maxHeartbeats 1000000 in
set_option maxRecDepth 8192 in
theorem tw_bal {g w : World} {L : List HP} (a : Nat) (A : AM) (R : List Int) (l r k z : Int) (tl tr : Tr) (hA : ARf A (l :: r :: R)) (hl : Is A tl l) (hr : Is A tr r) (hf : 3 ≤ A.s.free) (hz : R.length + tl.n + tr.n ≤ 800000000) (hS : St g (Arn a A :: L) w) :
    Sp Try.prog 124 [.pointer (some ⟨a, 0, none⟩), .int .u32 l, .agg #[.int .i64 k, .int .i64 z], .int .u32 r] w (fun v w' => ∃ (A2 : AM) (i : Int), v = .int .u32 i ∧ St g (Arn a A2 :: L) w' ∧ (TOp A A2 R i (Tr.bal tl k z tr) 3)) := by
  refine Sp.enter Try.func124 rfl (by kernel_rfl) (by kernel_rfl) ?_
  have _ := hz
  refine WC.seq ?_
  refine WC.region ?_
  refine WL.box rfl rfl #[.int .i64 k, .int .i64 z] hS rfl rfl (fun b1 w hS => ?_)
  refine WL.r 1 rfl ?_
  refine WL.nil ?_
  refine WC.seq ?_
  refine WC.region ?_
  refine WL.r 2 rfl ?_
  refine WL.call rfl rfl (tr_size (a := a) (A := A) (R := l :: r :: R) (i := l) (t := tl) (hA := hA) (hi := hl) (hS := (hS.sel 2 [1, 0] rfl))) rfl ?_
  clear hS; rintro _ w ⟨rfl, hS⟩
  replace hS : St g (Arn a A :: cel b1 #[.int .i64 k, .int .i64 z] 46 :: L) w := hS
  refine WL.r 2 rfl ?_
  refine WL.call rfl rfl (tr_size (a := a) (A := A) (R := l :: r :: R) (i := r) (t := tr) (hA := hA) (hi := hr) (hS := hS)) rfl ?_
  clear hS; rintro _ w ⟨rfl, hS⟩
  replace hS : St g (Arn a A :: cel b1 #[.int .i64 k, .int .i64 z] 46 :: L) w := hS
  refine WL.r 2 rfl ?_
  refine WL.nil ?_
  refine WC.seq ?_
  refine WC.block ?_
  refine WC.seq ?_
  refine WC.region ?_
  refine WL.r 2 rfl ?_
  refine WL.call rfl rfl (bal_spec (x := (tl.n : Int)) (y := (tr.n : Int)) (hx := (by omega)) (hy := (by omega)) (hS := hS)) rfl ?_
  clear hS; rintro _ w ⟨rfl, hS⟩
  replace hS : St g (Arn a A :: cel b1 #[.int .i64 k, .int .i64 z] 46 :: L) w := hS
  refine WL.r 1 rfl ?_
  refine WL.nil ?_
  as_aux_lemma =>
    refine WC.ifP rfl (fun hb => ?_) (fun hb => ?_)
    · refine WC.seq ?_
      refine WC.region ?_
      refine WL.r 2 rfl ?_
      refine WL.ldF rfl rfl 1 hS rfl rfl ag_46 ?_
      refine WL.r 1 rfl ?_
      refine WL.call rfl rfl (tw_node (a := a) (A := A) (R := R) (l := l) (r := r) (k := k) (z := z) (tl := tl) (tr := tr) (hA := hA) (hl := hl) (hr := hr) (hf := (by omega)) (hz := (by omega)) (hS := hS)) rfl ?_
      clear hS; rintro _ w ⟨A1, i1, rfl, hS, f1⟩
      replace hS : St g (Arn a A1 :: cel b1 #[.int .i64 k, .int .i64 z] 46 :: L) w := hS
      refine WL.r 1 rfl ?_
      refine WL.nil ?_
      refine WC.ret ?_
      refine ⟨[.int .u32 i1], rfl, ?_⟩
      replace hS := (hS.sel 2 [0] rfl)
      exact ⟨_, _, rfl, hS, by unfold Tr.bal; rw [if_pos (show Bal tl.n tr.n by unfold Bal; omega)]; exact f1.weak (by omega)⟩
    · refine WC.seq ?_
      refine WC.region ?_
      refine WL.r 4 rfl ?_
      refine WL.nil ?_
      refine WC.ifP rfl (fun hlt => ?_) (fun hlt => ?_)
      · refine WC.seq ?_
        refine WC.region ?_
        have hbn : ¬ Bal tl.n tr.n := (by unfold Bal; omega); obtain ⟨tm, fk, fz, ts, htr⟩ := not_nil (t := tr) (by omega); have htn : tr.n = tm.n + ts.n + 1 := (by rw [htr]; rfl); have hr2 : Is A (.node tm fk fz ts) r := htr ▸ hr
        refine WL.r 3 rfl ?_
        refine WL.ldF rfl rfl 1 hS rfl rfl ag_46 ?_
        refine WL.r 1 rfl ?_
        refine WL.call rfl rfl (tw_litL (a := a) (A := A) (R := R) (l := l) (r := r) (k := k) (z := z) (tl := tl) (tm := tm) (ts := ts) (fk := fk) (fz := fz) (hA := hA) (hl := hl) (hr := hr2) (hf := hf) (hz := (by omega)) (hS := hS)) rfl ?_
        clear hS; rintro _ w ⟨A1, i1, rfl, hS, f1⟩
        replace hS : St g (Arn a A1 :: cel b1 #[.int .i64 k, .int .i64 z] 46 :: L) w := hS
        refine WL.r 1 rfl ?_
        refine WL.nil ?_
        refine WC.ret ?_
        refine ⟨[.int .u32 i1], rfl, ?_⟩
        replace hS := (hS.sel 2 [0] rfl)
        exact ⟨_, _, rfl, hS, by unfold Tr.bal; rw [if_neg hbn, if_pos (show tl.n < tr.n by omega), htr]; exact f1⟩
      · refine WC.skip ?_
        refine WC.seq ?_
        refine WC.region ?_
        have hbn : ¬ Bal tl.n tr.n := (by unfold Bal; omega); obtain ⟨ts, fk, fz, tm, htr⟩ := not_nil (t := tl) (by omega); have htn : tl.n = ts.n + tm.n + 1 := (by rw [htr]; rfl); have hl2 : Is A (.node ts fk fz tm) l := htr ▸ hl
        refine WL.r 3 rfl ?_
        refine WL.ldF rfl rfl 1 hS rfl rfl ag_46 ?_
        refine WL.r 1 rfl ?_
        refine WL.call rfl rfl (tw_litR (a := a) (A := A) (R := R) (l := l) (r := r) (k := k) (z := z) (tr := tr) (tm := tm) (ts := ts) (fk := fk) (fz := fz) (hA := hA) (hl := hl2) (hr := hr) (hf := hf) (hz := (by omega)) (hS := hS)) rfl ?_
        clear hS; rintro _ w ⟨A1, i1, rfl, hS, f1⟩
        replace hS : St g (Arn a A1 :: cel b1 #[.int .i64 k, .int .i64 z] 46 :: L) w := hS
        refine WL.r 1 rfl ?_
        refine WL.nil ?_
        refine WC.ret ?_
        refine ⟨[.int .u32 i1], rfl, ?_⟩
        replace hS := (hS.sel 2 [0] rfl)
        exact ⟨_, _, rfl, hS, by unfold Tr.bal; rw [if_neg hbn, if_neg (show ¬ tl.n < tr.n by omega), htr]; exact f1⟩
end Go.Proofs.Ytlnlnebibgdjdaa
