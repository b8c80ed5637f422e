/-
  The reference of layers 7 and 8: the least weights, the greatest height, the reservation of an insertion.
  Conditions: sizes.
-/
import Derived.Test.YtlnlnebibgdjdaaW5
import Derived.Test.YtlnlnebibgdjdaaArw
namespace Go.Proofs.Ytlnlnebibgdjdaa
open Go Go.V Go.RowKit

theorem ap_221 : ArP Try.prog 221 81 3 := ⟨by kernel_rfl, by kernel_rfl⟩
theorem wt_step2 {h : Nat} (hh : h < 81) : IntKind.i64.wrap ((Tr.wt h : Int) + ((Tr.wt h : Int) + 2) / 3) = (Tr.wt (h + 1) : Int) := by
  have := wt_big h (by omega)
  rw [w64 (by omega), show Tr.wt (h + 1) = Tr.wt h + (Tr.wt h + 2) / 3 from rfl]; omega
theorem r7_weights {g w : World} {L : List HP} (hS : St g (L) w) :
    Sp Try.prog 150 [] w (fun v w' => v = .agg (wtA 81) ∧ St g (L) w') := by
  refine Sp.enter Try.func150 rfl (by kernel_rfl) (by kernel_rfl) ?_
  refine WC.seq ?_
  refine WC.region ?_
  refine WL.new rfl rfl zv_221 hS (fun b1 w hS => ?_)
  refine WL.nil ?_
  refine WC.seq ?_
  refine WC.region ?_
  replace hS : St g (cel b1 (wtA 0) 221 :: L) w := hS
  refine WL.new rfl rfl zv_221 hS (fun b2 w hS => ?_)
  refine WL.nil ?_
  refine WC.seq ?_
  refine WC.region ?_
  replace hS : St g (cel b2 (wtA 0) 221 :: cel b1 (wtA 0) 221 :: L) w := hS
  refine WL.ixP rfl rfl (0) ap_221 rfl rfl (by omega) (by omega) ?_
  refine WL.st rfl rfl rfl 0 hS rfl rfl rfl rfl (by rw [wtA_size]; rfl) rfl (fun w hS => ?_)
  replace hS : St g (cel b2 (Array.setIfInBounds (wtA 0) 0 (.int .i64 1)) 221 :: cel b1 (wtA 0) 221 :: L) w := hS
  rw [(show Array.setIfInBounds (wtA 0) 0 (.int .i64 1) = wtA 1 from wtA_set (by omega))] at hS
  refine WL.nil ?_
  refine WC.seq ?_
  refine WC.seq ?_
  refine WC.region ?_
  refine WL.r 1 rfl ?_
  refine WL.nil ?_
  refine WC.block ?_
  refine WC.loop [0, 1, 2] (fun kM vs w => ∃ (h : Nat), vs = [.pointer (some ⟨b1, 0, none⟩), .pointer (some ⟨b2, 0, none⟩), .int .i64 ((h : Int) + 1)] ∧ St g (cel b2 (wtA (h + 1)) 221 :: cel b1 (wtA 0) 221 :: L) w ∧ (h ≤ 80) ∧ (80 - h) = kM) (80 - 0) ⟨0, rfl, hS, (by omega), rfl⟩ ?_
  clear hS; rintro _ _ w j ⟨h, rfl, hS, hh, rfl⟩
  refine WC.seq ?_
  refine WC.seq ?_
  refine WC.region ?_
  refine WL.r 2 rfl ?_
  refine WL.nil ?_
  as_aux_lemma =>
    refine WC.ifP rfl (fun cd1 => ?_) (fun cd1 => ?_)
    · refine WC.skip ?_
      refine WC.seq ?_
      refine WC.block ?_
      refine WC.plan [([0, 1, 5, 2, 6, 3, 7, 4, 8, 9, 10, 11, 12], some (13, []))] (by kernel_rfl) (by kernel_rfl) ?_
      have hbg := wt_big h (by omega)
      refine WQ.r 4 rfl ?_
      refine WQ.nw 10 rfl (w64 (by omega)) ?_
      refine WQ.r 1 rfl ?_
      refine WQ.nw 14 rfl (w64 (by omega)) ?_
      refine WQ.ixP rfl rfl (h) ap_221 rfl rfl (by omega) (by omega) ?_
      refine WQ.ixP rfl rfl (h) ap_221 rfl rfl (by omega) (by omega) ?_
      refine WQ.run 3 [.int .i64 (Tr.wt h : Int), .int .i64 (Tr.wt h : Int)] rfl (by exact ⟨hS.ld 0 rfl (wtA_at (by omega) (by omega)), hS.ld 0 rfl (wtA_at (by omega) (by omega))⟩) ?_
      refine WQ.nw 17 rfl (w64 (by omega)) ?_
      refine WQ.r 1 rfl ?_
      refine WQ.reb 18 (.int .i64 (((Tr.wt h : Int) + 2) / 3)) (congrArg (Value.int .i64) (quo_i64 (p := (Tr.wt h : Int) + 2) (q := 3) (by omega))) ?_
      refine WQ.r 1 rfl ?_
      refine WQ.reb 19 (.int .i64 (Tr.wt (h + 1) : Int)) (congrArg (Value.int .i64) (by exact wt_step2 (by omega))) ?_
      refine WQ.ixP rfl rfl (h + 1) ap_221 rfl rfl (by omega) (by omega) ?_
      refine WQ.nil ?_
      intro m1
      replace hS := hS.drewN m1; generalize hwm1 : World.drewN _ _ = w at *; clear hwm1
      refine WL.st rfl rfl rfl 0 hS rfl rfl rfl rfl (by rw [wtA_size]; exact blt_iff.2 (by omega)) rfl (fun w hS => ?_)
      replace hS : St g (cel b2 (Array.setIfInBounds (wtA (h + 1)) (h + 1) (.int .i64 (Tr.wt (h + 1) : Int))) 221 :: cel b1 (wtA 0) 221 :: L) w := hS
      rw [(show Array.setIfInBounds (wtA (h + 1)) (h + 1) (.int .i64 (Tr.wt (h + 1) : Int)) = wtA (h + 1 + 1) from wtA_set (by omega))] at hS
      refine WL.nil ?_
      refine ⟨by exact trivial, ?_⟩
      intro m2
      replace hS := hS.drewN m2; generalize hwm2 : World.drewN _ _ = w at *; clear hwm2
      as_aux_lemma =>
        refine WC.region ?_
        refine WL.r 2 rfl ?_
        refine WL.nw 7 rfl (w64 (by omega)) ?_
        refine WL.r 1 rfl ?_
        refine WL.nil ?_
        exact ⟨_, by omega, h + 1, rfl, hS, (by omega), rfl⟩
    · refine WC.exit ?_
      refine WC.seq ?_
      refine WC.region ?_
      refine WL.ldF rfl rfl 0 hS rfl rfl ag_221 ?_
      refine WL.stF rfl rfl rfl 1 hS rfl rfl rfl rfl rfl ag_221 (fun w hS => ?_)
      replace hS : St g (cel b2 (wtA (h + 1)) 221 :: cel b1 (wtA (h + 1)) 221 :: L) w := hS
      refine WL.nil ?_
      refine WC.ret ?_
      refine ⟨[.agg (wtA (h + 1))], ⟨⟨_, rfl, hS.lvF 1 rfl ag_221⟩, trivial⟩, ?_⟩
      replace hS := (hS.sel 2 [] rfl)
      have hh9 : h = 80 := (by omega); subst hh9; exact ⟨rfl, hS⟩
theorem r7_height {g w : World} {L : List HP} (keys : Nat) (hk : keys ≤ 2147483647) (hS : St g (L) w) :
    Sp Try.prog 128 [.int .i64 (keys : Int)] w (fun v w' => v = .int .i64 (Tr.mxH keys : Int) ∧ St g (L) w') := by
  refine Sp.enter Try.func128 rfl (by kernel_rfl) (by kernel_rfl) ?_
  have _ := hk
  refine WC.seq ?_
  refine WC.region ?_
  refine WL.r 1 rfl ?_
  refine WL.nil ?_
  refine WC.seq ?_
  refine WC.seq ?_
  refine WC.region ?_
  refine WL.r 2 rfl ?_
  refine WL.rG 4 rfl (fun j => ?_)
  refine WL.prop 10 rfl (bor (dd _) (dd _)) ?_
  refine WL.nil ?_
  refine WC.ifF rfl (decide_eq_false ((by omega))) ?_
  refine WC.skip ?_
  refine WC.seq ?_
  refine WC.region ?_
  refine WL.call rfl rfl (r7_weights   (hS := hS)) rfl ?_
  clear hS; rintro _ w ⟨rfl, hS⟩
  replace hS : St g (L) w := hS
  refine WL.new rfl rfl zv_221 hS (fun b1 w hS => ?_)
  refine WL.stF rfl rfl rfl 0 hS rfl rfl rfl rfl rfl ag_221 (fun w hS => ?_)
  replace hS : St g (cel b1 (wtA 81) 221 :: L) w := hS
  refine WL.nil ?_
  refine WC.seq ?_
  refine WC.region ?_
  refine WL.r 1 rfl ?_
  refine WL.nil ?_
  as_aux_lemma =>
    refine WC.seq ?_
    refine WC.block ?_
    refine WC.loop [0, 2, 3, 4] (fun kM vs w => ∃ (h : Nat), vs = [.int .i64 (keys : Int), .int .i64 0, .pointer (some ⟨b1, 0, none⟩), .int .i64 (h : Int)] ∧ St g (cel b1 (wtA 81) 221 :: L) w ∧ (h ≤ 80) ∧ (Tr.mxA keys (80 - h) h = Tr.mxH keys) ∧ (80 - h) = kM) (80 - 0) ⟨0, rfl, hS, (by omega), (rfl), rfl⟩ ?_
    clear hS; rintro _ _ w j ⟨h, rfl, hS, hh, hm, rfl⟩
    refine WC.seq ?_
    refine WC.seq ?_
    refine WC.region ?_
    refine WL.r 3 rfl ?_
    by_cases cg1 : (h : Int) < 80
    · refine WL.reb 14 (.bool true) (congrArg Value.bool (decide_eq_true cg1)) ?_
      refine WL.ung rfl rfl rfl ?_
      refine WL.r 1 rfl ?_
      refine WL.ung rfl rfl rfl ?_
      refine WL.r 1 rfl ?_
      refine WL.nw 16 rfl (w64 (by omega)) ?_
      refine WL.ung rfl rfl rfl ?_
      refine WL.ixP rfl rfl (h + 1) ap_221 rfl rfl (by omega) (by omega) ?_
      refine WL.ung rfl rfl rfl ?_
      refine WL.run 1 [.int .i64 (Tr.wt (h + 1) : Int)] rfl (by exact hS.ld 0 rfl (wtA_at (by omega) (by omega))) ?_
      refine WL.ung rfl rfl rfl ?_
      refine WL.r 1 rfl ?_
      refine WL.nw 19 rfl (w64 (by have hbg := wt_big (h + 1) (by omega); omega)) ?_
      refine WL.ung rfl rfl rfl ?_
      refine WL.r 1 rfl ?_
      refine WL.ung rfl rfl rfl ?_
      refine WL.r 2 rfl ?_
      refine WL.nil ?_
      as_aux_lemma =>
        refine WC.ifP rfl (fun cd1 => ?_) (fun cd1 => ?_)
        · refine WC.skip ?_
          refine WC.block ?_
          refine WC.region ?_
          refine WL.r 2 rfl ?_
          refine WL.nw 24 rfl (w64 (by omega)) ?_
          refine WL.r 1 rfl ?_
          refine WL.nil ?_
          exact ⟨_, by omega, h + 1, rfl, hS, (by omega), (by rw [mxA_go (by omega) (by omega)]; exact hm), rfl⟩
        · refine WC.exit ?_
          refine WC.seq ?_
          refine WC.region ?_
          refine WL.r 2 rfl ?_
          refine WL.nil ?_
          refine WC.ret ?_
          refine ⟨[.int .i64 (h : Int)], rfl, ?_⟩
          replace hS := (hS.sel 1 [] rfl)
          exact ⟨congrArg (fun n : Nat => Value.int .i64 n) ((mxA_stop (keys := keys) (by omega) (by omega)).symm.trans hm), hS⟩
    · refine WL.reb 14 (.bool false) (congrArg Value.bool (decide_eq_false cg1)) ?_
      refine WL.skp rfl rfl rfl rfl ?_
      refine WL.skp rfl rfl rfl rfl ?_
      refine WL.skp rfl rfl rfl rfl ?_
      refine WL.skp rfl rfl rfl rfl ?_
      refine WL.skp rfl rfl rfl rfl ?_
      refine WL.skp rfl rfl rfl rfl ?_
      refine WL.skp rfl rfl rfl rfl ?_
      refine WL.r 1 rfl ?_
      refine WL.nil ?_
      refine WC.ifF rfl rfl ?_
      refine WC.exit ?_
      refine WC.seq ?_
      refine WC.region ?_
      refine WL.r 2 rfl ?_
      refine WL.nil ?_
      as_aux_lemma =>
        refine WC.ret ?_
        refine ⟨[.int .i64 (h : Int)], rfl, ?_⟩
        replace hS := (hS.sel 1 [] rfl)
        exact ⟨congrArg (fun n : Nat => Value.int .i64 n) (by rw [← hm, show 80 - h = 0 by omega]; rfl), hS⟩
theorem r8_need {g w : World} {L : List HP} (n : Nat) (hn : n ≤ 65536) (hS : St g (L) w) :
    Sp Try.prog 105 [.int .i64 (n : Int), .int .i64 0, .int .i64 0, .int .i64 1, .int .i64 0, .int .i64 4] w (fun v w' => v = .int .i64 (4 * ((Tr.mxH (n + 1) : Int) + 2)) ∧ St g (L) w') := by
  refine Sp.enter Try.func105 rfl (by kernel_rfl) (by kernel_rfl) ?_
  have _ := hn
  refine WC.seq ?_
  refine WC.region ?_
  refine WL.r 1 rfl ?_
  refine WL.nil ?_
  refine WC.seq ?_
  refine WC.seq ?_
  refine WC.region ?_
  refine WL.r 2 rfl ?_
  refine WL.rG 20 rfl (fun j => ?_)
  refine WL.prop 34 rfl (bor (bor (bor (bor (bor (dd _) (dd _)) (dd _)) (dd _)) (dd _)) (dd _)) ?_
  refine WL.nil ?_
  refine WC.ifF rfl (decide_eq_false ((by omega))) ?_
  refine WC.skip ?_
  refine WC.seq ?_
  refine WC.region ?_
  have hmx := Tr.mxH_le (n + 1)
  refine WL.r 5 rfl ?_
  refine WL.nw 39 rfl (w64 (by omega)) ?_
  refine WL.r 2 rfl ?_
  refine WL.nw 41 rfl (w64 (by omega)) ?_
  refine WL.r 2 rfl ?_
  refine WL.reb 43 (.int .i64 ((n + 1 : Nat) : Int)) (congrArg (Value.int .i64) (by rw [w64 (by omega)]; omega)) ?_
  refine WL.call rfl rfl (r7_height (keys := (n + 1 : Nat)) (hk := (by omega)) (hS := hS)) rfl ?_
  clear hS; rintro _ w ⟨rfl, hS⟩
  replace hS : St g (L) w := hS
  refine WL.r 1 rfl ?_
  refine WL.nw 45 rfl (w64 (by omega)) ?_
  refine WL.r 1 rfl ?_
  refine WL.nw 46 rfl (w64 (by omega)) ?_
  refine WL.r 1 rfl ?_
  refine WL.nw 47 rfl (w64 (by omega)) ?_
  refine WL.r 1 rfl ?_
  refine WL.nil ?_
  as_aux_lemma =>
    refine WC.ret ?_
    refine ⟨[.int .i64 (0 + (4 * ((Tr.mxH (n + 1 : Nat) : Int) + 2)))], rfl, ?_⟩
    exact ⟨congrArg (Value.int .i64) (by omega), hS⟩
theorem r8_ins {g w : World} {L : List HP} (n : Nat) (hn : n ≤ 65536) (hS : St g (L) w) :
    Sp Try.prog 69 [.int .i64 (n : Int)] w (fun v w' => v = .int .i64 (4 * ((Tr.mxH (n + 1) : Int) + 2)) ∧ St g (L) w') := by
  refine Sp.enter Try.func69 rfl (by kernel_rfl) (by kernel_rfl) ?_
  refine WC.seq ?_
  refine WC.region ?_
  refine WL.r 1 rfl ?_
  refine WL.nil ?_
  refine WC.seq ?_
  refine WC.region ?_
  refine WL.r 1 rfl ?_
  refine WL.call rfl rfl (r8_need (n := n) (hn := hn) (hS := hS)) rfl ?_
  clear hS; rintro _ w ⟨rfl, hS⟩
  replace hS : St g (L) w := hS
  refine WL.r 1 rfl ?_
  refine WL.nil ?_
  refine WC.ret ?_
  refine ⟨[.int .i64 (4 * ((Tr.mxH (n + 1) : Int) + 2))], rfl, ?_⟩
  exact ⟨rfl, hS⟩
end Go.Proofs.Ytlnlnebibgdjdaa
