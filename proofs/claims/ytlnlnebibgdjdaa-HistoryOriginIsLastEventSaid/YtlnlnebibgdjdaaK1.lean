/-
  The helpers of the statements that make trees: least, pivot, Plant.
  Conditions: the arena has a free slot for each entry.
-/
import Derived.Test.YtlnlnebibgdjdaaW1
namespace Go.Proofs.Ytlnlnebibgdjdaa
open Go Go.V

theorem kb_bal {g w : World} {L : List HP} (x y : Int) (hx : 0 ≤ x ∧ x ≤ 2000000000) (hy : 0 ≤ y ∧ y ≤ 2000000000) (hS : St g (L) w) :
    Sp Try.prog 130 [.int .i64 x, .int .i64 y] w (fun v w' => v = .bool (decide (x + 1 ≤ 3 * (y + 1) ∧ y + 1 ≤ 3 * (x + 1))) ∧ St g (L) w') := by
  refine Sp.enter Try.func130 rfl (by kernel_rfl) (by kernel_rfl) ?_
  have _ := hy
  have _ := hx
  refine WC.seq ?_
  refine WC.region ?_
  refine WL.r 1 rfl ?_
  refine WL.nil ?_
  refine WC.seq ?_
  refine WC.seq ?_
  refine WC.region ?_
  refine WL.r 2 rfl ?_
  refine WL.rG 12 rfl (fun j => ?_)
  refine WL.prop 18 rfl (bor (bor (bor (dd _) (dd _)) (dd _)) (dd _)) ?_
  refine WL.nil ?_
  refine WC.ifF rfl (decide_eq_false ((by omega))) ?_
  refine WC.skip ?_
  refine WC.seq ?_
  refine WC.region ?_
  refine WL.r 2 rfl ?_
  refine WL.nw 20 rfl (w64 (by omega)) ?_
  refine WL.r 2 rfl ?_
  refine WL.nw 22 rfl (w64 (by omega)) ?_
  refine WL.r 1 rfl ?_
  refine WL.nw 23 rfl (w64 (by omega)) ?_
  refine WL.r 1 rfl ?_
  refine WL.rG 9 rfl (fun j => ?_)
  refine WL.prop 32 rfl (band (dd _) (dd _)) ?_
  refine WL.nil ?_
  as_aux_lemma =>
    refine WC.ret ?_
    refine ⟨[.bool (bif (decide ((x + 1) ≤ (3 * (y + 1)))) then (decide ((IntKind.i64.wrap (y + 1)) ≤ (IntKind.i64.wrap (3 * (IntKind.i64.wrap (x + 1)))))) else false)], rfl, ?_⟩
    exact ⟨congrArg Value.bool (by rw [w64 (z := y + 1) (by omega), w64 (z := x + 1) (by omega), w64 (z := 3 * (x + 1)) (by omega), bif_and]), hS⟩
theorem kt_least {g w : World} {L : List HP} (n : Nat) (hn : n ≤ 1000000) (hS : St g (L) w) :
    Sp Try.prog 129 [.int .i64 (n : Int)] w (fun v w' => v = .int .i64 ((n : Int) / 4) ∧ St g (L) w') := by
  refine Sp.enter Try.func129 rfl (by kernel_rfl) (by kernel_rfl) ?_
  have _ := hn
  refine WC.seq ?_
  refine WC.region ?_
  refine WL.r 1 rfl ?_
  refine WL.nil ?_
  refine WC.seq ?_
  refine WC.region ?_
  refine WL.r 3 rfl ?_
  refine WL.reb 5 (.int .i64 ((max 0 (n : Int)) / 4)) (congrArg (Value.int .i64) (quo_i64 (p := max 0 (n : Int)) (q := 4) (by omega))) ?_
  refine WL.r 1 rfl ?_
  refine WL.nil ?_
  refine WC.ret ?_
  refine ⟨[.int .i64 ((max 0 (n : Int)) / 4)], rfl, ?_⟩
  exact ⟨congrArg (Value.int .i64) (by omega), hS⟩
theorem kt_pivot {g w : World} {L : List HP} (n : Nat) (q : Int) (hn : 1 ≤ n ∧ n ≤ 1000000) (hq : 0 ≤ q ∧ q < 18446744073709551616) (hS : St g (L) w) :
    Sp Try.prog 107 [.int .i64 (n : Int), .int .u64 q] w (fun v w' => ∃ (p : Nat), v = .int .i64 (p : Int) ∧ St g (L) w' ∧ (p < n) ∧ (Bal p (n - 1 - p))) := by
  refine Sp.enter Try.func107 rfl (by kernel_rfl) (by kernel_rfl) ?_
  have _ := hq
  have _ := hn
  refine WC.seq ?_
  refine WC.region ?_
  refine WL.r 1 rfl ?_
  refine WL.nil ?_
  refine WC.seq ?_
  refine WC.region ?_
  refine WL.r 1 rfl ?_
  refine WL.call rfl rfl (kt_least (n := n) (hn := (by omega)) (hS := hS)) rfl ?_
  clear hS; rintro _ w ⟨rfl, hS⟩
  replace hS : St g (L) w := hS
  refine WL.r 1 rfl ?_
  refine WL.nil ?_
  refine WC.seq ?_
  refine WC.block ?_
  refine WC.loop [0, 1, 4, 5] (fun kM vs w => ∃ (j : Int), vs = [.int .i64 (n : Int), .int .u64 q, .int .i64 0, .int .i64 j] ∧ St g (L) w ∧ (0 ≤ j ∧ j < n) ∧ (j.toNat) = kM) (((n : Int) / 4).toNat) ⟨(n : Int) / 4, rfl, hS, (by omega), rfl⟩ ?_
  clear hS; rintro _ _ w j ⟨j, rfl, hS, hj, rfl⟩
  refine WC.seq ?_
  refine WC.seq ?_
  refine WC.region ?_
  refine WL.r 3 rfl ?_
  by_cases cg1 : 0 < j
  · refine WL.reb 11 (.bool true) (congrArg Value.bool (decide_eq_true cg1)) ?_
    refine WL.ung rfl rfl rfl ?_
    refine WL.r 1 rfl ?_
    refine WL.ung rfl rfl rfl ?_
    refine WL.r 1 rfl ?_
    refine WL.nw 13 rfl (w64 (by omega)) ?_
    refine WL.ung rfl rfl rfl ?_
    refine WL.r 1 rfl ?_
    refine WL.ung rfl rfl rfl ?_
    refine WL.r 1 rfl ?_
    refine WL.ung rfl rfl rfl ?_
    refine WL.r 1 rfl ?_
    refine WL.nw 16 rfl (w64 (by omega)) ?_
    refine WL.ung rfl rfl rfl ?_
    refine WL.call rfl rfl (kb_bal (x := j - 1) (y := (n : Int) - j) (hx := (by omega)) (hy := (by omega)) (hS := hS)) rfl ?_
    clear hS; rintro _ w ⟨rfl, hS⟩
    replace hS : St g (L) w := hS
    refine WL.r 1 rfl ?_
    refine WL.nil ?_
    as_aux_lemma =>
      refine WC.ifP rfl (fun cd1 => ?_) (fun cd1 => ?_)
      · refine WC.skip ?_
        refine WC.block ?_
        refine WC.region ?_
        refine WL.r 2 rfl ?_
        refine WL.nw 20 rfl (w64 (by omega)) ?_
        refine WL.r 1 rfl ?_
        refine WL.nil ?_
        exact ⟨_, by omega, j - 1, rfl, hS, (by omega), rfl⟩
      · refine WC.exit ?_
        refine WC.seq ?_
        refine WC.block ?_
        refine WC.loop [0, 1, 4, 5] (fun kM vs w => ∃ (k : Int), vs = [.int .i64 (n : Int), .int .u64 q, .int .i64 0, .int .i64 k] ∧ St g (L) w ∧ (0 ≤ k ∧ k < n) ∧ ((n - k).toNat) = kM) ((n - j).toNat) ⟨j, rfl, hS, (hj), rfl⟩ ?_
        clear hS; rintro _ _ w j ⟨k, rfl, hS, hk, rfl⟩
        refine WC.seq ?_
        refine WC.seq ?_
        refine WC.region ?_
        refine WL.r 3 rfl ?_
        refine WL.nw 23 rfl (w64 (by omega)) ?_
        refine WL.r 2 rfl ?_
        by_cases cg2 : k < ((n : Int) - 1)
        · refine WL.reb 25 (.bool true) (congrArg Value.bool (decide_eq_true cg2)) ?_
          refine WL.ung rfl rfl rfl ?_
          refine WL.r 1 rfl ?_
          refine WL.ung rfl rfl rfl ?_
          refine WL.r 1 rfl ?_
          refine WL.ung rfl rfl rfl ?_
          refine WL.r 1 rfl ?_
          refine WL.nw 28 rfl (w64 (by omega)) ?_
          refine WL.ung rfl rfl rfl ?_
          refine WL.r 1 rfl ?_
          refine WL.ung rfl rfl rfl ?_
          refine WL.r 1 rfl ?_
          refine WL.nw 30 rfl (w64 (by omega)) ?_
          refine WL.ung rfl rfl rfl ?_
          refine WL.call rfl rfl (kb_bal (x := k) (y := ((n : Int) - 1) - k) (hx := (by omega)) (hy := (by omega)) (hS := hS)) rfl ?_
          clear hS; rintro _ w ⟨rfl, hS⟩
          replace hS : St g (L) w := hS
          refine WL.ung rfl rfl rfl ?_
          refine WL.r 1 rfl ?_
          refine WL.prop 32 rfl (bnot (dd _)) ?_
          refine WL.r 1 rfl ?_
          refine WL.nil ?_
          as_aux_lemma =>
            refine WC.ifP rfl (fun cd2 => ?_) (fun cd2 => ?_)
            · refine WC.skip ?_
              refine WC.block ?_
              refine WC.region ?_
              refine WL.r 2 rfl ?_
              refine WL.nw 35 rfl (w64 (by omega)) ?_
              refine WL.r 1 rfl ?_
              refine WL.nil ?_
              exact ⟨_, by omega, k + 1, rfl, hS, (by omega), rfl⟩
            · refine WC.exit ?_
              refine WC.seq ?_
              refine WC.region ?_
              refine WL.r 2 rfl ?_
              refine WL.nw 37 rfl (w64 (by omega)) ?_
              refine WL.r 2 rfl ?_
              refine WL.nw 39 rfl (w64 (by omega)) ?_
              refine WL.r 1 rfl ?_
              refine WL.nil ?_
              refine WC.seq ?_
              refine WC.seq ?_
              refine WC.region ?_
              refine WL.r 3 rfl ?_
              refine WL.nil ?_
              refine WC.ifP rfl (fun cd3 => ?_) (fun cd3 => ?_)
              · refine WC.seq ?_
                refine WC.region ?_
                refine WL.r 2 rfl ?_
                refine WL.reb 44 (.int .i64 ((n : Int) / 2)) (congrArg (Value.int .i64) (quo_i64 (p := (n : Int)) (q := 2) (by omega))) ?_
                refine WL.r 1 rfl ?_
                refine WL.nil ?_
                refine WC.ret ?_
                refine ⟨[.int .i64 ((n : Int) / 2)], rfl, ?_⟩
                exact ⟨n / 2, congrArg (Value.int .i64) (by omega), hS, by omega, by constructor <;> omega⟩
              · refine WC.skip ?_
                refine WC.seq ?_
                refine WC.region ?_
                obtain ⟨m, hm⟩ : ∃ m : Nat, (n : Int) - 1 - k - k + 1 = Int.ofNat (m + 1) := ⟨((n : Int) - 1 - k - k).toNat, by simp; omega⟩; have hm1 := Int.emod_nonneg q (b := Int.ofNat (m + 1)) (by first | (simp; done) | (simp; omega)); have hm2 := Int.emod_lt_of_pos q (b := Int.ofNat (m + 1)) (by first | (simp; done) | (simp; omega))
                refine WL.r 5 rfl ?_
                refine WL.nw 49 rfl (w64 (by omega)) ?_
                refine WL.r 1 rfl ?_
                refine WL.nw 50 rfl (w64 (by omega)) ?_
                refine WL.r 1 rfl ?_
                refine WL.reb 51 (.int .u64 (Int.ofNat (m + 1))) (congrArg (Value.int .u64) (by rw [wu64 (by omega)]; exact hm)) ?_
                refine WL.r 1 rfl ?_
                refine WL.reb 52 (.int .u64 (q % (Int.ofNat (m + 1)))) (congrArg (Value.int .u64) (Int.tmod_eq_emod_of_nonneg (a := q) (by omega))) ?_
                refine WL.r 1 rfl ?_
                refine WL.nw 53 rfl (w64 (by omega)) ?_
                refine WL.r 1 rfl ?_
                refine WL.nw 54 rfl (w64 (by omega)) ?_
                refine WL.r 1 rfl ?_
                refine WL.nil ?_
                as_aux_lemma =>
                  refine WC.ret ?_
                  refine ⟨[.int .i64 (k + (q % (Int.ofNat (m + 1))))], rfl, ?_⟩
                  exact ⟨(k + q % Int.ofNat (m + 1)).toNat, congrArg (Value.int .i64) (by omega), hS, by omega, by constructor <;> omega⟩
        · refine WL.reb 25 (.bool false) (congrArg Value.bool (decide_eq_false cg2)) ?_
          refine WL.skp rfl rfl rfl rfl ?_
          refine WL.skp rfl rfl rfl rfl ?_
          refine WL.skp rfl rfl rfl rfl ?_
          refine WL.skp rfl rfl rfl rfl ?_
          refine WL.skp rfl rfl rfl rfl ?_
          refine WL.skp rfl rfl rfl rfl ?_
          refine WL.skp rfl rfl rfl rfl ?_
          refine WL.r 1 rfl ?_
          refine WL.nil ?_
          refine WC.ifF rfl rfl ?_
          refine WC.exit ?_
          as_aux_lemma =>
            refine WC.seq ?_
            refine WC.region ?_
            refine WL.r 2 rfl ?_
            refine WL.nw 37 rfl (w64 (by omega)) ?_
            refine WL.r 2 rfl ?_
            refine WL.nw 39 rfl (w64 (by omega)) ?_
            refine WL.r 1 rfl ?_
            refine WL.nil ?_
            refine WC.seq ?_
            refine WC.seq ?_
            refine WC.region ?_
            refine WL.r 3 rfl ?_
            refine WL.nil ?_
            refine WC.ifP rfl (fun cd2 => ?_) (fun cd2 => ?_)
            · refine WC.seq ?_
              refine WC.region ?_
              refine WL.r 2 rfl ?_
              refine WL.reb 44 (.int .i64 ((n : Int) / 2)) (congrArg (Value.int .i64) (quo_i64 (p := (n : Int)) (q := 2) (by omega))) ?_
              refine WL.r 1 rfl ?_
              refine WL.nil ?_
              refine WC.ret ?_
              refine ⟨[.int .i64 ((n : Int) / 2)], rfl, ?_⟩
              exact ⟨n / 2, congrArg (Value.int .i64) (by omega), hS, by omega, by constructor <;> omega⟩
            · refine WC.skip ?_
              refine WC.seq ?_
              refine WC.region ?_
              obtain ⟨m, hm⟩ : ∃ m : Nat, (n : Int) - 1 - k - k + 1 = Int.ofNat (m + 1) := ⟨((n : Int) - 1 - k - k).toNat, by simp; omega⟩; have hm1 := Int.emod_nonneg q (b := Int.ofNat (m + 1)) (by first | (simp; done) | (simp; omega)); have hm2 := Int.emod_lt_of_pos q (b := Int.ofNat (m + 1)) (by first | (simp; done) | (simp; omega))
              refine WL.r 5 rfl ?_
              refine WL.nw 49 rfl (w64 (by omega)) ?_
              refine WL.r 1 rfl ?_
              refine WL.nw 50 rfl (w64 (by omega)) ?_
              refine WL.r 1 rfl ?_
              refine WL.reb 51 (.int .u64 (Int.ofNat (m + 1))) (congrArg (Value.int .u64) (by rw [wu64 (by omega)]; exact hm)) ?_
              refine WL.r 1 rfl ?_
              refine WL.reb 52 (.int .u64 (q % (Int.ofNat (m + 1)))) (congrArg (Value.int .u64) (Int.tmod_eq_emod_of_nonneg (a := q) (by omega))) ?_
              refine WL.r 1 rfl ?_
              refine WL.nw 53 rfl (w64 (by omega)) ?_
              refine WL.r 1 rfl ?_
              refine WL.nw 54 rfl (w64 (by omega)) ?_
              refine WL.r 1 rfl ?_
              refine WL.nil ?_
              as_aux_lemma =>
                refine WC.ret ?_
                refine ⟨[.int .i64 (k + (q % (Int.ofNat (m + 1))))], rfl, ?_⟩
                exact ⟨(k + q % Int.ofNat (m + 1)).toNat, congrArg (Value.int .i64) (by omega), hS, by omega, by constructor <;> omega⟩
  · refine WL.reb 11 (.bool false) (congrArg Value.bool (decide_eq_false cg1)) ?_
    refine WL.skp rfl rfl rfl rfl ?_
    refine WL.skp rfl rfl rfl rfl ?_
    refine WL.skp rfl rfl rfl rfl ?_
    refine WL.skp rfl rfl rfl rfl ?_
    refine WL.skp rfl rfl rfl rfl ?_
    refine WL.skp rfl rfl rfl rfl ?_
    refine WL.r 1 rfl ?_
    refine WL.nil ?_
    as_aux_lemma =>
      refine WC.ifF rfl rfl ?_
      refine WC.exit ?_
      refine WC.seq ?_
      refine WC.block ?_
      refine WC.loop [0, 1, 4, 5] (fun kM vs w => ∃ (k : Int), vs = [.int .i64 (n : Int), .int .u64 q, .int .i64 0, .int .i64 k] ∧ St g (L) w ∧ (0 ≤ k ∧ k < n) ∧ ((n - k).toNat) = kM) ((n - j).toNat) ⟨j, rfl, hS, (hj), rfl⟩ ?_
      clear hS; rintro _ _ w j ⟨k, rfl, hS, hk, rfl⟩
      refine WC.seq ?_
      refine WC.seq ?_
      refine WC.region ?_
      refine WL.r 3 rfl ?_
      refine WL.nw 23 rfl (w64 (by omega)) ?_
      refine WL.r 2 rfl ?_
      by_cases cg2 : k < ((n : Int) - 1)
      · refine WL.reb 25 (.bool true) (congrArg Value.bool (decide_eq_true cg2)) ?_
        refine WL.ung rfl rfl rfl ?_
        refine WL.r 1 rfl ?_
        refine WL.ung rfl rfl rfl ?_
        refine WL.r 1 rfl ?_
        refine WL.ung rfl rfl rfl ?_
        refine WL.r 1 rfl ?_
        refine WL.nw 28 rfl (w64 (by omega)) ?_
        refine WL.ung rfl rfl rfl ?_
        refine WL.r 1 rfl ?_
        refine WL.ung rfl rfl rfl ?_
        refine WL.r 1 rfl ?_
        refine WL.nw 30 rfl (w64 (by omega)) ?_
        refine WL.ung rfl rfl rfl ?_
        refine WL.call rfl rfl (kb_bal (x := k) (y := ((n : Int) - 1) - k) (hx := (by omega)) (hy := (by omega)) (hS := hS)) rfl ?_
        clear hS; rintro _ w ⟨rfl, hS⟩
        replace hS : St g (L) w := hS
        refine WL.ung rfl rfl rfl ?_
        refine WL.r 1 rfl ?_
        refine WL.prop 32 rfl (bnot (dd _)) ?_
        refine WL.r 1 rfl ?_
        refine WL.nil ?_
        as_aux_lemma =>
          refine WC.ifP rfl (fun cd1 => ?_) (fun cd1 => ?_)
          · refine WC.skip ?_
            refine WC.block ?_
            refine WC.region ?_
            refine WL.r 2 rfl ?_
            refine WL.nw 35 rfl (w64 (by omega)) ?_
            refine WL.r 1 rfl ?_
            refine WL.nil ?_
            exact ⟨_, by omega, k + 1, rfl, hS, (by omega), rfl⟩
          · refine WC.exit ?_
            refine WC.seq ?_
            refine WC.region ?_
            refine WL.r 2 rfl ?_
            refine WL.nw 37 rfl (w64 (by omega)) ?_
            refine WL.r 2 rfl ?_
            refine WL.nw 39 rfl (w64 (by omega)) ?_
            refine WL.r 1 rfl ?_
            refine WL.nil ?_
            refine WC.seq ?_
            refine WC.seq ?_
            refine WC.region ?_
            refine WL.r 3 rfl ?_
            refine WL.nil ?_
            refine WC.ifP rfl (fun cd2 => ?_) (fun cd2 => ?_)
            · refine WC.seq ?_
              refine WC.region ?_
              refine WL.r 2 rfl ?_
              refine WL.reb 44 (.int .i64 ((n : Int) / 2)) (congrArg (Value.int .i64) (quo_i64 (p := (n : Int)) (q := 2) (by omega))) ?_
              refine WL.r 1 rfl ?_
              refine WL.nil ?_
              refine WC.ret ?_
              refine ⟨[.int .i64 ((n : Int) / 2)], rfl, ?_⟩
              exact ⟨n / 2, congrArg (Value.int .i64) (by omega), hS, by omega, by constructor <;> omega⟩
            · refine WC.skip ?_
              refine WC.seq ?_
              refine WC.region ?_
              obtain ⟨m, hm⟩ : ∃ m : Nat, (n : Int) - 1 - k - k + 1 = Int.ofNat (m + 1) := ⟨((n : Int) - 1 - k - k).toNat, by simp; omega⟩; have hm1 := Int.emod_nonneg q (b := Int.ofNat (m + 1)) (by first | (simp; done) | (simp; omega)); have hm2 := Int.emod_lt_of_pos q (b := Int.ofNat (m + 1)) (by first | (simp; done) | (simp; omega))
              refine WL.r 5 rfl ?_
              refine WL.nw 49 rfl (w64 (by omega)) ?_
              refine WL.r 1 rfl ?_
              refine WL.nw 50 rfl (w64 (by omega)) ?_
              refine WL.r 1 rfl ?_
              refine WL.reb 51 (.int .u64 (Int.ofNat (m + 1))) (congrArg (Value.int .u64) (by rw [wu64 (by omega)]; exact hm)) ?_
              refine WL.r 1 rfl ?_
              refine WL.reb 52 (.int .u64 (q % (Int.ofNat (m + 1)))) (congrArg (Value.int .u64) (Int.tmod_eq_emod_of_nonneg (a := q) (by omega))) ?_
              refine WL.r 1 rfl ?_
              refine WL.nw 53 rfl (w64 (by omega)) ?_
              refine WL.r 1 rfl ?_
              refine WL.nw 54 rfl (w64 (by omega)) ?_
              refine WL.r 1 rfl ?_
              refine WL.nil ?_
              as_aux_lemma =>
                refine WC.ret ?_
                refine ⟨[.int .i64 (k + (q % (Int.ofNat (m + 1))))], rfl, ?_⟩
                exact ⟨(k + q % Int.ofNat (m + 1)).toNat, congrArg (Value.int .i64) (by omega), hS, by omega, by constructor <;> omega⟩
      · refine WL.reb 25 (.bool false) (congrArg Value.bool (decide_eq_false cg2)) ?_
        refine WL.skp rfl rfl rfl rfl ?_
        refine WL.skp rfl rfl rfl rfl ?_
        refine WL.skp rfl rfl rfl rfl ?_
        refine WL.skp rfl rfl rfl rfl ?_
        refine WL.skp rfl rfl rfl rfl ?_
        refine WL.skp rfl rfl rfl rfl ?_
        refine WL.skp rfl rfl rfl rfl ?_
        refine WL.r 1 rfl ?_
        refine WL.nil ?_
        refine WC.ifF rfl rfl ?_
        refine WC.exit ?_
        as_aux_lemma =>
          refine WC.seq ?_
          refine WC.region ?_
          refine WL.r 2 rfl ?_
          refine WL.nw 37 rfl (w64 (by omega)) ?_
          refine WL.r 2 rfl ?_
          refine WL.nw 39 rfl (w64 (by omega)) ?_
          refine WL.r 1 rfl ?_
          refine WL.nil ?_
          refine WC.seq ?_
          refine WC.seq ?_
          refine WC.region ?_
          refine WL.r 3 rfl ?_
          refine WL.nil ?_
          refine WC.ifP rfl (fun cd1 => ?_) (fun cd1 => ?_)
          · refine WC.seq ?_
            refine WC.region ?_
            refine WL.r 2 rfl ?_
            refine WL.reb 44 (.int .i64 ((n : Int) / 2)) (congrArg (Value.int .i64) (quo_i64 (p := (n : Int)) (q := 2) (by omega))) ?_
            refine WL.r 1 rfl ?_
            refine WL.nil ?_
            refine WC.ret ?_
            refine ⟨[.int .i64 ((n : Int) / 2)], rfl, ?_⟩
            exact ⟨n / 2, congrArg (Value.int .i64) (by omega), hS, by omega, by constructor <;> omega⟩
          · refine WC.skip ?_
            refine WC.seq ?_
            refine WC.region ?_
            obtain ⟨m, hm⟩ : ∃ m : Nat, (n : Int) - 1 - k - k + 1 = Int.ofNat (m + 1) := ⟨((n : Int) - 1 - k - k).toNat, by simp; omega⟩; have hm1 := Int.emod_nonneg q (b := Int.ofNat (m + 1)) (by first | (simp; done) | (simp; omega)); have hm2 := Int.emod_lt_of_pos q (b := Int.ofNat (m + 1)) (by first | (simp; done) | (simp; omega))
            refine WL.r 5 rfl ?_
            refine WL.nw 49 rfl (w64 (by omega)) ?_
            refine WL.r 1 rfl ?_
            refine WL.nw 50 rfl (w64 (by omega)) ?_
            refine WL.r 1 rfl ?_
            refine WL.reb 51 (.int .u64 (Int.ofNat (m + 1))) (congrArg (Value.int .u64) (by rw [wu64 (by omega)]; exact hm)) ?_
            refine WL.r 1 rfl ?_
            refine WL.reb 52 (.int .u64 (q % (Int.ofNat (m + 1)))) (congrArg (Value.int .u64) (Int.tmod_eq_emod_of_nonneg (a := q) (by omega))) ?_
            refine WL.r 1 rfl ?_
            refine WL.nw 53 rfl (w64 (by omega)) ?_
            refine WL.r 1 rfl ?_
            refine WL.nw 54 rfl (w64 (by omega)) ?_
            refine WL.r 1 rfl ?_
            refine WL.nil ?_
            as_aux_lemma =>
              refine WC.ret ?_
              refine ⟨[.int .i64 (k + (q % (Int.ofNat (m + 1))))], rfl, ?_⟩
              exact ⟨(k + q % Int.ofNat (m + 1)).toNat, congrArg (Value.int .i64) (by omega), hS, by omega, by constructor <;> omega⟩
theorem u64_rng (z : Int) : 0 ≤ IntKind.u64.wrap z ∧ IntKind.u64.wrap z < 18446744073709551616 := by
  have h : IntKind.u64.wrap z = z % 18446744073709551616 := rfl
  rw [h]; omega
theorem split_at {l : Kvs} {p : Nat} {e : Int × Int} (he : l[p]? = some e) : l.take p ++ e :: l.drop (p + 1) = l := by
  obtain ⟨h, rfl⟩ := List.getElem?_eq_some_iff.1 he
  rw [← List.drop_eq_getElem_cons h, List.take_append_drop]
set_option maxHeartbeats 1000000 in
set_option maxRecDepth 8192 in
theorem kt_plant_step (nM : Nat) (ih : ∀ mM : Nat, mM < nM → ∀ (g w : World) (L : List HP) (a : Nat) (A : AM) (R : List Int) (l : Kvs) (u : Option Addr) (d : Nat) (q : Int), (ARf A R) → ((l.length : Int) ≤ A.s.free) → (l.length ≤ 100000) → (R.length + l.length ≤ 800000000) → (0 ≤ q ∧ q < 18446744073709551616) → l.length = mM → St g (Arn a A :: Sh 46 2 (en2 l) u d :: L) w → Sp Try.prog 71 [.pointer (some ⟨a, 0, none⟩), .slice u (List.length (en2 l)) d, .int .u64 q] w (fun v w' => ∃ (A2 : AM) (i : Int) (t : Tr), v = .tuple #[.int .u32 i, .bool true] ∧ St g (Arn a A2 :: Sh 46 2 (en2 l) u d :: L) w' ∧ (TOp A A2 R i t l.length) ∧ (t.ok) ∧ (t.ls = l))) {g w : World} {L : List HP} (a : Nat) (A : AM) (R : List Int) (l : Kvs) (u : Option Addr) (d : Nat) (q : Int) (hA : ARf A R) (hf : (l.length : Int) ≤ A.s.free) (hl : l.length ≤ 100000) (hz : R.length + l.length ≤ 800000000) (hq : 0 ≤ q ∧ q < 18446744073709551616) (hM : l.length = nM) (hS : St g (Arn a A :: Sh 46 2 (en2 l) u d :: L) w) :
    Sp Try.prog 71 [.pointer (some ⟨a, 0, none⟩), .slice u (List.length (en2 l)) d, .int .u64 q] w (fun v w' => ∃ (A2 : AM) (i : Int) (t : Tr), v = .tuple #[.int .u32 i, .bool true] ∧ St g (Arn a A2 :: Sh 46 2 (en2 l) u d :: L) w' ∧ (TOp A A2 R i t l.length) ∧ (t.ok) ∧ (t.ls = l)) := by
  refine Sp.enter Try.func71 rfl (by kernel_rfl) (by kernel_rfl) ?_
  have _ := hz
  have _ := hl
  have _ := hf
  refine WC.seq ?_
  refine WC.region ?_
  refine WL.r 2 rfl ?_
  refine WL.nil ?_
  refine WC.seq ?_
  refine WC.seq ?_
  refine WC.region ?_
  have hll := en2_len l
  refine WL.r 3 rfl ?_
  refine WL.nil ?_
  refine WC.ifP rfl (fun he => ?_) (fun he => ?_)
  · refine WC.seq ?_
    refine WC.region ?_
    refine WL.r 2 rfl ?_
    refine WL.nil ?_
    refine WC.ret ?_
    refine ⟨[.int .u32 0, .bool true], ⟨rfl, rfl⟩, ?_⟩
    have hn : l = [] := List.length_eq_zero_iff.1 (by omega); subst hn; exact ⟨A, 0, .nil, rfl, hS, ARf.refl (hA.cons0 (by omega)) rfl, trivial, rfl⟩
  · refine WC.skip ?_
    refine WC.seq ?_
    refine WC.region ?_
    refine WL.r 3 rfl ?_
    refine WL.call rfl rfl (kt_pivot (n := List.length (en2 l)) (q := q) (hn := (by omega)) (hq := hq) (hS := hS)) rfl ?_
    clear hS; rintro _ w ⟨p1, rfl, hS, f1, f2⟩
    replace hS : St g (Arn a A :: Sh 46 2 (en2 l) u d :: L) w := hS
    refine WL.r 1 rfl ?_
    refine WL.nil ?_
    refine WC.seq ?_
    refine WC.region ?_
    rw [hll] at f1 f2; obtain ⟨e, hee⟩ : ∃ e, l[p1]? = some e := ⟨_, List.getElem?_eq_getElem f1⟩; have hsp := split_at hee; have htl : (l.take p1).length = p1 := (by rw [List.length_take]; omega); have hdl : (l.drop (p1 + 1)).length = l.length - (p1 + 1) := List.length_drop
    refine WL.r 3 rfl ?_
    refine WL.slHi rfl rfl (v := (p1 : Int)) 1 (p1) (en2 (l.take p1)) el_36 hS rfl rfl rfl (by omega) (by omega) (en2_take _ _) (fun a1 hS => ?_)
    replace hS : St g (Sh 46 2 (en2 (l.take p1)) a1 d :: Arn a A :: Sh 46 2 (en2 l) u d :: L) w := hS
    refine WL.r 2 rfl ?_
    refine WL.reb 32 (.int .u64 (q / 5)) (congrArg (Value.int .u64) (quo_u64 (p := q) (q := 5) (by omega))) ?_
    refine WL.r 2 rfl ?_
    refine WL.r 1 rfl ?_
    refine WL.call rfl rfl (ih (List.length (l.take p1)) (by omega) _ _ _ a A R (l.take p1) a1 d (IntKind.u64.wrap ((q / 5) + (IntKind.u64.wrap (q * 3)))) (hA) ((by omega)) ((by omega)) ((by omega)) ((u64_rng _)) rfl (hS.sel 2 [1, 0] rfl)) rfl ?_
    clear hS; rintro _ w ⟨A1, i1, t1, rfl, hS, f3, f4, f5⟩
    replace hS : St g (Arn a A1 :: Sh 46 2 (en2 (l.take p1)) a1 d :: Sh 46 2 (en2 l) u d :: L) w := hS
    refine WL.r 5 rfl ?_
    refine WL.nil ?_
    as_aux_lemma =>
      refine WC.seq ?_
      refine WC.seq ?_
      refine WC.region ?_
      refine WL.r 2 rfl ?_
      refine WL.nil ?_
      refine WC.ifF rfl rfl ?_
      refine WC.skip ?_
      refine WC.seq ?_
      refine WC.region ?_
      have hfr1 := f3.fr
      refine WL.r 4 rfl ?_
      refine WL.reb 45 (.int .i64 ((p1 + 1 : Nat) : Int)) (congrArg (Value.int .i64) (by rw [w64 (by omega)]; omega)) ?_
      refine WL.slLo rfl rfl (v := ((p1 + 1 : Nat) : Int)) 2 (p1 + 1) (en2 (l.drop (p1 + 1))) el_36 hS rfl rfl rfl (by omega) (by omega) (en2_drop _ _) (fun a2 hS => ?_)
      replace hS : St g (Sh 46 2 (en2 (l.drop (p1 + 1))) a2 (d - (p1 + 1)) :: Arn a A1 :: Sh 46 2 (en2 (l.take p1)) a1 d :: Sh 46 2 (en2 l) u d :: L) w := hS
      refine WL.r 2 rfl ?_
      refine WL.reb 48 (.int .u64 (q / 7)) (congrArg (Value.int .u64) (quo_u64 (p := q) (q := 7) (by omega))) ?_
      refine WL.r 2 rfl ?_
      refine WL.r 1 rfl ?_
      refine WL.r 1 rfl ?_
      refine WL.call rfl rfl (ih (List.length (l.drop (p1 + 1))) (by omega) _ _ _ a A1 (i1 :: R) (l.drop (p1 + 1)) a2 (d - (p1 + 1)) (IntKind.u64.wrap ((IntKind.u64.wrap ((q / 7) + (IntKind.u64.wrap (q * 5)))) + 1)) (f3.ref) ((by omega)) ((by omega)) ((by simp only [List.length_cons]; omega)) ((u64_rng _)) rfl (hS.sel 2 [1, 0] rfl)) rfl ?_
      clear hS; rintro _ w ⟨A2, i2, t2, rfl, hS, f6, f7, f8⟩
      replace hS : St g (Arn a A2 :: Sh 46 2 (en2 (l.drop (p1 + 1))) a2 (d - (p1 + 1)) :: Sh 46 2 (en2 (l.take p1)) a1 d :: Sh 46 2 (en2 l) u d :: L) w := hS
      refine WL.r 5 rfl ?_
      refine WL.nil ?_
      refine WC.seq ?_
      refine WC.seq ?_
      refine WC.region ?_
      refine WL.r 2 rfl ?_
      refine WL.nil ?_
      as_aux_lemma =>
        refine WC.ifF rfl rfl ?_
        refine WC.skip ?_
        refine WC.seq ?_
        refine WC.plan [([0, 1, 2, 6, 7, 11, 12, 3, 8, 4, 9, 5, 10], some (13, [])), ([14, 15, 16, 17, 18], none)] (by kernel_rfl) (by kernel_rfl) ?_
        have hfr2 := f6.fr; have hn1 := Tr.ls_len t1; have hn2 := Tr.ls_len t2; rw [f5] at hn1; rw [f8] at hn2; have hM := Mk.of (k := e.1) (v := e.2) f6.ref.sw (f6.kp i1 (by simp) t1 f3.is) f6.is (by omega) (by omega) (by omega); have hrl := f6.ref.rng (r := i1) (by simp); have hrr := f6.ref.rng (r := i2) (by simp); have hnx := hM.is.1
        refine WQ.r 7 rfl ?_
        refine WQ.ix rfl rfl (i := (p1 : Int)) (p1) el_36 rfl rfl (by omega) (by omega) (hS.rdS 3 rfl (en2_at hee)).1 ?_
        refine WQ.ix rfl rfl (i := (p1 : Int)) (p1) el_36 rfl rfl (by omega) (by omega) (hS.rdS 3 rfl (en2_at hee)).1 ?_
        refine WQ.run 4 [.int .i64 e.1, .int .i64 e.2] rfl (by exact ⟨(hS.rdS 3 rfl (en2_at hee)).2 0 _ rfl, (hS.rdS 3 rfl (en2_at hee)).2 1 _ rfl⟩) ?_
        refine WQ.nil ?_
        intro m1
        replace hS := hS.drewN m1; generalize hwm1 : World.drewN _ _ = w at *; clear hwm1
        refine WL.call rfl rfl (ar_make (a := a) (A := A2) (key := e.1) (val := e.2) (l := i1) (r := i2) (hA := f6.ref.toAWf) (hK := hM.kd) (hf := (by omega)) (hS := hS)) rfl ?_
        clear hS; rintro _ w ⟨rfl, hS⟩
        replace hS : St g (Arn a (A2.make (A2.nodeOf e.1 e.2 i1 i2)) :: Sh 46 2 (en2 (l.drop (p1 + 1))) a2 (d - (p1 + 1)) :: Sh 46 2 (en2 (l.take p1)) a1 d :: Sh 46 2 (en2 l) u d :: L) w := hS
        refine WL.nil ?_
        refine ⟨by exact trivial, ?_⟩
        refine WQ.r 5 rfl ?_
        refine WQ.nil ?_
        intro m2
        replace hS := hS.drewN m2; generalize hwm2 : World.drewN _ _ = w at *; clear hwm2
        refine WC.seq ?_
        refine WC.region ?_
        refine WL.r 2 rfl ?_
        refine WL.call rfl rfl (tr_rel (a := a) (A := A2.make (A2.nodeOf e.1 e.2 i1 i2)) (R := A2.s.next :: i2 :: R) (i := i1) (hA := hM.p1) (hR := (by simp only [List.length_cons]; omega)) (hS := hS)) rfl ?_
        clear hS; rintro _ w ⟨A3, f9, rfl, hS, f10, f11⟩
        replace hS : St g (Arn a A3 :: Sh 46 2 (en2 (l.drop (p1 + 1))) a2 (d - (p1 + 1)) :: Sh 46 2 (en2 (l.take p1)) a1 d :: Sh 46 2 (en2 l) u d :: L) w := hS
        refine WL.r 5 rfl ?_
        refine WL.nil ?_
        as_aux_lemma =>
          refine WC.seq ?_
          refine WC.region ?_
          refine WL.r 2 rfl ?_
          refine WL.call rfl rfl (tr_rel (a := a) (A := A3) (R := A2.s.next :: R) (i := i2) (hA := f10.p1) (hR := (by simp only [List.length_cons]; omega)) (hS := hS)) rfl ?_
          clear hS; rintro _ w ⟨A4, f12, rfl, hS, f13, f14⟩
          replace hS : St g (Arn a A4 :: Sh 46 2 (en2 (l.drop (p1 + 1))) a2 (d - (p1 + 1)) :: Sh 46 2 (en2 (l.take p1)) a1 d :: Sh 46 2 (en2 l) u d :: L) w := hS
          refine WL.r 5 rfl ?_
          refine WL.nil ?_
          refine WC.seq ?_
          refine WC.region ?_
          refine WL.r 3 rfl ?_
          refine WL.rG 14 rfl (fun j => ?_)
          refine WL.prop 101 rfl (band (band (band (dd _) (dd _)) (dd _)) (dd _)) ?_
          refine WL.nil ?_
          refine WC.ret ?_
          refine ⟨[.int .u32 A2.s.next, .bool (bif (bif (bif (decide (0 = 0)) then (decide (0 = 0)) else false) then (decide (0 = 0)) else false) then (decide (A2.s.next ≠ 0)) else false)], ⟨rfl, rfl⟩, ?_⟩
          replace hS := (hS.sel 3 [0] rfl)
          exact ⟨A4, A2.s.next, .node t1 e.1 e.2 t2, by rw [decide_eq_true (show A2.s.next ≠ 0 by omega)]; rfl, hS, (hM.op f10 f13).after (f3.ch.trans f6.ch sb0 sb1) sb0 (by omega), ⟨by unfold Bal at f2 ⊢; omega, f4, f7⟩, by rw [Tr.ls, f5, f8]; exact hsp⟩
theorem kt_plant_all (nM : Nat) : ∀ (g w : World) (L : List HP) (a : Nat) (A : AM) (R : List Int) (l : Kvs) (u : Option Addr) (d : Nat) (q : Int), (ARf A R) → ((l.length : Int) ≤ A.s.free) → (l.length ≤ 100000) → (R.length + l.length ≤ 800000000) → (0 ≤ q ∧ q < 18446744073709551616) → l.length = nM → St g (Arn a A :: Sh 46 2 (en2 l) u d :: L) w → Sp Try.prog 71 [.pointer (some ⟨a, 0, none⟩), .slice u (List.length (en2 l)) d, .int .u64 q] w (fun v w' => ∃ (A2 : AM) (i : Int) (t : Tr), v = .tuple #[.int .u32 i, .bool true] ∧ St g (Arn a A2 :: Sh 46 2 (en2 l) u d :: L) w' ∧ (TOp A A2 R i t l.length) ∧ (t.ok) ∧ (t.ls = l)) := by
  induction nM using Nat.strongRecOn with
  | _ nM ih => intro g w L a A R l u d q hA hf hl hz hq hM hS; exact kt_plant_step nM ih a A R l u d q hA hf hl hz hq hM hS
theorem kt_plant {g w : World} {L : List HP} (a : Nat) (A : AM) (R : List Int) (l : Kvs) (u : Option Addr) (d : Nat) (q : Int) (hA : ARf A R) (hf : (l.length : Int) ≤ A.s.free) (hl : l.length ≤ 100000) (hz : R.length + l.length ≤ 800000000) (hq : 0 ≤ q ∧ q < 18446744073709551616) (hS : St g (Arn a A :: Sh 46 2 (en2 l) u d :: L) w) :
    Sp Try.prog 71 [.pointer (some ⟨a, 0, none⟩), .slice u (List.length (en2 l)) d, .int .u64 q] w (fun v w' => ∃ (A2 : AM) (i : Int) (t : Tr), v = .tuple #[.int .u32 i, .bool true] ∧ St g (Arn a A2 :: Sh 46 2 (en2 l) u d :: L) w' ∧ (TOp A A2 R i t l.length) ∧ (t.ok) ∧ (t.ls = l)) := kt_plant_all _ g w L a A R l u d q hA hf hl hz hq rfl hS
end Go.Proofs.Ytlnlnebibgdjdaa
