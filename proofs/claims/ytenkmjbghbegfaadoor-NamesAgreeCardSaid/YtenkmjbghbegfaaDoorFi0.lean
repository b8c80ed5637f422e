/-
  Small functions: does a string begin with another, remainders, names of calls.
  Conditions: none.
-/
import Derived.Test.YtenkmjbghbegfaaDoorTypes
import Derived.Test.YtenkmjbghbegfaaDoorNmt
namespace Go.Proofs.YtenkmjbghbegfaaDoor
open Go Go.V

theorem hasPrefix0 {g w : World} {L : List HP} (s p : ByteArray) (hS : St g (L) w) :
    Sp Tryd.prog 40 [.string s, .string p] w (fun v w' => v = .bool (decide (hpre s p)) ∧ St g (L) w') := by
  refine Sp.enter Tryd.func40 rfl (by kernel_rfl) (by kernel_rfl) ?_
  refine WC.seq ?_
  refine WC.region ?_
  refine WL.r 1 rfl ?_
  refine WL.nil ?_
  refine WC.seq ?_
  refine WC.region ?_
  have hsl := sb_len s; have hpl := sb_len p
  refine WL.r 6 rfl ?_
  by_cases cg1 : (ByteArray.size p : Int) ≤ (ByteArray.size s : Int)
  · refine WL.reb 10 (.bool true) (congrArg Value.bool (decide_eq_true cg1)) ?_
    refine WL.ung rfl rfl rfl ?_
    refine WL.r 1 rfl ?_
    refine WL.ung rfl rfl rfl ?_
    refine WL.r 1 rfl ?_
    refine WL.ung rfl rfl rfl ?_
    refine WL.r 1 rfl ?_
    refine WL.ung rfl rfl rfl ?_
    refine WL.ssHi rfl rfl (v := (ByteArray.size p : Int)) (p.size) rfl rfl rfl (by omega) (by omega) ?_
    refine WL.ung rfl rfl rfl ?_
    refine WL.r 1 rfl ?_
    refine WL.ung rfl rfl rfl ?_
    refine WL.r 3 rfl ?_
    refine WL.nil ?_
    refine WC.ret ?_
    refine ⟨[.bool (decide ((mkS (List.take p.size (sb s))) = p))], rfl, ?_⟩
    exact ⟨congrArg Value.bool (decide_eq_decide.2 ⟨fun h => ⟨by omega, h⟩, fun h => h.2⟩), hS⟩
  · refine WL.reb 10 (.bool false) (congrArg Value.bool (decide_eq_false cg1)) ?_
    refine WL.skp rfl rfl rfl rfl ?_
    refine WL.skp rfl rfl rfl rfl ?_
    refine WL.skp rfl rfl rfl rfl ?_
    refine WL.skp rfl rfl rfl rfl ?_
    refine WL.skp rfl rfl rfl rfl ?_
    refine WL.skp rfl rfl rfl rfl ?_
    refine WL.r 2 rfl ?_
    refine WL.nil ?_
    refine WC.ret ?_
    refine ⟨[.bool false], rfl, ?_⟩
    exact ⟨congrArg Value.bool (decide_eq_false (fun h => by have := h.1; omega)).symm, hS⟩
theorem hasPrefix {g w : World} {L : List HP} (s p : ByteArray) (hS : St g (L) w) :
    Sp Tryd.prog 35 [.string s, .string p] w (fun v w' => v = .bool (decide (hpre s p)) ∧ St g (L) w') := by
  refine Sp.enter Tryd.func35 rfl (by kernel_rfl) (by kernel_rfl) ?_
  refine WC.seq ?_
  refine WC.region ?_
  refine WL.r 1 rfl ?_
  refine WL.nil ?_
  refine WC.seq ?_
  refine WC.region ?_
  refine WL.r 2 rfl ?_
  refine WL.call rfl rfl (hasPrefix0 (s := s) (p := p)  (hS := hS)) rfl ?_
  clear hS; rintro _ w ⟨rfl, hS⟩
  replace hS : St g (L) w := hS
  refine WL.r 1 rfl ?_
  refine WL.nil ?_
  refine WC.ret ?_
  refine ⟨[.bool (decide (hpre s p))], rfl, ?_⟩
  exact ⟨rfl, hS⟩
theorem mod_spec {g w : World} {L : List HP} (k n : Int) (hk : -9223372036854775808 ≤ k ∧ k ≤ 9223372036854775807) (hn : 0 < n ∧ n ≤ 4611686018427387904) (hS : St g (L) w) :
    Sp Tryd.prog 25 [.int .i64 k, .int .i64 n] w (fun v w' => v = .int .i64 (k % n) ∧ St g (L) w') := by
  refine Sp.enter Tryd.func25 rfl (by kernel_rfl) (by kernel_rfl) ?_
  have _ := hk
  refine WC.seq ?_
  refine WC.region ?_
  refine WL.r 1 rfl ?_
  refine WL.nil ?_
  refine WC.seq ?_
  refine WC.region ?_
  obtain ⟨m, rfl⟩ : ∃ m : Nat, n = Int.ofNat (m + 1) := ⟨n.toNat - 1, by simp; omega⟩; have htm := tm_lt (k := k) (n := Int.ofNat (m + 1)) hn.1
  refine WL.r 3 rfl ?_
  refine WL.r 1 rfl ?_
  refine WL.nil ?_
  refine WC.seq ?_
  refine WC.seq ?_
  refine WC.region ?_
  refine WL.r 2 rfl ?_
  refine WL.nil ?_
  refine WC.ifP rfl (fun cd1 => ?_) (fun cd1 => ?_)
  · refine WC.region ?_
    refine WL.r 3 rfl ?_
    refine WL.nw 13 rfl (w64 (by omega)) ?_
    refine WL.r 1 rfl ?_
    refine WL.nil ?_
    refine WC.seq ?_
    refine WC.region ?_
    refine WL.r 2 rfl ?_
    refine WL.nil ?_
    as_aux_lemma =>
      refine WC.ret ?_
      refine ⟨[.int .i64 ((Int.tmod k (Int.ofNat (m + 1))) + (Int.ofNat (m + 1)))], rfl, ?_⟩
      rw [tm_neg hn.1 cd1]; exact ⟨rfl, hS⟩
  · refine WC.skip ?_
    refine WC.seq ?_
    refine WC.region ?_
    refine WL.r 2 rfl ?_
    refine WL.nil ?_
    refine WC.ret ?_
    refine ⟨[.int .i64 (Int.tmod k (Int.ofNat (m + 1)))], rfl, ?_⟩
    rw [tm_pos hn.1 cd1]; exact ⟨rfl, hS⟩
end Go.Proofs.YtenkmjbghbegfaaDoor
