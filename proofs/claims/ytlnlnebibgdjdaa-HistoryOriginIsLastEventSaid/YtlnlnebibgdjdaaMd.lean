/-
  A number modulo another one.
  Conditions: none.
-/
import Derived.Test.YtlnlnebibgdjdaaTypes
import Derived.Test.YtlnlnebibgdjdaaTra
namespace Go.Proofs.Ytlnlnebibgdjdaa
open Go Go.V

theorem md_spec {g w : World} {L : List HP} (k n : Int) (hk : -9223372036854775808 ≤ k ∧ k ≤ 9223372036854775807) (hn : 0 < n ∧ n ≤ 4611686018427387904) (hS : St g (L) w) :
    Sp Try.prog 10 [.int .i64 k, .int .i64 n] w (fun v w' => v = .int .i64 (k % n) ∧ St g (L) w') := by
  refine Sp.enter Try.func10 rfl (by kernel_rfl) (by kernel_rfl) ?_
  have _ := hk
  refine WC.seq ?_
  refine WC.region ?_
  refine WL.r 1 rfl ?_
  refine WL.nil ?_
  refine WC.seq ?_
  refine WC.region ?_
  obtain ⟨m, rfl⟩ : ∃ m : Nat, n = Int.ofNat (m + 1) := ⟨n.toNat - 1, by simp; omega⟩; have htm := tm_lt (k := k) (n := Int.ofNat (m + 1)) hn.1
  refine WL.r 3 rfl ?_
  refine WL.r 1 rfl ?_
  refine WL.nil ?_
  refine WC.seq ?_
  refine WC.seq ?_
  refine WC.region ?_
  refine WL.r 2 rfl ?_
  refine WL.nil ?_
  refine WC.ifP rfl (fun cd1 => ?_) (fun cd1 => ?_)
  · refine WC.region ?_
    refine WL.r 3 rfl ?_
    refine WL.nw 13 rfl (w64 (by omega)) ?_
    refine WL.r 1 rfl ?_
    refine WL.nil ?_
    refine WC.seq ?_
    refine WC.region ?_
    refine WL.r 2 rfl ?_
    refine WL.nil ?_
    as_aux_lemma =>
      refine WC.ret ?_
      refine ⟨[.int .i64 ((Int.tmod k (Int.ofNat (m + 1))) + (Int.ofNat (m + 1)))], rfl, ?_⟩
      rw [tm_neg hn.1 cd1]; exact ⟨rfl, hS⟩
  · refine WC.skip ?_
    refine WC.seq ?_
    refine WC.region ?_
    refine WL.r 2 rfl ?_
    refine WL.nil ?_
    refine WC.ret ?_
    refine ⟨[.int .i64 (Int.tmod k (Int.ofNat (m + 1)))], rfl, ?_⟩
    rw [tm_pos hn.1 cd1]; exact ⟨rfl, hS⟩
end Go.Proofs.Ytlnlnebibgdjdaa
