/-
  Parting a string at the slashes.
  Conditions: none beyond the arguments' form.
-/
import Derived.Test.YtenkmjbghbegfaaDoorTypes
import Derived.Test.YtenkmjbghbegfaaDoorNmm
namespace Go.Proofs.YtenkmjbghbegfaaDoor
open Go Go.V

theorem idxByte_spec {g w : World} {L : List HP} (s : ByteArray) (b : Int) (hb : 0 ≤ b ∧ b ≤ 255) (hS : St g (L) w) :
    Sp Tryd.prog 63 [.string s, .int .u8 b] w (fun v w' => v = .int .i64 (fidx (sb s) b) ∧ St g (L) w') := by
  refine Sp.enter Tryd.func63 rfl (by kernel_rfl) (by kernel_rfl) ?_
  have _ := hb
  refine WC.seq ?_
  refine WC.region ?_
  refine WL.r 1 rfl ?_
  refine WL.nil ?_
  refine WC.seq ?_
  refine WC.region ?_
  refine WL.r 2 rfl ?_
  refine WL.ext rfl rfl xf_73 rfl (run_fidx _ (by first | omega | decide)) ?_
  refine WL.r 1 rfl ?_
  refine WL.nil ?_
  refine WC.ret ?_
  refine ⟨[.int .i64 (fidx (sb s) b)], rfl, ?_⟩
  exact ⟨rfl, hS⟩
theorem sidx_spec {g w : World} {L : List HP} (s : ByteArray) (hS : St g (L) w) :
    Sp Tryd.prog 50 [.string s, .string ⟨#[47]⟩] w (fun v w' => v = .int .i64 (fidx (sb s) 47) ∧ St g (L) w') := by
  refine Sp.enter Tryd.func50 rfl (by kernel_rfl) (by kernel_rfl) ?_
  refine WC.seq ?_
  refine WC.region ?_
  refine WL.r 1 rfl ?_
  refine WL.nil ?_
  refine WC.seq ?_
  refine WC.region ?_
  refine WL.r 3 rfl ?_
  refine WL.nil ?_
  refine WC.seq ?_
  refine WC.block ?_
  refine WC.seq ?_
  refine WC.region ?_
  refine WL.r 2 rfl ?_
  refine WL.rG 6 rfl (fun j => ?_)
  refine WL.prop 23 rfl (bor (dd _) (dd _)) ?_
  refine WL.nil ?_
  refine WC.if_ rfl (fun cq => ?_) (fun cq => ?_)
  · refine WC.seq ?_
    refine WC.region ?_
    refine WL.r 1 rfl ?_
    refine WL.nil ?_
    refine WC.ret ?_
    refine ⟨[.int .i64 0], rfl, ?_⟩
    by_cases hq : (⟨#[47]⟩ : ByteArray) = s
    · subst hq; exact ⟨rfl, hS⟩
    · rw [decide_eq_false hq] at cq; exact absurd cq (by decide)
  · refine WC.seq ?_
    refine WC.region ?_
    refine WL.r 3 rfl ?_
    refine WL.nil ?_
    refine WC.ifT rfl (decide_eq_true ((by decide))) ?_
    refine WC.seq ?_
    refine WC.region ?_
    refine WL.r 2 rfl ?_
    refine WL.ixs rfl rfl (v := 0) (0) rfl rfl rfl (by omega) (rfl : (sb ⟨#[47]⟩)[0]? = some 47) ?_
    refine WL.call rfl rfl (idxByte_spec (s := s) (b := 47) (hb := (by omega)) (hS := hS)) rfl ?_
    clear hS; rintro _ w ⟨rfl, hS⟩
    replace hS : St g (L) w := hS
    refine WL.r 1 rfl ?_
    refine WL.nil ?_
    as_aux_lemma =>
      refine WC.ret ?_
      refine ⟨[.int .i64 (fidx (sb s) 47)], rfl, ?_⟩
      exact ⟨rfl, hS⟩
theorem idx_spec {g w : World} {L : List HP} (s : ByteArray) (hS : St g (L) w) :
    Sp Tryd.prog 43 [.string s, .string ⟨#[47]⟩] w (fun v w' => v = .int .i64 (fidx (sb s) 47) ∧ St g (L) w') := by
  refine Sp.enter Tryd.func43 rfl (by kernel_rfl) (by kernel_rfl) ?_
  refine WC.seq ?_
  refine WC.region ?_
  refine WL.r 1 rfl ?_
  refine WL.nil ?_
  refine WC.seq ?_
  refine WC.region ?_
  refine WL.r 2 rfl ?_
  refine WL.call rfl rfl (sidx_spec (s := s)  (hS := hS)) rfl ?_
  clear hS; rintro _ w ⟨rfl, hS⟩
  replace hS : St g (L) w := hS
  refine WL.r 1 rfl ?_
  refine WL.nil ?_
  refine WC.ret ?_
  refine ⟨[.int .i64 (fidx (sb s) 47)], rfl, ?_⟩
  exact ⟨rfl, hS⟩
theorem cnt_spec {g w : World} {L : List HP} (s : ByteArray) (hS : St g (L) w) :
    Sp Tryd.prog 42 [.string s, .string ⟨#[47]⟩] w (fun v w' => v = .int .i64 (((sb s).count 47 : Nat) : Int) ∧ St g (L) w') := by
  refine Sp.enter Tryd.func42 rfl (by kernel_rfl) (by kernel_rfl) ?_
  refine WC.seq ?_
  refine WC.region ?_
  refine WL.r 1 rfl ?_
  refine WL.nil ?_
  refine WC.seq ?_
  refine WC.seq ?_
  refine WC.region ?_
  refine WL.r 3 rfl ?_
  refine WL.nil ?_
  refine WC.ifF rfl (decide_eq_false ((by decide))) ?_
  refine WC.skip ?_
  refine WC.seq ?_
  refine WC.seq ?_
  refine WC.region ?_
  refine WL.r 3 rfl ?_
  refine WL.nil ?_
  refine WC.ifT rfl (decide_eq_true ((by decide))) ?_
  refine WC.seq ?_
  refine WC.region ?_
  refine WL.r 2 rfl ?_
  refine WL.ixs rfl rfl (v := 0) (0) rfl rfl rfl (by omega) (rfl : (sb ⟨#[47]⟩)[0]? = some 47) ?_
  refine WL.ext rfl rfl xf_49 rfl (run_cnt _ (by first | omega | decide)) ?_
  refine WL.r 1 rfl ?_
  refine WL.nil ?_
  as_aux_lemma =>
    refine WC.ret ?_
    refine ⟨[.int .i64 (List.count 47 (sb s) : Int)], rfl, ?_⟩
    exact ⟨rfl, hS⟩
end Go.Proofs.YtenkmjbghbegfaaDoor
