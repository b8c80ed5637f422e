/-
  The row of NamesAgree: for every input the law returns true, and the arguments read as before.
  Conditions: none.
-/
import Derived.Test.YtenkmjbghbegfaaDoorRows
import Derived.Test.YtenkmjbghbegfaaDoorLag
import Derived.Test.YtenkmjbghbegfaaDoorArgo
import Derived.Test.YtenkmjbghbegfaaDoorTie
import Derived.Test.YtenkmjbghbegfaaDoorCards
import Derived.ProofKit
import Derived.OpenShut
import Derived.LaidMore
import Derived.Lay
import Derived.SevenTiedAt
import Derived.Stop.Joined
namespace Go.Proofs.YtenkmjbghbegfaaDoor
open Go Go.V Go.RowKit Go.ChangeShapes Go.WideShapes
set_option maxRecDepth 100000
theorem agree_calls {H : Type} {enc : TypeId × Value → H} {W : World} {base : Nat} {args : List Value} (h : AOk enc Tryd.prog W base [35, 9] args) :
    Calls Tryd.prog 5 args.toArray W fun e W' => e = .returned (.bool true) ∧ Below W.heap.size W W' := by
  obtain ⟨v0, vs0, rfl, k0, r0, h⟩ := h.cons
  obtain ⟨v1, vs1, rfl, k1, r1, h⟩ := h.cons
  obtain rfl := h.nil
  obtain ⟨l0, a0, c0, e0, h0, _, s0⟩ := rd_calls r0
  obtain ⟨n1, e1⟩ := rd_str r1
  obtain rfl := okv_one (okv_slice k0 Tryd.underlying35) e0
  obtain rfl := okv_one (okv_str k1 Tryd.underlying9) e1
  have hS := St.start W
  have hS := (s0 40).add hS
  exact law_calls (law_agree l0 n1 a0 c0 h0 hS)
theorem agree_own : ownKnob Tryd.prog.godebug = none := by kernel_rfl
theorem agree_lifted (os : Os) (started : os.Started) (H : Type) (enc : TypeId × Value → H) :
    ReturnsInHanded {} Tryd.checked os 5 .any (fun w args => (Rows.namesAgreeSpec.pre enc Tryd.prog Tryd.f5 Rows.namesAgreeRow.domain false w args ∧ laidMetH Tryd.prog Rows.namesAgreeRow.laid w) ∧ sizedMet enc Tryd.prog Tryd.f5 (OpenSpec.ofChange Rows.namesAgreeSpec) false w args)
      (Rows.namesAgreeSpec.post enc Tryd.prog Tryd.f5 false true false false) := by
  refine returnsInHanded_of_change_and (C := Tryd.checked) (X := fun w _ => laidMetH Tryd.prog Rows.namesAgreeRow.laid w) (fun _ _ _ hh h => h.of_heap hh) agree_own started (by kernel_rfl) Tryd.func5
    (ChangeSpec.witness_shaped (enc := enc) (C := Tryd.checked) (os := os) (X := fun w _ => laidMetH Tryd.prog Rows.namesAgreeRow.laid w) false (World.laidAll Tryd.prog os Rows.namesAgreeRow.laid) #[.slice none 0 0, .string ⟨#[]⟩] 8 (World.laidAll_os _ _ _)
      (World.shaped_of_ZipB (by kernel_rfl) (by kernel_rfl)) (by kernel_rfl) (by kernel_rfl) (by kernel_rfl)
      (by rw [MakeChecks.laidMetH_plain _ _ _ (by kernel_rfl)]; exact laidMet_laidAll _ (by kernel_rfl) (by kernel_rfl))) ?_
  intro W base args ds gs before hval0 hW _ _ hL _
  have hval : ∀ (j : Nat) t v, Tryd.f5.params[j]? = some t → args[j]? = some v → Value.okWide Tryd.prog W .any base t v := hval0
  have hW0 := hW
  obtain ⟨p, q, hA0, _⟩ := hW
  have hA : DataW.TrodAll enc Tryd.prog W 0 (fun _ => true) true Tryd.f5.params.toList args.toList ds p := hA0
  rw [Tryd.params5] at hA hval
  clear hA0 hval0 hL
  have hc := agree_calls (AOk.args hA hval)
  rw [Array.toArray_toList] at hc
  refine hc.mono fun e W' ⟨he, hb⟩ => ⟨_, he, ?_⟩
  refine law_post rfl hW0 (by kernel_rfl) ?_ (by kernel_rfl) Tryd.underlying4 ?_ hb
  · exact fun t ht => by
      simp only [Tryd.params5, List.mem_cons, List.not_mem_nil, or_false] at ht
      rcases ht with rfl | rfl <;> exact ⟨by kernel_rfl, of_decide_eq_true (by kernel_rfl)⟩
  · intro hd
    match ds, hd with
    | [d1, d2], _ => exact ⟨rfl, rfl, rfl⟩
theorem agree_row : Rows.NamesAgreeSaid :=
  OpenClaim.holds_of_wide 5 Tryd.f5 rfl rfl rfl rfl rfl rfl rfl ⟨rfl, rfl, rfl, rfl, rfl⟩ rfl rfl rfl rfl rfl (by kernel_rfl) Tryd.func5 (by kernel_rfl)
    (of_decide_eq_true (by kernel_rfl)) (by unfold Func.isWrapper; first | (rw [if_pos (by decide +kernel)]; kernel_rfl) | (rw [if_neg (by decide +kernel)]; exact ⟨rfl, rfl⟩))
    (fun os started H enc _ => agree_lifted os started H enc)
theorem agree_holds : Rows.NamesAgreeCardSaid :=
  Claim7.holds_tied_plain_at .later [] [.data, .pinned] true (true, "7c9f6467ba9994c6e0d5d5b4957a3409e729468c054f396fa51f3f4f82c4edff") false agree_row (fun _ h => by cases h) (by kernel_rfl) (fun _ h => by cases h) namesAgree_row_tie rfl ⟨rfl, rfl⟩ (by kernel_rfl) rfl
    (fun f fn hf hfn => by
      obtain rfl : f = 5 := Option.some.inj ((show Tryd.prog.funcNamed "versionmap/versionmaplaw23.NamesAgree" = some 5 by kernel_rfl).symm.trans hf) |>.symm
      obtain rfl : fn = Tryd.f5 := (Option.some.inj (Tryd.func5.symm.trans hfn)).symm
      exact ⟨by kernel_rfl, fun j t ht => by
        rw [Tryd.params5] at ht
        have hm : t ∈ [35, 9] := by simpa using Array.mem_of_getElem? ht
        have hall : ([35, 9].all fun u => !Tryd.prog.wantsStandIn u) = true := by kernel_rfl
        exact (show Tryd.prog.wantsStandIn t = false by simpa using List.all_eq_true.1 hall t hm)⟩)
    (by kernel_rfl)
end Go.Proofs.YtenkmjbghbegfaaDoor
