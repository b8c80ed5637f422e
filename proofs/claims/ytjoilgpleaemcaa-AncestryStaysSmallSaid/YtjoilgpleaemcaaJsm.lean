/-
  The row of AncestryStaysSmall: for every input the law returns true, and the arguments read as before.
  Conditions: none.
-/
import Derived.Test.YtjoilgpleaemcaaRows
import Derived.Test.YtjoilgpleaemcaaSm
import Derived.Test.YtjoilgpleaemcaaArgq
namespace Go.Proofs.Ytjoilgpleaemcaa
open Go Go.V Go.RowKit Go.ChangeShapes Go.WideShapes
set_option maxRecDepth 100000
theorem asmall_calls {H : Type} {enc : TypeId × Value → H} {W : World} {base : Nat} {args : List Value} (h : AOk enc Try.prog W base [33] args) :
    Calls Try.prog 5 args.toArray W fun e W' => e = .returned (.bool true) ∧ Below W.heap.size W W' := by
  obtain ⟨v0, vs0, rfl, k0, r0, h⟩ := h.cons
  obtain rfl := h.nil
  obtain ⟨l0, a0, c0, e0, h0, _, s0, t0⟩ := rd_calls r0
  obtain rfl := okv_one (okv_slice k0 Try.underlying33) e0
  have hS := St.start W
  have hS := t0.add hS
  have hS := (s0 38).add hS
  exact law_calls (law_small l0 a0 c0 h0 hS)
theorem asmall_lifted (os : Os) (started : os.Started) (H : Type) (enc : TypeId × Value → H) :
    ReturnsInHanded {} Try.checked os 5 .any (Rows.ancestryStaysSmallSpec.pre6 enc Try.prog Try.f5 Rows.ancestryStaysSmallRow.domain false) (Rows.ancestryStaysSmallSpec.post enc Try.prog Try.f5 false true false false) := by
  refine returnsInHanded_of_change (C := Try.checked) (by kernel_rfl) started (by kernel_rfl) Try.func5
    (ChangeSpec.witness6 (enc := enc) (C := Try.checked) false ⟨#[], #[.slice none 0 0], []⟩ 8 (by kernel_rfl) (by kernel_rfl) (by kernel_rfl) (by kernel_rfl)) ?_
  intro W base args ds gs before hval0 hW _ _
  have hval : ∀ (j : Nat) t v, Try.f5.params[j]? = some t → args[j]? = some v → Value.okWide Try.prog W .any base t v := hval0
  have hW0 := hW
  obtain ⟨p, q, hA0, _⟩ := hW
  have hA : DataW.TrodAll enc Try.prog W 0 (fun _ => true) true Try.f5.params.toList args.toList ds p := hA0
  rw [Try.params5] at hA hval
  clear hA0 hval0
  have hc := asmall_calls (AOk.args hA hval)
  rw [Array.toArray_toList] at hc
  refine hc.mono fun e W' ⟨he, hb⟩ => ⟨_, he, ?_⟩
  refine law_post rfl hW0 (by kernel_rfl) ?_ (by kernel_rfl) Try.underlying4 ?_ hb
  · exact fun t ht => by
      simp only [Try.params5, List.mem_cons, List.not_mem_nil, or_false] at ht
      subst ht <;> exact ⟨by kernel_rfl, of_decide_eq_true (by kernel_rfl)⟩
  · intro hd
    match ds, hd with
    | [d1], _ => exact ⟨rfl, rfl, rfl⟩
theorem asmall_holds : Rows.AncestryStaysSmallSaid :=
  OpenClaim.holds_of_wide 5 Try.f5 rfl rfl rfl rfl rfl rfl rfl ⟨rfl, rfl, rfl, rfl, rfl⟩ rfl rfl rfl rfl rfl (by kernel_rfl) Try.func5 (by kernel_rfl)
    (of_decide_eq_true (by kernel_rfl)) (by unfold Func.isWrapper; first | (rw [if_pos (by decide +kernel)]; kernel_rfl) | (rw [if_neg (by decide +kernel)]; exact ⟨rfl, rfl⟩))
    (fun os started H enc _ => asmall_lifted os started H enc)
end Go.Proofs.Ytjoilgpleaemcaa
