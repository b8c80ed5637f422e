/-
  The row of VersionsForget: for every input the law returns true, and the arguments read as before.
  Conditions: none.
-/
import Derived.Test.YtlnlnebibgdjdaaRows
import Derived.Test.YtlnlnebibgdjdaaV6
import Derived.Test.YtlnlnebibgdjdaaArgv
namespace Go.Proofs.Ytlnlnebibgdjdaa
open Go Go.V Go.RowKit Go.ChangeShapes Go.WideShapes
set_option maxRecDepth 100000
theorem vforget_calls {H : Type} {enc : TypeId × Value → H} {W : World} {base : Nat} {args : List Value} (h : AOk enc Try.prog W base [36] args) :
    Calls Try.prog 4 args.toArray W fun e W' => e = .returned (.bool true) ∧ Below W.heap.size W W' := by
  obtain ⟨v0, vs0, rfl, k0, r0, h⟩ := h.cons
  obtain rfl := h.nil
  obtain ⟨l0, a0, c0, e0, _, m0, s0⟩ := rd_ents r0
  obtain rfl := okv_one (okv_slice k0 Try.underlying36) e0
  have hS := St.start W
  have hS := (s0 46).add hS
  exact law_calls (law_vforget l0 a0 c0 m0 hS)
theorem vforget_lifted (os : Os) (started : os.Started) (H : Type) (enc : TypeId × Value → H) :
    ReturnsInHanded {} Try.checked os 4 .any (Rows.versionsForgetSpec.pre6 enc Try.prog Try.f4 Rows.versionsForgetRow.domain false) (Rows.versionsForgetSpec.post enc Try.prog Try.f4 false true false false) := by
  refine returnsInHanded_of_change (C := Try.checked) (by kernel_rfl) started (by kernel_rfl) Try.func4
    (ChangeSpec.witness6 (enc := enc) (C := Try.checked) false ⟨#[], #[.slice none 0 0], []⟩ 8 (by kernel_rfl) (by kernel_rfl) (by kernel_rfl) (by kernel_rfl)) ?_
  intro W base args ds gs before hval0 hW _ _
  have hval : ∀ (j : Nat) t v, Try.f4.params[j]? = some t → args[j]? = some v → Value.okWide Try.prog W .any base t v := hval0
  have hW0 := hW
  obtain ⟨p, q, hA0, _⟩ := hW
  have hA : DataW.TrodAll enc Try.prog W 0 (fun _ => true) true Try.f4.params.toList args.toList ds p := hA0
  rw [Try.params4] at hA hval
  clear hA0 hval0
  have hc := vforget_calls (AOk.args hA hval)
  rw [Array.toArray_toList] at hc
  refine hc.mono fun e W' ⟨he, hb⟩ => ⟨_, he, ?_⟩
  refine law_post rfl hW0 (by kernel_rfl) ?_ (by kernel_rfl) Try.underlying4 ?_ hb
  · exact fun t ht => by
      simp only [Try.params4, List.mem_cons, List.not_mem_nil, or_false] at ht
      subst ht <;> exact ⟨by kernel_rfl, of_decide_eq_true (by kernel_rfl)⟩
  · intro hd
    match ds, hd with
    | [d1], _ => exact ⟨rfl, rfl, rfl⟩
theorem vforget_holds : Rows.VersionsForgetSaid :=
  OpenClaim.holds_of_wide 4 Try.f4 rfl rfl rfl rfl rfl rfl rfl ⟨rfl, rfl, rfl, rfl, rfl⟩ rfl rfl rfl rfl rfl (by kernel_rfl) Try.func4 (by kernel_rfl)
    (of_decide_eq_true (by kernel_rfl)) (by unfold Func.isWrapper; first | (rw [if_pos (by decide +kernel)]; kernel_rfl) | (rw [if_neg (by decide +kernel)]; exact ⟨rfl, rfl⟩))
    (fun os started H enc _ => vforget_lifted os started H enc)
end Go.Proofs.Ytlnlnebibgdjdaa
