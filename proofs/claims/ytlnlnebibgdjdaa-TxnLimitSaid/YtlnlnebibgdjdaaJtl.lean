/-
  The row of TxnLimit: for every input the law returns true, and the arguments read as before.
  Conditions: none.
-/
import Derived.Test.YtlnlnebibgdjdaaRows
import Derived.Test.YtlnlnebibgdjdaaTx7
import Derived.Test.YtlnlnebibgdjdaaArgv
namespace Go.Proofs.Ytlnlnebibgdjdaa
open Go Go.V Go.RowKit Go.ChangeShapes Go.WideShapes
set_option maxRecDepth 100000
theorem tlim_calls {H : Type} {enc : TypeId × Value → H} {W : World} {base : Nat} {args : List Value} (h : AOk enc Try.prog W base [2, 3] args) :
    Calls Try.prog 7 args.toArray W fun e W' => e = .returned (.bool true) ∧ Below W.heap.size W W' := by
  obtain ⟨v0, vs0, rfl, k0, r0, h⟩ := h.cons
  obtain ⟨v1, vs1, rfl, k1, r1, h⟩ := h.cons
  obtain rfl := h.nil
  obtain ⟨n0, e0, h0⟩ := rd_i64 r0
  obtain ⟨n1, e1, h1⟩ := rd_int r1
  obtain rfl := okv_one (okv_int k0 Try.underlying2) e0
  obtain rfl := okv_one (okv_int k1 Try.underlying3) e1
  have hS := St.start W
  exact law_calls (law_tlim n0 n1 h0 h1 hS)
theorem tlim_lifted (os : Os) (started : os.Started) (H : Type) (enc : TypeId × Value → H) :
    ReturnsInHanded {} Try.checked os 7 .any (Rows.txnLimitSpec.pre6 enc Try.prog Try.f7 Rows.txnLimitRow.domain false) (Rows.txnLimitSpec.post enc Try.prog Try.f7 false true false false) := by
  refine returnsInHanded_of_change (C := Try.checked) (by kernel_rfl) started (by kernel_rfl) Try.func7
    (ChangeSpec.witness6 (enc := enc) (C := Try.checked) false ⟨#[], #[.int .i64 0, .int .i64 0], []⟩ 8 (by kernel_rfl) (by kernel_rfl) (by kernel_rfl) (by kernel_rfl)) ?_
  intro W base args ds gs before hval0 hW _ _
  have hval : ∀ (j : Nat) t v, Try.f7.params[j]? = some t → args[j]? = some v → Value.okWide Try.prog W .any base t v := hval0
  have hW0 := hW
  obtain ⟨p, q, hA0, _⟩ := hW
  have hA : DataW.TrodAll enc Try.prog W 0 (fun _ => true) true Try.f7.params.toList args.toList ds p := hA0
  rw [Try.params7] at hA hval
  clear hA0 hval0
  have hc := tlim_calls (AOk.args hA hval)
  rw [Array.toArray_toList] at hc
  refine hc.mono fun e W' ⟨he, hb⟩ => ⟨_, he, ?_⟩
  refine law_post rfl hW0 (by kernel_rfl) ?_ (by kernel_rfl) Try.underlying4 ?_ hb
  · exact fun t ht => by
      simp only [Try.params7, List.mem_cons, List.not_mem_nil, or_false] at ht
      rcases ht with rfl | rfl <;> exact ⟨by kernel_rfl, of_decide_eq_true (by kernel_rfl)⟩
  · intro hd
    match ds, hd with
    | [d1, d2], _ => exact ⟨rfl, rfl, rfl⟩
theorem tlim_holds : Rows.TxnLimitSaid :=
  OpenClaim.holds_of_wide 7 Try.f7 rfl rfl rfl rfl rfl rfl rfl ⟨rfl, rfl, rfl, rfl, rfl⟩ rfl rfl rfl rfl rfl (by kernel_rfl) Try.func7 (by kernel_rfl)
    (of_decide_eq_true (by kernel_rfl)) (by unfold Func.isWrapper; first | (rw [if_pos (by decide +kernel)]; kernel_rfl) | (rw [if_neg (by decide +kernel)]; exact ⟨rfl, rfl⟩))
    (fun os started H enc _ => tlim_lifted os started H enc)
end Go.Proofs.Ytlnlnebibgdjdaa
