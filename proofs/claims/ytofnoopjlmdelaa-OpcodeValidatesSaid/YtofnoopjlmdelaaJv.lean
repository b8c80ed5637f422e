/-
  The row of OpcodeValidates: for every input the law returns true, and the arguments read as before.
  Conditions: none.
-/
import Derived.Test.YtofnoopjlmdelaaLv
import Derived.Test.YtofnoopjlmdelaaArg
namespace Go.Proofs.Ytofnoopjlmdelaa
open Go Go.V Go.RowKit Go.ChangeShapes Go.WideShapes

set_option maxRecDepth 100000
theorem own : ownKnob Try.prog.godebug = none := by kernel_rfl
theorem laidOut : laidOutB Try.prog = true := by kernel_rfl
theorem validates_calls {H : Type} {enc : TypeId × Value → H} {W : World} {base : Nat} {args : List Value} (h : AOk enc Try.prog W base [27, 23, 27, 5] args) :
    Calls Try.prog 3 args.toArray W fun e W' => e = .returned (.bool true) ∧ Below W.heap.size W W' := by
  obtain ⟨v0, vs0, rfl, k0, r0, h⟩ := h.cons
  obtain ⟨v1, vs1, rfl, k1, r1, h⟩ := h.cons
  obtain ⟨v2, vs2, rfl, k2, r2, h⟩ := h.cons
  obtain ⟨v3, vs3, rfl, k3, r3, h⟩ := h.cons
  obtain rfl := h.nil
  obtain ⟨z, e0, hz, hz2⟩ := rd_op r0
  obtain ⟨bs, a, c, e1, hb, _, hb2⟩ := rd_bytes r1
  obtain ⟨y, e2, hy, hy2⟩ := rd_op r2
  obtain ⟨f, e3, hf⟩ := rd_u8 r3
  obtain rfl := okv_agg k0 Try.underlying27 e0
  obtain rfl := okv_one (okv_slice k1 Try.underlying23) e1
  obtain rfl := okv_agg k2 Try.underlying27 e2
  obtain rfl := okv_one (okv_int k3 Try.underlying5) e3
  have hS := (St.start W)
  have hS := (hb2 5).add hS
  have hS := (hy2 _ (.tail _ (.tail _ (.head _)))).add hS
  have hS := (hy2 _ (.tail _ (.head _))).add hS
  have hS := (hy2 _ (.head _)).add hS
  have hS := (hz2 _ (.tail _ (.tail _ (.head _)))).add hS
  have hS := (hz2 _ (.tail _ (.head _))).add hS
  have hS := (hz2 _ (.head _)).add hS
  exact law_calls (law_validates z.m y.m z.ab z.ae z.ac y.ab y.ae y.ac z.cb z.ce z.cc y.cb y.ce y.cc bs a c f hz hy hf hS)

theorem validates_lifted (os : Os) (started : os.Started) (H : Type) (enc : TypeId × Value → H) :
    ReturnsInHanded {} Try.checked os 3 .any (Rows.opcodeValidatesSpec.pre6 enc Try.prog Try.f3 Rows.opcodeValidatesRow.domain false) (Rows.opcodeValidatesSpec.post enc Try.prog Try.f3 false true false false) := by
  refine returnsInHanded_of_change (C := Try.checked) own started (by kernel_rfl) Try.func3
    (ChangeSpec.witness6 (enc := enc) (C := Try.checked) false ⟨#[], #[.agg #[.int .i64 0, .int .u64 0, .int .u64 0, .int .i64 0, .int .i64 0, .int .i64 0, .int .i64 0, .int .i64 0, .bool false, .string ⟨#[]⟩, .slice none 0 0, .slice none 0 0, .slice none 0 0], .slice none 0 0, .agg #[.int .i64 0, .int .u64 0, .int .u64 0, .int .i64 0, .int .i64 0, .int .i64 0, .int .i64 0, .int .i64 0, .bool false, .string ⟨#[]⟩, .slice none 0 0, .slice none 0 0, .slice none 0 0], .int .u8 0], []⟩ 8 (by kernel_rfl) (by kernel_rfl) (by kernel_rfl) (by kernel_rfl)) ?_
  intro W base args ds gs before hval0 hW _ _
  have hval : ∀ (j : Nat) t v, Try.f3.params[j]? = some t → args[j]? = some v → Value.okWide Try.prog W .any base t v := hval0
  have hW0 := hW
  obtain ⟨p, q, hA0, _⟩ := hW
  have hA : DataW.TrodAll enc Try.prog W 0 (fun _ => true) true Try.f3.params.toList args.toList ds p := hA0
  rw [Try.params3] at hA hval
  clear hA0 hval0
  have hc := validates_calls (AOk.args hA hval)
  rw [Array.toArray_toList] at hc
  refine hc.mono fun e W' ⟨he, hb⟩ => ⟨_, he, ?_⟩
  refine law_post rfl hW0 laidOut ?_ (by kernel_rfl) Try.underlying4 ?_ hb
  · exact fun t ht => by
      simp only [Try.params3, List.mem_cons, List.not_mem_nil, or_false] at ht
      rcases ht with rfl | rfl | rfl | rfl <;> exact ⟨by kernel_rfl, of_decide_eq_true (by kernel_rfl)⟩
  · intro hd
    match ds, hd with
    | [d1, d2, d3, d4], _ => exact ⟨rfl, rfl, rfl⟩
theorem validates_holds : Rows.OpcodeValidatesSaid :=
  OpenClaim.holds_of_wide 3 Try.f3 rfl rfl rfl rfl rfl rfl rfl ⟨rfl, rfl, rfl, rfl, rfl⟩ rfl rfl rfl rfl rfl (by kernel_rfl) Try.func3 (by kernel_rfl)
    (of_decide_eq_true (by kernel_rfl)) (by unfold Func.isWrapper; first | (rw [if_pos (by decide +kernel)]; kernel_rfl) | (rw [if_neg (by decide +kernel)]; exact ⟨rfl, rfl⟩))
    (fun os started H enc _ => validates_lifted os started H enc)
end Go.Proofs.Ytofnoopjlmdelaa
