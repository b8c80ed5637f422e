/-
  The row of TxnConflictsAreReal: for every input the law returns true, and the arguments read as before.
  Conditions: none.
-/
import Derived.Test.YtlnlnebibgdjdaaRows
import Derived.Test.YtlnlnebibgdjdaaTx8
import Derived.Test.YtlnlnebibgdjdaaArgv
namespace Go.Proofs.Ytlnlnebibgdjdaa
open Go Go.V Go.RowKit Go.ChangeShapes Go.WideShapes
set_option maxRecDepth 100000
theorem tcon_calls {H : Type} {enc : TypeId × Value → H} {W : World} {base : Nat} {args : List Value} (h : AOk enc Try.prog W base [36, 37, 46, 2, 3, 4] args) :
    Calls Try.prog 8 args.toArray W fun e W' => e = .returned (.bool true) ∧ Below W.heap.size W W' := by
  obtain ⟨v0, vs0, rfl, k0, r0, h⟩ := h.cons
  obtain ⟨v1, vs1, rfl, k1, r1, h⟩ := h.cons
  obtain ⟨v2, vs2, rfl, k2, r2, h⟩ := h.cons
  obtain ⟨v3, vs3, rfl, k3, r3, h⟩ := h.cons
  obtain ⟨v4, vs4, rfl, k4, r4, h⟩ := h.cons
  obtain ⟨v5, vs5, rfl, k5, r5, h⟩ := h.cons
  obtain rfl := h.nil
  obtain ⟨l0, a0, c0, e0, _, _, s0⟩ := rd_ents r0
  obtain ⟨n1, e1, h1⟩ := rd_u64 r1
  obtain ⟨x2, e2, h2⟩ := rd_ent r2
  obtain ⟨n3, e3, h3⟩ := rd_i64 r3
  obtain ⟨n4, e4, _⟩ := rd_int r4
  obtain ⟨n5, e5⟩ := rd_bool r5
  obtain rfl := okv_one (okv_slice k0 Try.underlying36) e0
  obtain rfl := okv_one (okv_int k1 Try.underlying37) e1
  obtain rfl := okv_agg k2 Try.underlying46 e2
  obtain rfl := okv_one (okv_int k3 Try.underlying2) e3
  obtain rfl := okv_one (okv_int k4 Try.underlying3) e4
  obtain rfl := okv_one (okv_bool k5 Try.underlying4) e5
  have hS := St.start W
  have hS := (s0 46).add hS
  exact law_calls (law_tcon l0 a0 c0 n1 x2.1 x2.2 n3 n4 n5 h1 h2.1 h3 hS)
theorem tcon_lifted (os : Os) (started : os.Started) (H : Type) (enc : TypeId × Value → H) :
    ReturnsInHanded {} Try.checked os 8 .any (Rows.txnConflictsAreRealSpec.pre6 enc Try.prog Try.f8 Rows.txnConflictsAreRealRow.domain false) (Rows.txnConflictsAreRealSpec.post enc Try.prog Try.f8 false true false false) := by
  refine returnsInHanded_of_change (C := Try.checked) (by kernel_rfl) started (by kernel_rfl) Try.func8
    (ChangeSpec.witness6 (enc := enc) (C := Try.checked) false ⟨#[], #[.slice none 0 0, .int .u64 0, .agg #[.int .i64 0, .int .i64 0], .int .i64 0, .int .i64 0, .bool false], []⟩ 8 (by kernel_rfl) (by kernel_rfl) (by kernel_rfl) (by kernel_rfl)) ?_
  intro W base args ds gs before hval0 hW _ _
  have hval : ∀ (j : Nat) t v, Try.f8.params[j]? = some t → args[j]? = some v → Value.okWide Try.prog W .any base t v := hval0
  have hW0 := hW
  obtain ⟨p, q, hA0, _⟩ := hW
  have hA : DataW.TrodAll enc Try.prog W 0 (fun _ => true) true Try.f8.params.toList args.toList ds p := hA0
  rw [Try.params8] at hA hval
  clear hA0 hval0
  have hc := tcon_calls (AOk.args hA hval)
  rw [Array.toArray_toList] at hc
  refine hc.mono fun e W' ⟨he, hb⟩ => ⟨_, he, ?_⟩
  refine law_post rfl hW0 (by kernel_rfl) ?_ (by kernel_rfl) Try.underlying4 ?_ hb
  · exact fun t ht => by
      simp only [Try.params8, List.mem_cons, List.not_mem_nil, or_false] at ht
      rcases ht with rfl | rfl | rfl | rfl | rfl | rfl <;> exact ⟨by kernel_rfl, of_decide_eq_true (by kernel_rfl)⟩
  · intro hd
    match ds, hd with
    | [d1, d2, d3, d4, d5, d6], _ => exact ⟨rfl, rfl, rfl⟩
theorem tcon_holds : Rows.TxnConflictsAreRealSaid :=
  OpenClaim.holds_of_wide 8 Try.f8 rfl rfl rfl rfl rfl rfl rfl ⟨rfl, rfl, rfl, rfl, rfl⟩ rfl rfl rfl rfl rfl (by kernel_rfl) Try.func8 (by kernel_rfl)
    (of_decide_eq_true (by kernel_rfl)) (by unfold Func.isWrapper; first | (rw [if_pos (by decide +kernel)]; kernel_rfl) | (rw [if_neg (by decide +kernel)]; exact ⟨rfl, rfl⟩))
    (fun os started H enc _ => tcon_lifted os started H enc)
end Go.Proofs.Ytlnlnebibgdjdaa
