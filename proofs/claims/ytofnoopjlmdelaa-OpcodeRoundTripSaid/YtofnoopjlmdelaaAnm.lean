/-
  Plain model of answers: equal answers, plain answers.
  Conditions: none.
-/
import Derived.Test.YtofnoopjlmdelaaLaw
namespace Go.V
open Go

theorem AnM.ext' {x y : AnM} (h : x.err = y.err ∧ x.handle = y.handle ∧ x.value = y.value ∧ x.found = y.found ∧ x.n = y.n ∧ x.ekey = y.ekey ∧ x.eval = y.eval ∧ x.count = y.count ∧ x.sum = y.sum ∧ x.mn = y.mn ∧ x.mx = y.mx ∧ x.ents = y.ents ∧ x.chs = y.chs ∧ x.keys = y.keys ∧ x.bytes = y.bytes) : x = y := by
  cases x; cases y; simp only [AnM.mk.injEq]; exact h
/-- an answer's numbers lie in their kinds -/
structure AnT (x : AnM) : Prop where
  err : I64 x.err
  handle : 0 ≤ x.handle ∧ x.handle ≤ 18446744073709551615
  value : I64 x.value
  n : I64 x.n
  ekey : I64 x.ekey
  eval : I64 x.eval
  count : I64 x.count
  sum : I64 x.sum
  mn : I64 x.mn
  mx : I64 x.mx
  ents : En64 x.ents
  chs : Ch64 x.chs
  keys : I64s x.keys
  by_ : B8 x.bytes
def bigAn (x : AnM) : Prop := 60 < x.ents.length ∨ 60 < x.chs.length ∨ 60 < x.keys.length ∨ 300 < x.bytes.length
instance (x : AnM) : Decidable (bigAn x) := by unfold bigAn; infer_instance
theorem AnT.w {x : AnM} (h : AnT x) (hb : ¬ bigAn x) : AnW x := by
  unfold bigAn at hb
  exact ⟨h.err, h.handle, h.value, h.n, h.ekey, h.eval, h.count, h.sum, h.mn, h.mx, h.ents, h.chs, h.keys, by omega, by omega, by omega, by omega⟩
def plainAn (x : AnM) : AnM := { x with err := x.err % 256, chs := kind256 x.chs }
theorem kind256_len (l : List (Int × Int × Int × Int)) : (kind256 l).length = l.length := by simp [kind256]
theorem kind256_8 (l : List (Int × Int × Int × Int)) : Ch8 (kind256 l) := fun c hc => by
  obtain ⟨d, _, rfl⟩ := List.mem_map.1 hc
  exact mod_B8 _
theorem kind256_64 {l : List (Int × Int × Int × Int)} (h : Ch64 l) : Ch64 (kind256 l) := fun c hc => by
  obtain ⟨d, hd, rfl⟩ := List.mem_map.1 hc
  exact ⟨I64_b (mod_B8 _), (h d hd).2⟩
theorem plain_T {x : AnM} (h : AnT x) : AnT (plainAn x) := ⟨I64_b (mod_B8 _), h.handle, h.value, h.n, h.ekey, h.eval, h.count, h.sum, h.mn, h.mx, h.ents, kind256_64 h.chs, h.keys, h.by_⟩
theorem plain_big {x : AnM} (h : ¬ bigAn x) : ¬ bigAn (plainAn x) := by
  unfold bigAn at h ⊢
  have := kind256_len x.chs
  show ¬ (60 < x.ents.length ∨ 60 < (kind256 x.chs).length ∨ 60 < x.keys.length ∨ 300 < x.bytes.length)
  omega
section
variable {bs : List Int}
theorem rEnts_len : ∀ (n p : Nat) (e : Int), (rEnts bs n p e).1.length ≤ n
  | 0, _, _ => Nat.le_refl _
  | n + 1, p, e => by
    unfold rEnts
    split
    · exact Nat.zero_le _
    · have := rEnts_len n (rZ bs (rZ bs p e).2.1 (rZ bs p e).2.2).2.1 (rZ bs (rZ bs p e).2.1 (rZ bs p e).2.2).2.2
      simp only [List.length_cons]; omega
theorem rChs_len : ∀ (n p : Nat) (e : Int), (rChs bs n p e).1.length ≤ n
  | 0, _, _ => Nat.le_refl _
  | n + 1, p, e => by
    unfold rChs
    split
    · exact Nat.zero_le _
    · simp only [List.length_cons]
      exact Nat.succ_le_succ (rChs_len n _ _)
theorem rInts_len : ∀ (n p : Nat) (e : Int), (rInts bs n p e).1.length ≤ n
  | 0, _, _ => Nat.le_refl _
  | n + 1, p, e => by
    unfold rInts
    split
    · exact Nat.zero_le _
    · simp only [List.length_cons]
      exact Nat.succ_le_succ (rInts_len n _ _)
theorem rCnt_le2 {p : Nat} {e : Int} : (rCnt bs p e).1.toNat ≤ bs.length := by
  unfold rCnt rLeft
  split
  · exact Nat.zero_le _
  · omega
/-- an answer as the reader gives it: its lists are no longer than the bytes -/
structure AnR (bs : List Int) (x : AnM) : Prop where
  ents : x.ents.length ≤ bs.length
  chs : x.chs.length ≤ bs.length
  keys : x.keys.length ≤ bs.length
  by_ : B8 x.bytes
theorem rAns_R (hb : B8 bs) (p : Nat) : AnR bs (rAns bs p).1 := by
  obtain ⟨p1, e1, h1⟩ : ∃ q e, (rAns bs p).1.ents = (rEnts bs (rCnt bs q e).1.toNat (rCnt bs q e).2.1 (rCnt bs q e).2.2).1 := ⟨_, _, rfl⟩
  obtain ⟨p2, e2, h2⟩ : ∃ q e, (rAns bs p).1.chs = (rChs bs (rCnt bs q e).1.toNat (rCnt bs q e).2.1 (rCnt bs q e).2.2).1 := ⟨_, _, rfl⟩
  obtain ⟨p3, e3, h3⟩ : ∃ q e, (rAns bs p).1.keys = (rInts bs (rCnt bs q e).1.toNat (rCnt bs q e).2.1 (rCnt bs q e).2.2).1 := ⟨_, _, rfl⟩
  obtain ⟨n4, p4, e4, h4⟩ : ∃ n q e, (rAns bs p).1.bytes = (rBytes bs n q e).1 := ⟨_, _, _, rfl⟩
  refine ⟨?_, ?_, ?_, by rw [h4]; exact rBytes_B8 hb⟩
  · rw [h1]; exact Nat.le_trans (rEnts_len _ _ _) rCnt_le2
  · rw [h2]; exact Nat.le_trans (rChs_len _ _ _) rCnt_le2
  · rw [h3]; exact Nat.le_trans (rInts_len _ _ _) rCnt_le2
theorem an0_R : AnR bs an0 := ⟨Nat.zero_le _, Nat.zero_le _, Nat.zero_le _, fun _ h => by cases h⟩
theorem rNxa_R (hb : B8 bs) (at_ : Int) : AnR bs (rNxa bs at_).1 := by
  unfold rNxa
  split
  · exact an0_R
  · split
    · exact an0_R
    · exact rAns_R hb _
end
/-! ### sizes -/
theorem eAn_len {x : AnM} (h : AnW x) (hb : ¬ bigAn x) : 1 ≤ (eAn x).length ∧ (eAn x).length ≤ 5000 := by
  unfold bigAn at hb
  have h1 := eU_len (u := x.err % 18446744073709551616) (by omega)
  have h2 := eU_len h.handle.2
  have h3 := eZ_len h.value
  have h5 := eZ_len h.n
  have h6 := eZ_len h.ekey
  have h7 := eZ_len h.eval
  have h8 := eZ_len h.count
  have h9 := eZ_len h.sum
  have h10 := eZ_len h.mn
  have h11 := eZ_len h.mx
  have h12 := eEnts_len h.ents (by omega)
  have h13 := eChs_len h.chs (by omega)
  have h14 := eU_len (u := (x.keys.length : Int)) (by omega)
  have h15 := eKeys_len h.keys
  have h16 := eBytes_len (l := x.bytes) (by omega)
  have h4 : (eF x.found).length = 1 := by simp [eF]
  unfold eAn
  simp only [List.length_append]
  omega
theorem eAn_B8 {x : AnM} (h : B8 x.bytes) : B8 (eAn x) := by
  unfold eAn
  exact (((((((((((((((eU_B8 _).app (eU_B8 _)).app (eZ_B8 _)).app (eF_B8 _)).app (eZ_B8 _)).app (eZ_B8 _)).app (eZ_B8 _)).app (eZ_B8 _)).app (eZ_B8 _)).app (eZ_B8 _)).app (eZ_B8 _)).app (eEnts_B8 _)).app (eChs_B8 _)).app ((eU_B8 _).app (fm_B8 fun _ _ => eZ_B8 _))).app (eBytes_B8 h))
end Go.V
