/-
  Plain model of the encodings: varints, read and written.
  Conditions: none.
-/
import Derived.Test.YtofnoopjlmdelaaNum
namespace Go.V
open Go

def varint (u : Nat) : List Int := if u < 128 then [(u : Int)] else ((u : Int) % 128 + 128) :: varint (u / 128)
termination_by u
decreasing_by omega
theorem varint_lt {u : Nat} (h : u < 128) : varint u = [(u : Int)] := by rw [varint, if_pos h]
theorem varint_ge {u : Nat} (h : ¬ u < 128) : varint u = ((u : Int) % 128 + 128) :: varint (u / 128) := by rw [varint, if_neg h]
theorem varint_len (k : Nat) : ∀ u : Nat, u < 128 ^ k → 0 < k → (varint u).length ≤ k := by
  induction k with
  | zero => intro u _ h; omega
  | succ k ih =>
    intro u hu _
    by_cases h : u < 128
    · rw [varint_lt h]; simp
    · rw [varint_ge h]
      have h2 : u / 128 < 128 ^ k := by rw [Nat.pow_succ] at hu; omega
      have h3 : 0 < k := by
        rcases Nat.eq_zero_or_pos k with rfl | h'
        · simp at h2; omega
        · exact h'
      have := ih (u / 128) h2 h3
      simp only [List.length_cons]; omega
theorem varint_B8 (u : Nat) : B8 (varint u) := by
  induction u using Nat.strongRecOn with
  | _ u ih =>
    intro x hx
    by_cases h : u < 128
    · rw [varint_lt h] at hx; simp at hx; omega
    · rw [varint_ge h] at hx
      rcases List.mem_cons.1 hx with rfl | hx
      · omega
      · exact ih _ (by omega) x hx
/-- reads a varint: its value, its length, the error -/
def uvGo : Nat → Int → List Int → Int × Nat × Int
  | _, _, [] => (0, 0, 12)
  | i, u, c :: r => if (i = 9 ∧ 1 < c) ∨ (0 < i ∧ c = 0) then (0, 0, 13) else if c < 128 then (u + c * 128 ^ i, i + 1, 0) else uvGo (i + 1) (u + (c - 128) * 128 ^ i) r
def uv (l : List Int) : Int × Nat × Int := uvGo 0 0 l
theorem uvGo_nil (i : Nat) (u : Int) : uvGo i u [] = (0, 0, 12) := rfl
theorem uvGo_bad {i : Nat} {u c : Int} {r : List Int} (h : (i = 9 ∧ 1 < c) ∨ (0 < i ∧ c = 0)) : uvGo i u (c :: r) = (0, 0, 13) := by rw [uvGo, if_pos h]
theorem uvGo_end {i : Nat} {u c : Int} {r : List Int} (h : ¬ ((i = 9 ∧ 1 < c) ∨ (0 < i ∧ c = 0))) (hc : c < 128) : uvGo i u (c :: r) = (u + c * 128 ^ i, i + 1, 0) := by rw [uvGo, if_neg h, if_pos hc]
theorem uvGo_go {i : Nat} {u c : Int} {r : List Int} (h : ¬ ((i = 9 ∧ 1 < c) ∨ (0 < i ∧ c = 0))) (hc : ¬ c < 128) : uvGo i u (c :: r) = uvGo (i + 1) (u + (c - 128) * 128 ^ i) r := by rw [uvGo, if_neg h, if_neg hc]
theorem p128 (i : Nat) : (128 : Int) ^ (i + 1) = 128 * 128 ^ i := by rw [Int.pow_succ, Int.mul_comm]
/-- the bounds that hold at byte i -/
def UvB (i : Nat) (u : Int) : Prop := i ≤ 9 ∧ 0 ≤ u ∧ u < 128 ^ i
theorem UvB.start : UvB 0 0 := ⟨by omega, by omega, by simp⟩
theorem UvB.next {i : Nat} {u c : Int} (h : UvB i u) (hb : ¬ ((i = 9 ∧ 1 < c) ∨ (0 < i ∧ c = 0))) (hc : ¬ c < 128) (h8 : c ≤ 255) : UvB (i + 1) (u + (c - 128) * 128 ^ i) := by
  obtain ⟨h1, h2, h3⟩ := h
  have hp : (0 : Int) < 128 ^ i := Int.pow_pos (by decide)
  have h9 : i ≠ 9 := fun e => hb (.inl ⟨e, by omega⟩)
  refine ⟨by omega, ?_, ?_⟩
  · have := Int.mul_nonneg (show 0 ≤ c - 128 by omega) (Int.le_of_lt hp); omega
  · rw [p128]
    have := Int.mul_le_mul_of_nonneg_right (show c - 128 ≤ 127 by omega) (Int.le_of_lt hp)
    omega
theorem p128_9 : (128 : Int) ^ 9 = 9223372036854775808 := by decide
theorem p128_le {i : Nat} (h : i ≤ 8) : (128 : Int) ^ i * 128 ≤ 9223372036854775808 := by
  have : i = 0 ∨ i = 1 ∨ i = 2 ∨ i = 3 ∨ i = 4 ∨ i = 5 ∨ i = 6 ∨ i = 7 ∨ i = 8 := by omega
  rcases this with rfl | rfl | rfl | rfl | rfl | rfl | rfl | rfl | rfl <;> decide
/-- the sum stays a 64 bit number -/
theorem UvB.fits {i : Nat} {u c : Int} (h : UvB i u) (hb : ¬ ((i = 9 ∧ 1 < c) ∨ (0 < i ∧ c = 0))) (h0 : 0 ≤ c) (h8 : c ≤ 255) : 0 ≤ c % 128 * 128 ^ i ∧ u + c % 128 * 128 ^ i < 2 ^ 64 := by
  obtain ⟨h1, h2, h3⟩ := h
  have hp : (0 : Int) < 128 ^ i := Int.pow_pos (by decide)
  have hm : 0 ≤ c % 128 := by omega
  refine ⟨Int.mul_nonneg hm (Int.le_of_lt hp), ?_⟩
  by_cases h9 : i = 9
  · subst h9
    have hc : c ≤ 1 := by
      by_cases h : 1 < c
      · exact absurd (.inl ⟨rfl, h⟩) hb
      · omega
    rw [p128_9] at *
    have : c % 128 = c := by omega
    rw [this]
    have h5 : c = 0 ∨ c = 1 := by omega
    rcases h5 with rfl | rfl <;> omega
  · have h4 := p128_le (show i ≤ 8 by omega)
    have h5 := Int.mul_le_mul_of_nonneg_right (show c % 128 ≤ 127 by omega) (Int.le_of_lt hp)
    omega
theorem UvB.fits2 {i : Nat} {u c : Int} (h : UvB i u) (hb : ¬ (i = 9 ∧ 1 < c)) (h0 : 0 ≤ c) (h8 : c ≤ 255) : 0 ≤ c % 128 * 128 ^ i ∧ u + c % 128 * 128 ^ i < 18446744073709551616 := by
  by_cases hc : c = 0
  · subst hc
    have hp : (0 : Int) < 128 ^ i := Int.pow_pos (by decide)
    have := h.fits (c := 1) (by omega) (by omega) (by omega)
    have h2 : (1 : Int) % 128 * 128 ^ i = 128 ^ i := by rw [show (1 : Int) % 128 = 1 by decide, Int.one_mul]
    rw [h2] at this
    have h3 : (0 : Int) % 128 * 128 ^ i = 0 := by rw [show (0 : Int) % 128 = 0 by decide, Int.zero_mul]
    rw [h3]; omega
  · exact h.fits (by omega) h0 h8
theorem p128_u {i : Nat} (h : i ≤ 8) : 0 ≤ (128 : Int) ^ (i + 1) ∧ (128 : Int) ^ (i + 1) ≤ 18446744073709551615 := by
  have h1 := p128_le h
  have h2 : (0 : Int) < 128 ^ (i + 1) := Int.pow_pos (by decide)
  rw [Int.pow_succ] at h2 ⊢
  omega
theorem p2_128 {i : Nat} (h : i ≤ 9) : p2 .u64 (7 * i) = 128 ^ i := by
  have : i = 0 ∨ i = 1 ∨ i = 2 ∨ i = 3 ∨ i = 4 ∨ i = 5 ∨ i = 6 ∨ i = 7 ∨ i = 8 ∨ i = 9 := by omega
  rcases this with rfl | rfl | rfl | rfl | rfl | rfl | rfl | rfl | rfl | rfl <;> decide
theorem p128_2 (i : Nat) : (128 : Int) ^ i = 2 ^ (7 * i) := by
  rw [Int.pow_mul]; rfl
theorem uv_step {i : Nat} {u c : Int} (h : UvB i u) (hb : ¬ ((i = 9 ∧ 1 < c) ∨ (0 < i ∧ c = 0))) (h0 : 0 ≤ c) (h8 : c ≤ 255) : bts .or .u64 u (IntKind.u64.wrap (c % 128 * p2 .u64 (7 * i))) = u + c % 128 * 128 ^ i := by
  obtain ⟨f1, f2⟩ := h.fits hb h0 h8
  obtain ⟨h1, h2, h3⟩ := h
  rw [p2_128 h1, wu64 (by omega)]
  rw [p128_2] at h3 f2 ⊢
  exact or_shift h2 h3 (by omega) f2
theorem uvGo_err : ∀ (l : List Int) (i : Nat) (u : Int), (uvGo i u l).2.2 = 0 ∨ ((uvGo i u l).1 = 0 ∧ (uvGo i u l).2.1 = 0 ∧ ((uvGo i u l).2.2 = 12 ∨ (uvGo i u l).2.2 = 13))
  | [], i, u => .inr ⟨rfl, rfl, .inl rfl⟩
  | c :: r, i, u => by
    by_cases hb : (i = 9 ∧ 1 < c) ∨ (0 < i ∧ c = 0)
    · rw [uvGo_bad hb]; exact .inr ⟨rfl, rfl, .inr rfl⟩
    · by_cases hc : c < 128
      · rw [uvGo_end hb hc]; exact .inl rfl
      · rw [uvGo_go hb hc]; exact uvGo_err r _ _
theorem uvGo_len : ∀ (l : List Int) (i : Nat) (u : Int), (uvGo i u l).2.2 = 0 → i < (uvGo i u l).2.1 ∧ (uvGo i u l).2.1 ≤ i + l.length
  | [], i, u, h => by simp [uvGo] at h
  | c :: r, i, u, h => by
    by_cases hb : (i = 9 ∧ 1 < c) ∨ (0 < i ∧ c = 0)
    · rw [uvGo_bad hb] at h; simp at h
    · by_cases hc : c < 128
      · rw [uvGo_end hb hc]; simp
      · rw [uvGo_go hb hc] at h ⊢
        have := uvGo_len r _ _ h
        simp only [List.length_cons]; omega
theorem uvGo_bd : ∀ (l : List Int) (i : Nat) (u : Int), B8 l → UvB i u → 0 ≤ (uvGo i u l).1 ∧ (uvGo i u l).1 ≤ 18446744073709551615
  | [], i, u, _, _ => by simp [uvGo]
  | c :: r, i, u, hl, hu => by
    have hc8 := hl c (by simp)
    by_cases hb : (i = 9 ∧ 1 < c) ∨ (0 < i ∧ c = 0)
    · rw [uvGo_bad hb]; simp
    · by_cases hc : c < 128
      · rw [uvGo_end hb hc]
        have := hu.fits hb hc8.1 hc8.2
        rw [show c % 128 = c by omega] at this
        have := hu.2.1
        simp only; omega
      · rw [uvGo_go hb hc]; exact uvGo_bd r _ _ (fun x hx => hl x (by simp [hx])) (hu.next hb hc hc8.2)
end Go.V
