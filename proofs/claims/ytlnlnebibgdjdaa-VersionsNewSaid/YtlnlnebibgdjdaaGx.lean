/-
  Plain model: the greatest of the common ancestors, found by looking at each.
  Conditions: none.
-/
import Derived.Test.YtlnlnebibgdjdaaGk
namespace Go.V
open Go Go.RowKit

theorem gcm_snoc {l m : List Int} (h : Asc l) (hp : ∀ z ∈ l, 1 ≤ z) {k : Nat} {u : Int} (hu : l[k]? = some u) (hm : u ∈ m) : gcm (l.take (k + 1)) m = max (gcm (l.take k) m) u := by
  have h1 : Asc (l.take (k + 1)) := h.sublist (List.take_sublist _ _)
  have hmem : u ∈ l.take (k + 1) := by rw [List.take_add_one, hu]; simp
  rw [gcm_is h1 hmem hm fun z hz _ => take_le h hu hz]
  have h0 : Asc (l.take k) := h.sublist (List.take_sublist _ _)
  have hu1 := hp u (List.mem_of_getElem? hu)
  rcases gcm_cases (l := l.take k) (m := m) h0 with ⟨h2, _⟩ | ⟨h2, _, _⟩
  · rw [h2]; omega
  · have h3 := take_le h hu (z := gcm (l.take k) m) (by rw [List.take_add_one]; exact List.mem_append_left _ h2)
    omega
theorem gcm_skip {l m : List Int} {k : Nat} {u : Int} (hu : l[k]? = some u) (hm : u ∉ m) : gcm (l.take (k + 1)) m = gcm (l.take k) m := by
  unfold gcm
  rw [List.take_add_one, hu, List.filter_append]
  simp [hm]
theorem abG_pos {xs : List VN} {q : Nat} (hG : GOk xs q) (n : Int) : ∀ z ∈ abG xs n, 1 ≤ z ∧ preG xs z = true := fun z hz => by
  cases hf : vfind xs n with
  | none => rw [(g_out hf).2.2] at hz; cases hz
  | some x =>
    rw [(g_in hf).2.2] at hz
    have h1 := hG.pre x (vfind_some hf).1 z hz
    obtain ⟨y, hy, e⟩ := pre_iff.1 h1
    exact ⟨by rw [← e]; exact (hG.rng y hy).1, h1⟩
theorem base_self {xs : List VN} {q : Nat} (hG : GOk xs q) {n : Int} (hl : liveG xs n = true) : baseG xs n n = n := by
  rw [baseG_pos hl hl]
  obtain ⟨k, x, hx, hn, _, ha⟩ := live_ix hl
  have hm := List.mem_of_getElem? hx
  rw [ha]
  subst hn
  exact gcm_is (hG.asc x hm) (hG.self x hm) (hG.self x hm) fun z hz _ => hG.le x hm z hz
theorem base_comm {xs : List VN} {q : Nat} (hG : GOk xs q) (x y : Int) : baseG xs y x = baseG xs x y := by
  unfold baseG
  by_cases h : liveG xs x = true ∧ liveG xs y = true
  · rw [if_pos h, if_pos ⟨h.2, h.1⟩]; exact gcm_comm (hG.ascA y) (hG.ascA x)
  · rw [if_neg h, if_neg (fun k => h ⟨k.2, k.1⟩)]
theorem base_pre {xs : List VN} {q : Nat} (hG : GOk xs q) {x y : Int} (h : baseG xs x y ≠ 0) : preG xs (baseG xs x y) = true := by
  unfold baseG at h ⊢
  split at h
  · rename_i hl
    rw [if_pos hl]
    rcases gcm_cases (l := abG xs x) (m := abG xs y) (hG.ascA x) with ⟨h2, _⟩ | ⟨h2, _, _⟩
    · exact absurd h2 h
    · exact (abG_pos hG x _ h2).2
  · exact absurd rfl h
end Go.V
