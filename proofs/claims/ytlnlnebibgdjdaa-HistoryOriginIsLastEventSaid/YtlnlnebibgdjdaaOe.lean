/-
  Origins in a map; what events find there.
  Conditions: none.
-/
import Derived.Test.YtlnlnebibgdjdaaHn
import Derived.Test.YtlnlnebibgdjdaaMp
namespace Go.V
open Go Go.RowKit

structure OE where
  k : Int
  v : Int
  t : Int
  b : Nat
def oK (x : OE) : Value × Value × Nat := (.int .i64 x.k, .agg #[.int .i64 x.k, .int .i64 x.v, .int .i64 x.t], x.b)
def OE.p (x : OE) : Int × Int := (x.v, x.t)
theorem POk.pick {α β : Type} {f : α → Value × Value × Nat} {n : α → Int} {g : α → β} {xs : List α} {q : Nat} {M : List (Int × β)} (h : POk f n g xs q M) {k : Int} (hs : (pget k M).isSome = true) : ∃ (j : Nat) (x : α), xs[j]? = some x ∧ n x = k := by
  rcases ki_cases n xs k with ⟨j, x, hj, hx⟩ | hn
  · exact ⟨j, x, hj, hx⟩
  · rw [h.no hn] at hs; cases hs
theorem POk.nth {α β : Type} {f : α → Value × Value × Nat} {n : α → Int} {g : α → β} {xs : List α} {q : Nat} {M : List (Int × β)} (h : POk f n g xs q M) {m : Nat} {e : Int × β} (he : M[m]? = some e) : ∃ (j : Nat) (x : α), xs[j]? = some x ∧ n x = e.1 ∧ g x = e.2 := by
  obtain ⟨x, hx, rfl⟩ := (h.mem e).1 (List.mem_of_getElem? he)
  obtain ⟨j, hj⟩ := List.mem_iff_getElem?.1 hx
  exact ⟨j, x, hj, rfl, rfl⟩
theorem lget_map (k : Int) (M : List (Int × Int × Int)) : lget k (M.map fun x => (x.1, x.2.1)) = (pget k M).map (·.1) := by
  unfold lget pget
  rw [List.find?_map, Option.map_map, Option.map_map]; rfl
section
variable {L : List Kvs}
theorem ev_rm (h : LOk L) {n p : Nat} {e : Ev} (he : (hev minI maxI L n)[p]? = some e) (hk : e.2.1 = 2) : (pget e.2.2.1 (oAll ((hev minI maxI L n).take p))).isSome = true := by
  have h1 := rpE_pos h he hk
  rw [← oAll_list, lget_map, Option.isSome_map] at h1
  exact h1
theorem ev_rng {n p : Nat} {e : Ev} (he : (hev minI maxI L n)[p]? = some e) : -9223372036854775808 ≤ e.2.2.1 ∧ e.2.2.1 ≤ 9223372036854775807 := by
  obtain ⟨i, m, c, _, h2, rfl, _, _⟩ := hev_pos he
  unfold dA inR at h2
  have h3 := (List.mem_filter.1 (List.mem_of_getElem? h2)).2
  have h4 : minI ≤ c.2.1 ∧ c.2.1 ≤ maxI := by simpa using h3
  exact h4
theorem oAll_step {E : List Ev} {p : Nat} {e : Ev} (he : E[p]? = some e) : oAll (E.take (p + 1)) = oStep (oAll (E.take p)) e := by
  rw [List.take_add_one, he]; exact oAll_snoc _ _
end
end Go.V
