/-
  The laws' arguments: numbers, strings, lists of bytes and of words, as they lie in memory.
  Conditions: none; every fact is proved from the library's own definitions.
-/
import Derived.Test.YtenkmjbghbegfaaDoorRow
import Derived.Test.YtenkmjbghbegfaaDoorTypes
namespace Go.Proofs.YtenkmjbghbegfaaDoor
open Go Go.V Go.RowKit
set_option maxRecDepth 100000
section
variable {H : Type} {enc : TypeId × Value → H} {w : World} {cs : List Value}
theorem rd_i64 (h : Rdc enc Tryd.prog w 2 cs) : ∃ n, cs = [.int .i64 n] ∧ (-9223372036854775808 ≤ n ∧ n ≤ 9223372036854775807) := by
  obtain ⟨n, h1, h2, h3⟩ := h.int (k := .i64) (by kernel_rfl)
  exact ⟨n, h1, h2, h3⟩
theorem rd_int (h : Rdc enc Tryd.prog w 3 cs) : ∃ n, cs = [.int .i64 n] ∧ (-9223372036854775808 ≤ n ∧ n ≤ 9223372036854775807) := by
  obtain ⟨n, h1, h2, h3⟩ := h.int (k := .i64) (by kernel_rfl)
  exact ⟨n, h1, h2, h3⟩
theorem rd_u64 (h : Rdc enc Tryd.prog w 31 cs) : ∃ n, cs = [.int .u64 n] ∧ 0 ≤ n ∧ n ≤ 18446744073709551615 := by
  obtain ⟨n, h1, h2, h3⟩ := h.int (k := .u64) (by kernel_rfl)
  exact ⟨n, h1, h2, h3⟩
theorem rd_u8 (h : Rdc enc Tryd.prog w 5 cs) : ∃ n, cs = [.int .u8 n] ∧ 0 ≤ n ∧ n ≤ 255 := by
  obtain ⟨n, h1, h2, h3⟩ := h.int (k := .u8) (by kernel_rfl)
  exact ⟨n, h1, h2, h3⟩
theorem rd_bool (h : Rdc enc Tryd.prog w 4 cs) : ∃ b, cs = [.bool b] := h.bool (by kernel_rfl)
theorem rd_str (h : Rdc enc Tryd.prog w 9 cs) : ∃ s, cs = [.string s] := by
  obtain ⟨s, h1, _⟩ := h.str (by kernel_rfl)
  exact ⟨s, h1⟩
theorem one1 {x : List Value} {v : Value} (h : x = [v]) (h1 : v.oneCell' = true) : x.length = 1 ∧ ∀ u ∈ x, u.oneCell' = true := by
  subst h; exact ⟨rfl, fun u hu => by simp at hu; subst hu; exact h1⟩
theorem rd_bytes (h : Rdc enc Tryd.prog w 22 cs) : ∃ (l : List Int) (a : Option Addr) (c : Nat), cs = [.slice a (by8 l).length c] ∧ B8 l ∧ l.length ≤ maxLen ∧ ∀ e, Hw w (Sh e 1 (by8 l) a c) := by
  obtain ⟨a, c, ls, h1, h2, h3, h4⟩ := Rdc.slice (e := 5) (size := 1) h (by kernel_rfl) (by kernel_rfl) (by decide) (fun x hx => by
    obtain ⟨n, hn, _⟩ := rd_u8 hx
    exact one1 hn rfl)
  obtain ⟨m, rfl, hm⟩ := map_of (fun x : Int => [Value.int .u8 x]) (fun x => 0 ≤ x ∧ x ≤ 255) ls (fun x hx => by
    obtain ⟨n, hn, hb⟩ := rd_u8 (h3 x hx)
    exact ⟨n, hn, hb⟩)
  exact ⟨m, a, c, h1, hm, by simpa using h2, h4⟩
theorem rd_u64s (h : Rdc enc Tryd.prog w 26 cs) : ∃ (l : List Int) (a : Option Addr) (c : Nat), cs = [.slice a (u64s l).length c] ∧ (∀ x ∈ l, 0 ≤ x ∧ x ≤ 18446744073709551615) ∧ l.length ≤ maxLen ∧ ∀ e, Hw w (Sh e 1 (u64s l) a c) := by
  obtain ⟨a, c, ls, h1, h2, h3, h4⟩ := Rdc.slice (e := 31) (size := 1) h (by kernel_rfl) (by kernel_rfl) (by decide) (fun x hx => by
    obtain ⟨n, hn, _⟩ := rd_u64 hx
    exact one1 hn rfl)
  obtain ⟨m, rfl, hm⟩ := map_of (fun x : Int => [Value.int .u64 x]) (fun x => 0 ≤ x ∧ x ≤ 18446744073709551615) ls (fun x hx => by
    obtain ⟨n, hn, hb⟩ := rd_u64 (h3 x hx)
    exact ⟨n, hn, hb⟩)
  exact ⟨m, a, c, h1, hm, by simpa using h2, h4⟩
end
end Go.Proofs.YtenkmjbghbegfaaDoor
