/-
  The laws' arguments: numbers and truth values, as they lie in memory.
  Conditions: none; every fact is proved from the library's own definitions.
-/
import Derived.Test.YtlnlnebibgdjdaaEgb
import Derived.Test.YtlnlnebibgdjdaaTypes
namespace Go.Proofs.Ytlnlnebibgdjdaa
open Go Go.V Go.RowKit
set_option maxRecDepth 100000
section
variable {H : Type} {enc : TypeId × Value → H} {w : World} {cs : List Value}
theorem rd_int (h : Rdc enc Try.prog w 3 cs) : ∃ n, cs = [.int .i64 n] ∧ (-9223372036854775808 ≤ n ∧ n ≤ 9223372036854775807) := by
  obtain ⟨n, h1, h2, h3⟩ := h.int (k := .i64) (by kernel_rfl)
  exact ⟨n, h1, h2, h3⟩
theorem rd_bool (h : Rdc enc Try.prog w 4 cs) : ∃ b, cs = [.bool b] := h.bool (by kernel_rfl)
theorem one1 {x : List Value} {v : Value} (h : x = [v]) (h1 : v.oneCell' = true) : x.length = 1 ∧ ∀ u ∈ x, u.oneCell' = true := by
  subst h; exact ⟨rfl, fun u hu => by simp at hu; subst hu; exact h1⟩
theorem rd_nums (h : Rdc enc Try.prog w 33 cs) : ∃ (l : List Int) (a : Option Addr) (c : Nat), cs = [.slice a (i64s l).length c] ∧ (∀ x ∈ l, -9223372036854775808 ≤ x ∧ x ≤ 9223372036854775807) ∧ l.length ≤ maxLen ∧ ∀ e, Hw w (Sh e 1 (i64s l) a c) := by
  obtain ⟨a, c, ls, h1, h2, h3, h4⟩ := Rdc.slice (e := 3) (size := 1) h (by kernel_rfl) (by kernel_rfl) (by decide) (fun x hx => by
    obtain ⟨n, hn, _⟩ := rd_int hx
    exact one1 hn rfl)
  obtain ⟨m, rfl, hm⟩ := map_of (fun x : Int => [Value.int .i64 x]) (fun x => -9223372036854775808 ≤ x ∧ x ≤ 9223372036854775807) ls (fun x hx => by
    obtain ⟨n, hn, hb⟩ := rd_int (h3 x hx)
    exact ⟨n, hn, hb⟩)
  exact ⟨m, a, c, h1, hm, by simpa using h2, h4⟩
end
end Go.Proofs.Ytlnlnebibgdjdaa
