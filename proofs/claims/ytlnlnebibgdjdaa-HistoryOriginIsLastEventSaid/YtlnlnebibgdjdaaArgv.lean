/-
  The laws' arguments: entries, as they lie in memory.
  Conditions: none; every fact is proved from the library's own definitions.
-/
import Derived.Test.YtlnlnebibgdjdaaArgp
import Derived.Test.YtlnlnebibgdjdaaAga
namespace Go.Proofs.Ytlnlnebibgdjdaa
open Go Go.V Go.RowKit
set_option maxRecDepth 100000
theorem rdf_46 {H : Type} {enc : TypeId × Value → H} {w : World} {cs : List Value} (h : Rdc enc Try.prog w 46 cs) : ∃ c0 c1 : Value, cs = [c0, c1] ∧ Rdc enc Try.prog w 2 [c0] ∧ Rdc enc Try.prog w 2 [c1] := by
  obtain ⟨hl, hf⟩ := Rdc.struct h Try.underlying46
  rw [show Try.prog.cellsOf 46 = 2 by kernel_rfl] at hl
  match cs, hl with
  | [c0, c1], _ =>
    have f0 : Rdc enc Try.prog w 2 (([c0, c1].drop 0).take (Try.prog.cellsOf 2)) := hf 0 _ rfl
    rw [show Try.prog.cellsOf 2 = 1 by kernel_rfl] at f0
    have f1 : Rdc enc Try.prog w 2 (([c0, c1].drop 1).take (Try.prog.cellsOf 2)) := hf 1 _ rfl
    rw [show Try.prog.cellsOf 2 = 1 by kernel_rfl] at f1
    exact ⟨c0, c1, rfl, f0, f1⟩
section
variable {H : Type} {enc : TypeId × Value → H} {w : World} {cs : List Value}
theorem rd_i64 (h : Rdc enc Try.prog w 2 cs) : ∃ n, cs = [.int .i64 n] ∧ Ir n := by
  obtain ⟨n, h1, h2, h3⟩ := h.int (k := .i64) (by kernel_rfl)
  exact ⟨n, h1, h2, h3⟩
theorem rd_u64 (h : Rdc enc Try.prog w 37 cs) : ∃ n, cs = [.int .u64 n] ∧ 0 ≤ n ∧ n ≤ 18446744073709551615 := by
  obtain ⟨n, h1, h2, h3⟩ := h.int (k := .u64) (by kernel_rfl)
  exact ⟨n, h1, h2, h3⟩
theorem rd_ent (h : Rdc enc Try.prog w 46 cs) : ∃ x : Int × Int, cs = [.int .i64 x.1, .int .i64 x.2] ∧ Ir x.1 ∧ Ir x.2 := by
  obtain ⟨c0, c1, rfl, h0, h1⟩ := rdf_46 h
  obtain ⟨a, e0, w0⟩ := rd_i64 h0
  obtain ⟨b, e1, w1⟩ := rd_i64 h1
  cases e0; cases e1
  exact ⟨(a, b), rfl, w0, w1⟩
theorem rd_ents (h : Rdc enc Try.prog w 36 cs) : ∃ (l : List (Int × Int)) (a : Option Addr) (c : Nat), cs = [.slice a (en2 l).length c] ∧ (∀ x ∈ l, Ir x.1 ∧ Ir x.2) ∧ l.length ≤ maxLen ∧ ∀ e, Hw w (Sh e 2 (en2 l) a c) := by
  obtain ⟨a, c, ls, h1, h2, h3, h4⟩ := Rdc.slice (e := 46) (size := 2) h (by kernel_rfl) (by kernel_rfl) (by decide) (fun x hx => by
    obtain ⟨n, hn, _⟩ := rd_ent hx
    subst hn; exact ⟨rfl, fun u hu => by simp at hu; rcases hu with rfl | rfl <;> rfl⟩)
  obtain ⟨m, rfl, hm⟩ := map_of (fun x : Int × Int => [Value.int .i64 x.1, Value.int .i64 x.2]) (fun x => Ir x.1 ∧ Ir x.2) ls (fun x hx => by
    obtain ⟨n, hn, hb⟩ := rd_ent (h3 x hx)
    exact ⟨n, hn, hb⟩)
  exact ⟨m, a, c, h1, hm, by simpa using h2, h4⟩
end
end Go.Proofs.Ytlnlnebibgdjdaa
