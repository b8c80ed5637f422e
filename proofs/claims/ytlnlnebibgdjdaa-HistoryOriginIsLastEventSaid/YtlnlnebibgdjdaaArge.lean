/-
  The laws' arguments: steps of a chain, as they lie in memory.
  Conditions: none; every fact is proved from the library's own definitions.
-/
import Derived.Test.YtlnlnebibgdjdaaArgv
namespace Go.Proofs.Ytlnlnebibgdjdaa
open Go Go.V Go.RowKit
set_option maxRecDepth 100000
theorem rdf_127 {H : Type} {enc : TypeId × Value → H} {w : World} {cs : List Value} (h : Rdc enc Try.prog w 127 cs) : ∃ c0 c1 c2 c3 : Value, cs = [c0, c1, c2, c3] ∧ Rdc enc Try.prog w 3 [c0] ∧ Rdc enc Try.prog w 46 [c1, c2] ∧ Rdc enc Try.prog w 3 [c3] := by
  obtain ⟨hl, hf⟩ := Rdc.struct h Try.underlying127
  rw [show Try.prog.cellsOf 127 = 4 by kernel_rfl] at hl
  match cs, hl with
  | [c0, c1, c2, c3], _ =>
    have f0 : Rdc enc Try.prog w 3 (([c0, c1, c2, c3].drop 0).take (Try.prog.cellsOf 3)) := hf 0 _ rfl
    rw [show Try.prog.cellsOf 3 = 1 by kernel_rfl] at f0
    have f1 : Rdc enc Try.prog w 46 (([c0, c1, c2, c3].drop 1).take (Try.prog.cellsOf 46)) := hf 1 _ rfl
    rw [show Try.prog.cellsOf 46 = 2 by kernel_rfl] at f1
    have f2 : Rdc enc Try.prog w 3 (([c0, c1, c2, c3].drop 3).take (Try.prog.cellsOf 3)) := hf 2 _ rfl
    rw [show Try.prog.cellsOf 3 = 1 by kernel_rfl] at f2
    exact ⟨c0, c1, c2, c3, rfl, f0, f1, f2⟩
section
variable {H : Type} {enc : TypeId × Value → H} {w : World} {cs : List Value}
theorem rd_step (h : Rdc enc Try.prog w 127 cs) : ∃ x : Int × Int × Int × Int, cs = [.int .i64 x.1, .int .i64 x.2.1, .int .i64 x.2.2.1, .int .i64 x.2.2.2] ∧ Ir x.1 ∧ Ir x.2.1 ∧ Ir x.2.2.2 := by
  obtain ⟨c0, c1, c2, c3, rfl, h0, h1, h2⟩ := rdf_127 h
  obtain ⟨a, e0, w0⟩ := rd_int h0
  obtain ⟨b, e1, w1⟩ := rd_ent h1
  obtain ⟨d, e2, w2⟩ := rd_int h2
  cases e0; cases e1; cases e2
  exact ⟨(a, b.1, b.2, d), rfl, w0, w1.1, w2⟩
theorem rd_steps (h : Rdc enc Try.prog w 53 cs) : ∃ (l : List (Int × Int × Int × Int)) (a : Option Addr) (c : Nat), cs = [.slice a (ch4 l).length c] ∧ (∀ x ∈ l, Ir x.1 ∧ Ir x.2.1 ∧ Ir x.2.2.2) ∧ l.length ≤ maxLen ∧ ∀ e, Hw w (Sh e 4 (ch4 l) a c) := by
  obtain ⟨a, c, ls, h1, h2, h3, h4⟩ := Rdc.slice (e := 127) (size := 4) h (by kernel_rfl) (by kernel_rfl) (by decide) (fun x hx => by
    obtain ⟨n, hn, _⟩ := rd_step hx
    subst hn; exact ⟨rfl, fun u hu => by simp at hu; rcases hu with rfl | rfl | rfl | rfl <;> rfl⟩)
  obtain ⟨m, rfl, hm⟩ := map_of (fun x : Int × Int × Int × Int => [Value.int .i64 x.1, Value.int .i64 x.2.1, Value.int .i64 x.2.2.1, Value.int .i64 x.2.2.2]) (fun x => Ir x.1 ∧ Ir x.2.1 ∧ Ir x.2.2.2) ls (fun x hx => by
    obtain ⟨n, hn, hb⟩ := rd_step (h3 x hx)
    exact ⟨n, hn, hb⟩)
  exact ⟨m, a, c, h1, hm, by simpa using h2, h4⟩
end
end Go.Proofs.Ytlnlnebibgdjdaa
