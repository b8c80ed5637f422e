/-
  The laws' arguments: calls of Set, as they lie in memory.
  Conditions: none; every fact is proved from the library's own definitions.
-/
import Derived.Test.YtenkmjbghbegfaaDoorArgn
import Derived.Test.YtenkmjbghbegfaaDoorCn
namespace Go.Proofs.YtenkmjbghbegfaaDoor
open Go Go.V Go.RowKit
set_option maxRecDepth 100000
theorem rdf_40 {H : Type} {enc : TypeId × Value → H} {w : World} {cs : List Value} (h : Rdc enc Tryd.prog w 40 cs) : ∃ c0 c1 c2 c3 c4 c5 : Value, cs = [c0, c1, c2, c3, c4, c5] ∧ Rdc enc Tryd.prog w 3 [c0] ∧ Rdc enc Tryd.prog w 9 [c1] ∧ Rdc enc Tryd.prog w 31 [c2] ∧ Rdc enc Tryd.prog w 31 [c3] ∧ Rdc enc Tryd.prog w 4 [c4] ∧ Rdc enc Tryd.prog w 4 [c5] := by
  obtain ⟨hl, hf⟩ := Rdc.struct h Tryd.underlying40
  rw [show Tryd.prog.cellsOf 40 = 6 by kernel_rfl] at hl
  match cs, hl with
  | [c0, c1, c2, c3, c4, c5], _ =>
    have f0 : Rdc enc Tryd.prog w 3 (([c0, c1, c2, c3, c4, c5].drop 0).take (Tryd.prog.cellsOf 3)) := hf 0 _ rfl
    rw [show Tryd.prog.cellsOf 3 = 1 by kernel_rfl] at f0
    have f1 : Rdc enc Tryd.prog w 9 (([c0, c1, c2, c3, c4, c5].drop 1).take (Tryd.prog.cellsOf 9)) := hf 1 _ rfl
    rw [show Tryd.prog.cellsOf 9 = 1 by kernel_rfl] at f1
    have f2 : Rdc enc Tryd.prog w 31 (([c0, c1, c2, c3, c4, c5].drop 2).take (Tryd.prog.cellsOf 31)) := hf 2 _ rfl
    rw [show Tryd.prog.cellsOf 31 = 1 by kernel_rfl] at f2
    have f3 : Rdc enc Tryd.prog w 31 (([c0, c1, c2, c3, c4, c5].drop 3).take (Tryd.prog.cellsOf 31)) := hf 3 _ rfl
    rw [show Tryd.prog.cellsOf 31 = 1 by kernel_rfl] at f3
    have f4 : Rdc enc Tryd.prog w 4 (([c0, c1, c2, c3, c4, c5].drop 4).take (Tryd.prog.cellsOf 4)) := hf 4 _ rfl
    rw [show Tryd.prog.cellsOf 4 = 1 by kernel_rfl] at f4
    have f5 : Rdc enc Tryd.prog w 4 (([c0, c1, c2, c3, c4, c5].drop 5).take (Tryd.prog.cellsOf 4)) := hf 5 _ rfl
    rw [show Tryd.prog.cellsOf 4 = 1 by kernel_rfl] at f5
    exact ⟨c0, c1, c2, c3, c4, c5, rfl, f0, f1, f2, f3, f4, f5⟩
def clC (c : Cl) : List Value := [.int .i64 c.name, .string c.text, .int .u64 c.old, .int .u64 c.new, .bool c.raw, .bool c.fit]
section
variable {H : Type} {enc : TypeId × Value → H} {w : World} {cs : List Value}
theorem rd_call (h : Rdc enc Tryd.prog w 40 cs) : ∃ c : Cl, cs = clC c ∧ ClOk c := by
  obtain ⟨c0, c1, c2, c3, c4, c5, rfl, h0, h1, h2, h3, h4, h5⟩ := rdf_40 h
  obtain ⟨nm, e0, w0⟩ := rd_int h0
  obtain ⟨tx, e1⟩ := rd_str h1
  obtain ⟨od, e2, w2⟩ := rd_u64 h2
  obtain ⟨nw, e3, w3⟩ := rd_u64 h3
  obtain ⟨rw, e4⟩ := rd_bool h4
  obtain ⟨ft, e5⟩ := rd_bool h5
  cases e0; cases e1; cases e2; cases e3; cases e4; cases e5
  exact ⟨⟨nm, tx, od, nw, rw, ft⟩, rfl, ⟨w0, w2, w3⟩⟩
theorem rd_calls (h : Rdc enc Tryd.prog w 35 cs) : ∃ (l : List Cl) (a : Option Addr) (c : Nat), cs = [.slice a (enC l).length c] ∧ (∀ x ∈ l, ClOk x) ∧ l.length ≤ maxLen ∧ ∀ e, Hw w (Sh e 6 (enC l) a c) := by
  obtain ⟨a, c, ls, h1, h2, h3, h4⟩ := Rdc.slice (e := 40) (size := 6) h (by kernel_rfl) (by kernel_rfl) (by decide) (fun x hx => by
    obtain ⟨n, hn, _⟩ := rd_call hx
    subst hn; exact ⟨rfl, fun u hu => by simp [clC] at hu; rcases hu with rfl | rfl | rfl | rfl | rfl | rfl <;> rfl⟩)
  obtain ⟨m, rfl, hm⟩ := map_of clC ClOk ls (fun x hx => by
    obtain ⟨n, hn, hb⟩ := rd_call (h3 x hx)
    exact ⟨n, hn, hb⟩)
  refine ⟨m, a, c, ?_, hm, by simpa using h2, h4⟩
  rw [h1, enC_len, List.length_map]
end
end Go.Proofs.YtenkmjbghbegfaaDoor
