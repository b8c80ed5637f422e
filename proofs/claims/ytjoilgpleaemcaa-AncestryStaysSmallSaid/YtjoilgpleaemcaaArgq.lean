/-
  The laws' arguments: calls, as they lie in memory.
  Conditions: none; every fact is proved from the library's own definitions.
-/
import Derived.Test.YtjoilgpleaemcaaArgp
import Derived.Test.YtjoilgpleaemcaaGk
namespace Go.Proofs.Ytjoilgpleaemcaa
open Go Go.V Go.RowKit
set_option maxRecDepth 100000
theorem rdf_38 {H : Type} {enc : TypeId × Value → H} {w : World} {cs : List Value} (h : Rdc enc Try.prog w 38 cs) : ∃ c0 c1 c2 : Value, cs = [c0, c1, c2] ∧ Rdc enc Try.prog w 4 [c0] ∧ Rdc enc Try.prog w 3 [c1] ∧ Rdc enc Try.prog w 28 [c2] := by
  obtain ⟨hl, hf⟩ := Rdc.struct h Try.underlying38
  rw [show Try.prog.cellsOf 38 = 3 by kernel_rfl] at hl
  match cs, hl with
  | [c0, c1, c2], _ =>
    have f0 : Rdc enc Try.prog w 4 (([c0, c1, c2].drop 0).take (Try.prog.cellsOf 4)) := hf 0 _ rfl
    rw [show Try.prog.cellsOf 4 = 1 by kernel_rfl] at f0
    have f1 : Rdc enc Try.prog w 3 (([c0, c1, c2].drop 1).take (Try.prog.cellsOf 3)) := hf 1 _ rfl
    rw [show Try.prog.cellsOf 3 = 1 by kernel_rfl] at f1
    have f2 : Rdc enc Try.prog w 28 (([c0, c1, c2].drop 2).take (Try.prog.cellsOf 28)) := hf 2 _ rfl
    rw [show Try.prog.cellsOf 28 = 1 by kernel_rfl] at f2
    exact ⟨c0, c1, c2, rfl, f0, f1, f2⟩
section
variable {H : Type} {enc : TypeId × Value → H} {w : World} {cs : List Value}
theorem rd_call (h : Rdc enc Try.prog w 38 cs) : ∃ z : Cg, cs = cgC z ∧ (CgOk z ∧ z.ps.length ≤ maxLen) ∧ ∀ A ∈ cgF z, Hw w A := by
  obtain ⟨c0, c1, c2, rfl, h0, h1, h2⟩ := rdf_38 h
  obtain ⟨rl, e0⟩ := rd_bool h0
  obtain ⟨vr, e1, w1⟩ := rd_int h1
  obtain ⟨l, a, c, e2, w2, m2, s2⟩ := rd_nums h2
  cases e0; cases e1; cases e2
  refine ⟨⟨rl, vr, l, a, c⟩, rfl, ⟨⟨w1, w2⟩, m2⟩, fun A hA => ?_⟩
  simp only [cgF, List.mem_singleton] at hA
  subst hA; exact s2 _
theorem rd_calls (h : Rdc enc Try.prog w 33 cs) : ∃ (l : List Cg) (a : Option Addr) (c : Nat), cs = [.slice a (enG l).length c] ∧ (∀ z ∈ l, CgOk z ∧ z.ps.length ≤ maxLen) ∧ l.length ≤ maxLen ∧ (∀ e, Hw w (Sh e 3 (enG l) a c)) ∧ Hw w (Shs cgF l) := by
  obtain ⟨a, c, ls, h1, h2, h3, h4⟩ := Rdc.slice (e := 38) (size := 3) h (by kernel_rfl) (by kernel_rfl) (by decide) (fun x hx => by
    obtain ⟨n, hn, _⟩ := rd_call hx
    subst hn; exact enG_ok [n] _ (List.mem_singleton.2 rfl))
  obtain ⟨m, rfl, hm⟩ := map_of cgC (fun z => (CgOk z ∧ z.ps.length ≤ maxLen) ∧ ∀ A ∈ cgF z, Hw w A) ls (fun x hx => by
    obtain ⟨n, hn, hb⟩ := rd_call (h3 x hx)
    exact ⟨n, hn, hb⟩)
  refine ⟨m, a, c, ?_, fun z hz => (hm z hz).1, by simpa using h2, h4, fun r hr z hz => ?_⟩
  · rw [h1, enG_len, List.length_map]
  have h5 := (hm z hz).2
  have : ∀ M : List HP, (∀ A ∈ M, Hw w A) → All M (fun _ => none) r := by
    intro M
    induction M with
    | nil => exact fun _ => trivial
    | cons A M ih => exact fun hM => ⟨fun _ => none, fun _ => none, Sub.refl _, Sub.refl _, Dj.none _, hM A (List.mem_cons_self ..) r hr, ih fun B hB => hM B (List.mem_cons_of_mem _ hB)⟩
  exact this _ h5
end
end Go.Proofs.Ytjoilgpleaemcaa
