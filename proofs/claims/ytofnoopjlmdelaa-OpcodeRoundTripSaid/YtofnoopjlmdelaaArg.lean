/-
  The laws' arguments: bytes, entries, changes, operations, lists of operations, as they lie in memory.
  Conditions: none; every fact is proved from the library's own definitions.
-/
import Derived.Test.YtofnoopjlmdelaaRow
import Derived.Test.YtofnoopjlmdelaaVdm
import Derived.Test.YtofnoopjlmdelaaTypes
namespace Go.Proofs.Ytofnoopjlmdelaa
open Go Go.V Go.RowKit
set_option maxRecDepth 100000
theorem rdf_40 {H : Type} {enc : TypeId × Value → H} {w : World} {cs : List Value} (h : Rdc enc Try.prog w 40 cs) : ∃ c0 c1 : Value, cs = [c0, c1] ∧ Rdc enc Try.prog w 2 [c0] ∧ Rdc enc Try.prog w 2 [c1] := by
  obtain ⟨hl, hf⟩ := Rdc.struct h Try.underlying40
  rw [show Try.prog.cellsOf 40 = 2 by kernel_rfl] at hl
  match cs, hl with
  | [c0, c1], _ =>
    have f0 : Rdc enc Try.prog w 2 (([c0, c1].drop 0).take (Try.prog.cellsOf 2)) := hf 0 _ rfl
    rw [show Try.prog.cellsOf 2 = 1 by kernel_rfl] at f0
    have f1 : Rdc enc Try.prog w 2 (([c0, c1].drop 1).take (Try.prog.cellsOf 2)) := hf 1 _ rfl
    rw [show Try.prog.cellsOf 2 = 1 by kernel_rfl] at f1
    exact ⟨c0, c1, rfl, f0, f1⟩
theorem rdf_63 {H : Type} {enc : TypeId × Value → H} {w : World} {cs : List Value} (h : Rdc enc Try.prog w 63 cs) : ∃ c0 c1 c2 c3 : Value, cs = [c0, c1, c2, c3] ∧ Rdc enc Try.prog w 3 [c0] ∧ Rdc enc Try.prog w 2 [c1] ∧ Rdc enc Try.prog w 2 [c2] ∧ Rdc enc Try.prog w 2 [c3] := by
  obtain ⟨hl, hf⟩ := Rdc.struct h Try.underlying63
  rw [show Try.prog.cellsOf 63 = 4 by kernel_rfl] at hl
  match cs, hl with
  | [c0, c1, c2, c3], _ =>
    have f0 : Rdc enc Try.prog w 3 (([c0, c1, c2, c3].drop 0).take (Try.prog.cellsOf 3)) := hf 0 _ rfl
    rw [show Try.prog.cellsOf 3 = 1 by kernel_rfl] at f0
    have f1 : Rdc enc Try.prog w 2 (([c0, c1, c2, c3].drop 1).take (Try.prog.cellsOf 2)) := hf 1 _ rfl
    rw [show Try.prog.cellsOf 2 = 1 by kernel_rfl] at f1
    have f2 : Rdc enc Try.prog w 2 (([c0, c1, c2, c3].drop 2).take (Try.prog.cellsOf 2)) := hf 2 _ rfl
    rw [show Try.prog.cellsOf 2 = 1 by kernel_rfl] at f2
    have f3 : Rdc enc Try.prog w 2 (([c0, c1, c2, c3].drop 3).take (Try.prog.cellsOf 2)) := hf 3 _ rfl
    rw [show Try.prog.cellsOf 2 = 1 by kernel_rfl] at f3
    exact ⟨c0, c1, c2, c3, rfl, f0, f1, f2, f3⟩
theorem rdf_27 {H : Type} {enc : TypeId × Value → H} {w : World} {cs : List Value} (h : Rdc enc Try.prog w 27 cs) : ∃ c0 c1 c2 c3 c4 c5 c6 c7 c8 c9 c10 c11 c12 : Value, cs = [c0, c1, c2, c3, c4, c5, c6, c7, c8, c9, c10, c11, c12] ∧ Rdc enc Try.prog w 3 [c0] ∧ Rdc enc Try.prog w 22 [c1] ∧ Rdc enc Try.prog w 22 [c2] ∧ Rdc enc Try.prog w 2 [c3] ∧ Rdc enc Try.prog w 2 [c4] ∧ Rdc enc Try.prog w 2 [c5] ∧ Rdc enc Try.prog w 2 [c6] ∧ Rdc enc Try.prog w 3 [c7] ∧ Rdc enc Try.prog w 4 [c8] ∧ Rdc enc Try.prog w 9 [c9] ∧ Rdc enc Try.prog w 23 [c10] ∧ Rdc enc Try.prog w 24 [c11] ∧ Rdc enc Try.prog w 25 [c12] := by
  obtain ⟨hl, hf⟩ := Rdc.struct h Try.underlying27
  rw [show Try.prog.cellsOf 27 = 13 by kernel_rfl] at hl
  match cs, hl with
  | [c0, c1, c2, c3, c4, c5, c6, c7, c8, c9, c10, c11, c12], _ =>
    have f0 : Rdc enc Try.prog w 3 (([c0, c1, c2, c3, c4, c5, c6, c7, c8, c9, c10, c11, c12].drop 0).take (Try.prog.cellsOf 3)) := hf 0 _ rfl
    rw [show Try.prog.cellsOf 3 = 1 by kernel_rfl] at f0
    have f1 : Rdc enc Try.prog w 22 (([c0, c1, c2, c3, c4, c5, c6, c7, c8, c9, c10, c11, c12].drop 1).take (Try.prog.cellsOf 22)) := hf 1 _ rfl
    rw [show Try.prog.cellsOf 22 = 1 by kernel_rfl] at f1
    have f2 : Rdc enc Try.prog w 22 (([c0, c1, c2, c3, c4, c5, c6, c7, c8, c9, c10, c11, c12].drop 2).take (Try.prog.cellsOf 22)) := hf 2 _ rfl
    rw [show Try.prog.cellsOf 22 = 1 by kernel_rfl] at f2
    have f3 : Rdc enc Try.prog w 2 (([c0, c1, c2, c3, c4, c5, c6, c7, c8, c9, c10, c11, c12].drop 3).take (Try.prog.cellsOf 2)) := hf 3 _ rfl
    rw [show Try.prog.cellsOf 2 = 1 by kernel_rfl] at f3
    have f4 : Rdc enc Try.prog w 2 (([c0, c1, c2, c3, c4, c5, c6, c7, c8, c9, c10, c11, c12].drop 4).take (Try.prog.cellsOf 2)) := hf 4 _ rfl
    rw [show Try.prog.cellsOf 2 = 1 by kernel_rfl] at f4
    have f5 : Rdc enc Try.prog w 2 (([c0, c1, c2, c3, c4, c5, c6, c7, c8, c9, c10, c11, c12].drop 5).take (Try.prog.cellsOf 2)) := hf 5 _ rfl
    rw [show Try.prog.cellsOf 2 = 1 by kernel_rfl] at f5
    have f6 : Rdc enc Try.prog w 2 (([c0, c1, c2, c3, c4, c5, c6, c7, c8, c9, c10, c11, c12].drop 6).take (Try.prog.cellsOf 2)) := hf 6 _ rfl
    rw [show Try.prog.cellsOf 2 = 1 by kernel_rfl] at f6
    have f7 : Rdc enc Try.prog w 3 (([c0, c1, c2, c3, c4, c5, c6, c7, c8, c9, c10, c11, c12].drop 7).take (Try.prog.cellsOf 3)) := hf 7 _ rfl
    rw [show Try.prog.cellsOf 3 = 1 by kernel_rfl] at f7
    have f8 : Rdc enc Try.prog w 4 (([c0, c1, c2, c3, c4, c5, c6, c7, c8, c9, c10, c11, c12].drop 8).take (Try.prog.cellsOf 4)) := hf 8 _ rfl
    rw [show Try.prog.cellsOf 4 = 1 by kernel_rfl] at f8
    have f9 : Rdc enc Try.prog w 9 (([c0, c1, c2, c3, c4, c5, c6, c7, c8, c9, c10, c11, c12].drop 9).take (Try.prog.cellsOf 9)) := hf 9 _ rfl
    rw [show Try.prog.cellsOf 9 = 1 by kernel_rfl] at f9
    have f10 : Rdc enc Try.prog w 23 (([c0, c1, c2, c3, c4, c5, c6, c7, c8, c9, c10, c11, c12].drop 10).take (Try.prog.cellsOf 23)) := hf 10 _ rfl
    rw [show Try.prog.cellsOf 23 = 1 by kernel_rfl] at f10
    have f11 : Rdc enc Try.prog w 24 (([c0, c1, c2, c3, c4, c5, c6, c7, c8, c9, c10, c11, c12].drop 11).take (Try.prog.cellsOf 24)) := hf 11 _ rfl
    rw [show Try.prog.cellsOf 24 = 1 by kernel_rfl] at f11
    have f12 : Rdc enc Try.prog w 25 (([c0, c1, c2, c3, c4, c5, c6, c7, c8, c9, c10, c11, c12].drop 12).take (Try.prog.cellsOf 25)) := hf 12 _ rfl
    rw [show Try.prog.cellsOf 25 = 1 by kernel_rfl] at f12
    exact ⟨c0, c1, c2, c3, c4, c5, c6, c7, c8, c9, c10, c11, c12, rfl, f0, f1, f2, f3, f4, f5, f6, f7, f8, f9, f10, f11, f12⟩
section
variable {H : Type} {enc : TypeId × Value → H} {w : World} {cs : List Value}
theorem rd_i64 (h : Rdc enc Try.prog w 2 cs) : ∃ n, cs = [.int .i64 n] ∧ I64 n := by
  obtain ⟨n, h1, h2, h3⟩ := h.int (k := .i64) (by kernel_rfl)
  exact ⟨n, h1, h2, h3⟩
theorem rd_int (h : Rdc enc Try.prog w 3 cs) : ∃ n, cs = [.int .i64 n] ∧ I64 n := by
  obtain ⟨n, h1, h2, h3⟩ := h.int (k := .i64) (by kernel_rfl)
  exact ⟨n, h1, h2, h3⟩
theorem rd_u64 (h : Rdc enc Try.prog w 22 cs) : ∃ n, cs = [.int .u64 n] ∧ 0 ≤ n ∧ n ≤ 18446744073709551615 := by
  obtain ⟨n, h1, h2, h3⟩ := h.int (k := .u64) (by kernel_rfl)
  exact ⟨n, h1, h2, h3⟩
theorem rd_u8 (h : Rdc enc Try.prog w 5 cs) : ∃ n, cs = [.int .u8 n] ∧ 0 ≤ n ∧ n ≤ 255 := by
  obtain ⟨n, h1, h2, h3⟩ := h.int (k := .u8) (by kernel_rfl)
  exact ⟨n, h1, h2, h3⟩
theorem rd_bool (h : Rdc enc Try.prog w 4 cs) : ∃ b, cs = [.bool b] := h.bool (by kernel_rfl)
theorem rd_str (h : Rdc enc Try.prog w 9 cs) : ∃ s, cs = [.string s] := by
  obtain ⟨s, h1, _⟩ := h.str (by kernel_rfl)
  exact ⟨s, h1⟩
theorem rd_ent (h : Rdc enc Try.prog w 40 cs) : ∃ x : Int × Int, cs = [.int .i64 x.1, .int .i64 x.2] ∧ I64 x.1 ∧ I64 x.2 := by
  obtain ⟨c0, c1, rfl, h0, h1⟩ := rdf_40 h
  obtain ⟨a, e0, w0⟩ := rd_i64 h0
  obtain ⟨b, e1, w1⟩ := rd_i64 h1
  cases e0; cases e1
  exact ⟨(a, b), rfl, w0, w1⟩
theorem rd_chg (h : Rdc enc Try.prog w 63 cs) : ∃ x : Int × Int × Int × Int, cs = [.int .i64 x.1, .int .i64 x.2.1, .int .i64 x.2.2.1, .int .i64 x.2.2.2] ∧ I64 x.1 ∧ I64 x.2.1 ∧ I64 x.2.2.1 ∧ I64 x.2.2.2 := by
  obtain ⟨c0, c1, c2, c3, rfl, h0, h1, h2, h3⟩ := rdf_63 h
  obtain ⟨a, e0, w0⟩ := rd_int h0
  obtain ⟨b, e1, w1⟩ := rd_i64 h1
  obtain ⟨c, e2, w2⟩ := rd_i64 h2
  obtain ⟨d, e3, w3⟩ := rd_i64 h3
  cases e0; cases e1; cases e2; cases e3
  exact ⟨(a, b, c, d), rfl, w0, w1, w2, w3⟩
theorem one1 {x : List Value} {v : Value} (h : x = [v]) (h1 : v.oneCell' = true) : x.length = 1 ∧ ∀ u ∈ x, u.oneCell' = true := by
  subst h; exact ⟨rfl, fun u hu => by simp at hu; subst hu; exact h1⟩
theorem rd_bytes (h : Rdc enc Try.prog w 23 cs) : ∃ (l : List Int) (a : Option Addr) (c : Nat), cs = [.slice a (by8 l).length c] ∧ B8 l ∧ l.length ≤ maxLen ∧ ∀ e, Hw w (Sh e 1 (by8 l) a c) := by
  obtain ⟨a, c, ls, h1, h2, h3, h4⟩ := Rdc.slice (e := 5) (size := 1) h (by kernel_rfl) (by kernel_rfl) (by decide) (fun x hx => by
    obtain ⟨n, hn, _⟩ := rd_u8 hx
    exact one1 hn rfl)
  obtain ⟨m, rfl, hm⟩ := map_of (fun x : Int => [Value.int .u8 x]) (fun x => 0 ≤ x ∧ x ≤ 255) ls (fun x hx => by
    obtain ⟨n, hn, hb⟩ := rd_u8 (h3 x hx)
    exact ⟨n, hn, hb⟩)
  exact ⟨m, a, c, h1, hm, by simpa using h2, h4⟩
theorem rd_ents (h : Rdc enc Try.prog w 24 cs) : ∃ (l : List (Int × Int)) (a : Option Addr) (c : Nat), cs = [.slice a (en2 l).length c] ∧ En64 l ∧ l.length ≤ maxLen ∧ ∀ e, Hw w (Sh e 2 (en2 l) a c) := by
  obtain ⟨a, c, ls, h1, h2, h3, h4⟩ := Rdc.slice (e := 40) (size := 2) h (by kernel_rfl) (by kernel_rfl) (by decide) (fun x hx => by
    obtain ⟨n, hn, _⟩ := rd_ent hx
    subst hn; exact ⟨rfl, fun u hu => by simp at hu; rcases hu with rfl | rfl <;> rfl⟩)
  obtain ⟨m, rfl, hm⟩ := map_of (fun x : Int × Int => [Value.int .i64 x.1, Value.int .i64 x.2]) (fun x => I64 x.1 ∧ I64 x.2) ls (fun x hx => by
    obtain ⟨n, hn, hb⟩ := rd_ent (h3 x hx)
    exact ⟨n, hn, hb⟩)
  exact ⟨m, a, c, h1, hm, by simpa using h2, h4⟩
theorem rd_chs (h : Rdc enc Try.prog w 25 cs) : ∃ (l : List (Int × Int × Int × Int)) (a : Option Addr) (c : Nat), cs = [.slice a (ch4 l).length c] ∧ Ch64 l ∧ l.length ≤ maxLen ∧ ∀ e, Hw w (Sh e 4 (ch4 l) a c) := by
  obtain ⟨a, c, ls, h1, h2, h3, h4⟩ := Rdc.slice (e := 63) (size := 4) h (by kernel_rfl) (by kernel_rfl) (by decide) (fun x hx => by
    obtain ⟨n, hn, _⟩ := rd_chg hx
    subst hn; exact ⟨rfl, fun u hu => by simp at hu; rcases hu with rfl | rfl | rfl | rfl <;> rfl⟩)
  obtain ⟨m, rfl, hm⟩ := map_of (fun x : Int × Int × Int × Int => [Value.int .i64 x.1, Value.int .i64 x.2.1, Value.int .i64 x.2.2.1, Value.int .i64 x.2.2.2]) (fun x => I64 x.1 ∧ I64 x.2.1 ∧ I64 x.2.2.1 ∧ I64 x.2.2.2) ls (fun x hx => by
    obtain ⟨n, hn, hb⟩ := rd_chg (h3 x hx)
    exact ⟨n, hn, hb⟩)
  exact ⟨m, a, c, h1, hm, by simpa using h2, h4⟩
theorem rd_op (h : Rdc enc Try.prog w 27 cs) : ∃ z : OpZ, cs = opC z ∧ OpT z.m ∧ ∀ A ∈ opF z, Hw w A := by
  obtain ⟨c0, c1, c2, c3, c4, c5, c6, c7, c8, c9, c10, c11, c12, rfl, h0, h1, h2, h3, h4, h5, h6, h7, h8, h9, h10, h11, h12⟩ := rdf_27 h
  obtain ⟨code, e0, w0⟩ := rd_int h0
  obtain ⟨a, e1, w1⟩ := rd_u64 h1
  obtain ⟨b, e2, w2⟩ := rd_u64 h2
  obtain ⟨key, e3, w3⟩ := rd_i64 h3
  obtain ⟨val, e4, w4⟩ := rd_i64 h4
  obtain ⟨lo, e5, w5⟩ := rd_i64 h5
  obtain ⟨hi, e6, w6⟩ := rd_i64 h6
  obtain ⟨n, e7, w7⟩ := rd_int h7
  obtain ⟨flag, e8⟩ := rd_bool h8
  obtain ⟨name, e9⟩ := rd_str h9
  obtain ⟨l, ab, cb, e10, w10, _, s10⟩ := rd_bytes h10
  obtain ⟨le, ae, ce, e11, w11, _, s11⟩ := rd_ents h11
  obtain ⟨lc, ac, cc, e12, w12, _, s12⟩ := rd_chs h12
  cases e0; cases e1; cases e2; cases e3; cases e4; cases e5; cases e6; cases e7; cases e8; cases e9; cases e10; cases e11; cases e12
  refine ⟨⟨⟨code, a, b, key, val, lo, hi, n, flag, name, l, le, lc⟩, ab, ae, ac, cb, ce, cc⟩, rfl, ⟨⟨w1, w2, w3, w4, w5, w6, w11, w12⟩, w0, w7, w10⟩, fun A hA => ?_⟩
  simp only [opF, List.mem_cons, List.not_mem_nil, or_false] at hA
  rcases hA with rfl | rfl | rfl
  · exact s10 _
  · exact s11 _
  · exact s12 _
theorem rd_ops (h : Rdc enc Try.prog w 31 cs) : ∃ (l : List OpZ) (a : Option Addr) (c : Nat), cs = [.slice a (enOp l).length c] ∧ (∀ z ∈ l, OpT z.m) ∧ l.length ≤ maxLen ∧ (∀ e, Hw w (Sh e 13 (enOp l) a c)) ∧ Hw w (Shs opF l) := by
  obtain ⟨a, c, ls, h1, h2, h3, h4⟩ := Rdc.slice (e := 27) (size := 13) h (by kernel_rfl) (by kernel_rfl) (by decide) (fun x hx => by
    obtain ⟨n, hn, _⟩ := rd_op hx
    subst hn; exact enOp_ok [n] _ (List.mem_singleton.2 rfl))
  obtain ⟨m, rfl, hm⟩ := map_of opC (fun z => OpT z.m ∧ ∀ A ∈ opF z, Hw w A) ls (fun x hx => by
    obtain ⟨n, hn, hb⟩ := rd_op (h3 x hx)
    exact ⟨n, hn, hb⟩)
  refine ⟨m, a, c, h1, fun z hz => (hm z hz).1, by simpa using h2, h4, fun r hr z hz => ?_⟩
  have h5 := (hm z hz).2
  have : ∀ M : List HP, (∀ A ∈ M, Hw w A) → All M (fun _ => none) r := by
    intro M
    induction M with
    | nil => exact fun _ => trivial
    | cons A M ih => exact fun hM => ⟨fun _ => none, fun _ => none, Sub.refl _, Sub.refl _, Dj.none _, hM A (List.mem_cons_self ..) r hr, ih fun B hB => hM B (List.mem_cons_of_mem _ hB)⟩
  exact this _ h5
end
end Go.Proofs.Ytofnoopjlmdelaa
