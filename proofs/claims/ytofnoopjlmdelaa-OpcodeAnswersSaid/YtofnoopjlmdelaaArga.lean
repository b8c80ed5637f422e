/-
  The laws' arguments: answers, as they lie in memory.
  Conditions: none; every fact is proved from the library's own definitions.
-/
import Derived.Test.YtofnoopjlmdelaaArg
import Derived.Test.YtofnoopjlmdelaaAnm
namespace Go.Proofs.Ytofnoopjlmdelaa
open Go Go.V Go.RowKit
set_option maxRecDepth 100000
theorem rdf_42 {H : Type} {enc : TypeId × Value → H} {w : World} {cs : List Value} (h : Rdc enc Try.prog w 42 cs) : ∃ c0 c1 c2 c3 : Value, cs = [c0, c1, c2, c3] ∧ Rdc enc Try.prog w 3 [c0] ∧ Rdc enc Try.prog w 2 [c1] ∧ Rdc enc Try.prog w 2 [c2] ∧ Rdc enc Try.prog w 2 [c3] := by
  obtain ⟨hl, hf⟩ := Rdc.struct h Try.underlying42
  rw [show Try.prog.cellsOf 42 = 4 by kernel_rfl] at hl
  match cs, hl with
  | [c0, c1, c2, c3], _ =>
    have f0 : Rdc enc Try.prog w 3 (([c0, c1, c2, c3].drop 0).take (Try.prog.cellsOf 3)) := hf 0 _ rfl
    rw [show Try.prog.cellsOf 3 = 1 by kernel_rfl] at f0
    have f1 : Rdc enc Try.prog w 2 (([c0, c1, c2, c3].drop 1).take (Try.prog.cellsOf 2)) := hf 1 _ rfl
    rw [show Try.prog.cellsOf 2 = 1 by kernel_rfl] at f1
    have f2 : Rdc enc Try.prog w 2 (([c0, c1, c2, c3].drop 2).take (Try.prog.cellsOf 2)) := hf 2 _ rfl
    rw [show Try.prog.cellsOf 2 = 1 by kernel_rfl] at f2
    have f3 : Rdc enc Try.prog w 2 (([c0, c1, c2, c3].drop 3).take (Try.prog.cellsOf 2)) := hf 3 _ rfl
    rw [show Try.prog.cellsOf 2 = 1 by kernel_rfl] at f3
    exact ⟨c0, c1, c2, c3, rfl, f0, f1, f2, f3⟩
theorem rdf_45 {H : Type} {enc : TypeId × Value → H} {w : World} {cs : List Value} (h : Rdc enc Try.prog w 45 cs) : ∃ c0 c1 c2 c3 c4 c5 c6 c7 c8 c9 c10 c11 c12 c13 c14 : Value, cs = [c0, c1, c2, c3, c4, c5, c6, c7, c8, c9, c10, c11, c12, c13, c14] ∧ Rdc enc Try.prog w 32 [c0] ∧ Rdc enc Try.prog w 22 [c1] ∧ Rdc enc Try.prog w 2 [c2] ∧ Rdc enc Try.prog w 4 [c3] ∧ Rdc enc Try.prog w 3 [c4] ∧ Rdc enc Try.prog w 40 [c5, c6] ∧ Rdc enc Try.prog w 42 [c7, c8, c9, c10] ∧ Rdc enc Try.prog w 24 [c11] ∧ Rdc enc Try.prog w 25 [c12] ∧ Rdc enc Try.prog w 43 [c13] ∧ Rdc enc Try.prog w 23 [c14] := by
  obtain ⟨hl, hf⟩ := Rdc.struct h Try.underlying45
  rw [show Try.prog.cellsOf 45 = 15 by kernel_rfl] at hl
  match cs, hl with
  | [c0, c1, c2, c3, c4, c5, c6, c7, c8, c9, c10, c11, c12, c13, c14], _ =>
    have f0 : Rdc enc Try.prog w 32 (([c0, c1, c2, c3, c4, c5, c6, c7, c8, c9, c10, c11, c12, c13, c14].drop 0).take (Try.prog.cellsOf 32)) := hf 0 _ rfl
    rw [show Try.prog.cellsOf 32 = 1 by kernel_rfl] at f0
    have f1 : Rdc enc Try.prog w 22 (([c0, c1, c2, c3, c4, c5, c6, c7, c8, c9, c10, c11, c12, c13, c14].drop 1).take (Try.prog.cellsOf 22)) := hf 1 _ rfl
    rw [show Try.prog.cellsOf 22 = 1 by kernel_rfl] at f1
    have f2 : Rdc enc Try.prog w 2 (([c0, c1, c2, c3, c4, c5, c6, c7, c8, c9, c10, c11, c12, c13, c14].drop 2).take (Try.prog.cellsOf 2)) := hf 2 _ rfl
    rw [show Try.prog.cellsOf 2 = 1 by kernel_rfl] at f2
    have f3 : Rdc enc Try.prog w 4 (([c0, c1, c2, c3, c4, c5, c6, c7, c8, c9, c10, c11, c12, c13, c14].drop 3).take (Try.prog.cellsOf 4)) := hf 3 _ rfl
    rw [show Try.prog.cellsOf 4 = 1 by kernel_rfl] at f3
    have f4 : Rdc enc Try.prog w 3 (([c0, c1, c2, c3, c4, c5, c6, c7, c8, c9, c10, c11, c12, c13, c14].drop 4).take (Try.prog.cellsOf 3)) := hf 4 _ rfl
    rw [show Try.prog.cellsOf 3 = 1 by kernel_rfl] at f4
    have f5 : Rdc enc Try.prog w 40 (([c0, c1, c2, c3, c4, c5, c6, c7, c8, c9, c10, c11, c12, c13, c14].drop 5).take (Try.prog.cellsOf 40)) := hf 5 _ rfl
    rw [show Try.prog.cellsOf 40 = 2 by kernel_rfl] at f5
    have f6 : Rdc enc Try.prog w 42 (([c0, c1, c2, c3, c4, c5, c6, c7, c8, c9, c10, c11, c12, c13, c14].drop 7).take (Try.prog.cellsOf 42)) := hf 6 _ rfl
    rw [show Try.prog.cellsOf 42 = 4 by kernel_rfl] at f6
    have f7 : Rdc enc Try.prog w 24 (([c0, c1, c2, c3, c4, c5, c6, c7, c8, c9, c10, c11, c12, c13, c14].drop 11).take (Try.prog.cellsOf 24)) := hf 7 _ rfl
    rw [show Try.prog.cellsOf 24 = 1 by kernel_rfl] at f7
    have f8 : Rdc enc Try.prog w 25 (([c0, c1, c2, c3, c4, c5, c6, c7, c8, c9, c10, c11, c12, c13, c14].drop 12).take (Try.prog.cellsOf 25)) := hf 8 _ rfl
    rw [show Try.prog.cellsOf 25 = 1 by kernel_rfl] at f8
    have f9 : Rdc enc Try.prog w 43 (([c0, c1, c2, c3, c4, c5, c6, c7, c8, c9, c10, c11, c12, c13, c14].drop 13).take (Try.prog.cellsOf 43)) := hf 9 _ rfl
    rw [show Try.prog.cellsOf 43 = 1 by kernel_rfl] at f9
    have f10 : Rdc enc Try.prog w 23 (([c0, c1, c2, c3, c4, c5, c6, c7, c8, c9, c10, c11, c12, c13, c14].drop 14).take (Try.prog.cellsOf 23)) := hf 10 _ rfl
    rw [show Try.prog.cellsOf 23 = 1 by kernel_rfl] at f10
    exact ⟨c0, c1, c2, c3, c4, c5, c6, c7, c8, c9, c10, c11, c12, c13, c14, rfl, f0, f1, f2, f3, f4, f5, f6, f7, f8, f9, f10⟩
/-- an answer with its lists' places -/
structure AnZ where
  m : AnM
  ab : Option Addr
  ae : Option Addr
  ac : Option Addr
  ak : Option Addr
  cb : Nat
  ce : Nat
  cc : Nat
  ck : Nat
def anC (z : AnZ) : List Value := [.int .i64 z.m.err, .int .u64 z.m.handle, .int .i64 z.m.value, .bool z.m.found, .int .i64 z.m.n, .int .i64 z.m.ekey, .int .i64 z.m.eval, .int .i64 z.m.count, .int .i64 z.m.sum, .int .i64 z.m.mn, .int .i64 z.m.mx, .slice z.ae (en2 z.m.ents).length z.ce, .slice z.ac (ch4 z.m.chs).length z.cc, .slice z.ak (i64s z.m.keys).length z.ck, .slice z.ab (by8 z.m.bytes).length z.cb]
def anF (z : AnZ) : List HP := [Sh 5 1 (by8 z.m.bytes) z.ab z.cb, Sh 40 2 (en2 z.m.ents) z.ae z.ce, Sh 63 4 (ch4 z.m.chs) z.ac z.cc, Sh 2 1 (i64s z.m.keys) z.ak z.ck]
section
variable {H : Type} {enc : TypeId × Value → H} {w : World} {cs : List Value}
theorem rd_eno (h : Rdc enc Try.prog w 32 cs) : ∃ n, cs = [.int .i64 n] ∧ I64 n := by
  obtain ⟨n, h1, h2, h3⟩ := h.int (k := .i64) (by kernel_rfl)
  exact ⟨n, h1, h2, h3⟩
theorem rd_ints (h : Rdc enc Try.prog w 43 cs) : ∃ (l : List Int) (a : Option Addr) (c : Nat), cs = [.slice a (i64s l).length c] ∧ I64s l ∧ l.length ≤ maxLen ∧ ∀ e, Hw w (Sh e 1 (i64s l) a c) := by
  obtain ⟨a, c, ls, h1, h2, h3, h4⟩ := Rdc.slice (e := 2) (size := 1) h (by kernel_rfl) (by kernel_rfl) (by decide) (fun x hx => by
    obtain ⟨n, hn, _⟩ := rd_i64 hx
    exact one1 hn rfl)
  obtain ⟨m, rfl, hm⟩ := map_of (fun x : Int => [Value.int .i64 x]) (fun x => I64 x) ls (fun x hx => by
    obtain ⟨n, hn, hb⟩ := rd_i64 (h3 x hx)
    exact ⟨n, hn, hb⟩)
  exact ⟨m, a, c, h1, hm, by simpa using h2, h4⟩
theorem rd_ans (h : Rdc enc Try.prog w 45 cs) : ∃ z : AnZ, cs = anC z ∧ AnT z.m ∧ ∀ A ∈ anF z, Hw w A := by
  obtain ⟨c0, c1, c2, c3, c4, c5, c6, c7, c8, c9, c10, c11, c12, c13, c14, rfl, h0, h1, h2, h3, h4, h5, h6, h7, h8, h9, h10⟩ := rdf_45 h
  obtain ⟨err, e0, w0⟩ := rd_eno h0
  obtain ⟨hd, e1, w1⟩ := rd_u64 h1
  obtain ⟨val, e2, w2⟩ := rd_i64 h2
  obtain ⟨fd, e3⟩ := rd_bool h3
  obtain ⟨n, e4, w4⟩ := rd_int h4
  obtain ⟨en, e5, w5, w5'⟩ := rd_ent h5
  obtain ⟨s0, s1, s2, s3, es, g0, g1, g2, g3⟩ := rdf_42 h6
  obtain ⟨cnt, i0, u0⟩ := rd_int g0
  obtain ⟨sm, i1, u1⟩ := rd_i64 g1
  obtain ⟨mn, i2, u2⟩ := rd_i64 g2
  obtain ⟨mx, i3, u3⟩ := rd_i64 g3
  obtain ⟨le, ae, ce, e7, w7, _, s7⟩ := rd_ents h7
  obtain ⟨lc, ac, cc, e8, w8, _, s8⟩ := rd_chs h8
  obtain ⟨lk, ak, ck, e9, w9, _, s9⟩ := rd_ints h9
  obtain ⟨l, ab, cb, e10, w10, _, s10⟩ := rd_bytes h10
  cases e0; cases e1; cases e2; cases e3; cases e4; cases e5; cases es; cases i0; cases i1; cases i2; cases i3; cases e7; cases e8; cases e9; cases e10
  refine ⟨⟨⟨err, hd, val, fd, n, en.1, en.2, cnt, sm, mn, mx, le, lc, lk, l⟩, ab, ae, ac, ak, cb, ce, cc, ck⟩, rfl, ⟨w0, w1, w2, w4, w5, w5', u0, u1, u2, u3, w7, w8, w9, w10⟩, fun A hA => ?_⟩
  simp only [anF, List.mem_cons, List.not_mem_nil, or_false] at hA
  rcases hA with rfl | rfl | rfl | rfl
  · exact s10 _
  · exact s7 _
  · exact s8 _
  · exact s9 _
end
end Go.Proofs.Ytofnoopjlmdelaa
