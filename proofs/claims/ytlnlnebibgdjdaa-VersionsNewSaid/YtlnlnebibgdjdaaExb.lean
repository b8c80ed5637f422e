/-
  The engine: a bundle of things whose addresses nobody needs to know. No program.
  Conditions: none.
-/
import Derived.Test.YtlnlnebibgdjdaaEgb
namespace Go.V
open Go Go.RowKit

/-- the things of f x, for some x -/
def ExB {α : Type} (f : α → List HP) : HP := ⟨fun o r => ∃ x, All (f x) o r, fun _ _ _ _ ho hr ⟨x, h⟩ => ⟨x, All.mono (f x) ho hr h⟩⟩
section
variable {α : Type} {g w : World} {L : List HP}
theorem St.exOpen {f : α → List HP} (h : St g (ExB f :: L) w) : ∃ x, St g (f x ++ L) w := by
  obtain ⟨o, r, a, b, c, d, o1, o2, h1, h2, hd, ⟨x, hh⟩, hL⟩ := h.own
  exact ⟨x, h.os, h.tape, h.output, h.size, o, r, a, b, c, d, All.cat (f x) L h1 h2 hd hh hL⟩
theorem St.exClose {f : α → List HP} (x : α) (h : St g (f x ++ L) w) : St g (ExB f :: L) w := by
  obtain ⟨o, r, a, b, c, d, e⟩ := h.own
  obtain ⟨o1, o2, h1, h2, hd, hM, hL⟩ := All.app (f x) L e
  exact ⟨h.os, h.tape, h.output, h.size, o, r, a, b, c, d, o1, o2, h1, h2, hd, ⟨x, hM⟩, hL⟩
end
/-! ### lists of 32-bit numbers, of truth values -/
def u32s (l : List Int) : List (List Value) := l.map fun x => [.int .u32 x]
@[simp] theorem u32s_len (l : List Int) : (u32s l).length = l.length := by simp [u32s]
theorem u32s_at {l : List Int} {k : Nat} {x : Int} (h : l[k]? = some x) : (u32s l)[k]? = some [.int .u32 x] := by simp [u32s, h]
theorem u32s_app (l m : List Int) : u32s (l ++ m) = u32s l ++ u32s m := by simp [u32s]
theorem u32s_take (l : List Int) (k : Nat) : (u32s l).take k = u32s (l.take k) := by simp [u32s]
theorem u32s_drop (l : List Int) (k : Nat) : (u32s l).drop k = u32s (l.drop k) := by simp [u32s]
theorem u32s_nil : u32s [] = [] := rfl
theorem u32s_snoc (l : List Int) (x : Int) : u32s l ++ [[.int .u32 x]] = u32s (l ++ [x]) := by simp [u32s]
theorem u32s_set (l : List Int) (k : Nat) (x : Int) : (u32s l).set k [.int .u32 x] = u32s (l.set k x) := by simp [u32s, List.map_set]
theorem u32s_rep (n : Nat) : List.replicate n [.int .u32 0] = u32s (List.replicate n 0) := by simp [u32s]
theorem u32s_ok (l : List Int) : OkE 1 (u32s l) := fun x hx => by
  obtain ⟨y, _, rfl⟩ := List.mem_map.1 hx
  exact ⟨rfl, fun u hu => by simp at hu; rcases hu with rfl <;> rfl⟩
def bos (l : List Bool) : List (List Value) := l.map fun x => [.bool x]
@[simp] theorem bos_len (l : List Bool) : (bos l).length = l.length := by simp [bos]
theorem bos_at {l : List Bool} {k : Nat} {x : Bool} (h : l[k]? = some x) : (bos l)[k]? = some [.bool x] := by simp [bos, h]
theorem bos_snoc (l : List Bool) (x : Bool) : bos l ++ [[.bool x]] = bos (l ++ [x]) := by simp [bos]
theorem bos_app (l m : List Bool) : bos (l ++ m) = bos l ++ bos m := by simp [bos]
theorem bos_set (l : List Bool) (k : Nat) (x : Bool) : (bos l).set k [.bool x] = bos (l.set k x) := by simp [bos, List.map_set]
theorem bos_ok (l : List Bool) : OkE 1 (bos l) := fun x hx => by
  obtain ⟨y, _, rfl⟩ := List.mem_map.1 hx
  exact ⟨rfl, fun u hu => by simp at hu; subst hu; rfl⟩
theorem bos_nil : bos [] = [] := rfl
theorem bos_rep (n : Nat) : List.replicate n [.bool false] = bos (List.replicate n false) := by simp [bos]
theorem i64s_rep (n : Nat) : List.replicate n [.int .i64 0] = i64s (List.replicate n 0) := by simp [i64s]
/-! ### nodes -/
structure Nd where
  key : Int
  val : Int
  lf : Int
  rg : Int
  size : Int
  sum : Int
  mn : Int
  mx : Int
def Nd.zero : Nd := ⟨0, 0, 0, 0, 0, 0, 0, 0⟩
def ndC (n : Nd) : List Value := [.int .i64 n.key, .int .i64 n.val, .int .u32 n.lf, .int .u32 n.rg, .int .i64 n.size, .int .i64 n.sum, .int .i64 n.mn, .int .i64 n.mx]
def nds (l : List Nd) : List (List Value) := l.map ndC
@[simp] theorem nds_len (l : List Nd) : (nds l).length = l.length := by simp [nds]
theorem nds_at {l : List Nd} {k : Nat} {n : Nd} (h : l[k]? = some n) : (nds l)[k]? = some [.int .i64 n.key, .int .i64 n.val, .int .u32 n.lf, .int .u32 n.rg, .int .i64 n.size, .int .i64 n.sum, .int .i64 n.mn, .int .i64 n.mx] := by simp [nds, h, ndC]
theorem nds_set (l : List Nd) (k : Nat) (n : Nd) : (nds l).set k [.int .i64 n.key, .int .i64 n.val, .int .u32 n.lf, .int .u32 n.rg, .int .i64 n.size, .int .i64 n.sum, .int .i64 n.mn, .int .i64 n.mx] = nds (l.set k n) := by simp [nds, ndC, List.map_set]
theorem nds_ok (l : List Nd) : OkE 8 (nds l) := fun x hx => by
  obtain ⟨y, _, rfl⟩ := List.mem_map.1 hx
  exact ⟨rfl, fun u hu => by simp [ndC] at hu; rcases hu with rfl | rfl | rfl | rfl | rfl | rfl | rfl | rfl <;> rfl⟩
theorem nds_rep (n : Nat) : List.replicate n [.int .i64 0, .int .i64 0, .int .u32 0, .int .u32 0, .int .i64 0, .int .i64 0, .int .i64 0, .int .i64 0] = nds (List.replicate n Nd.zero) := by simp [nds, ndC, Nd.zero]
end Go.V
