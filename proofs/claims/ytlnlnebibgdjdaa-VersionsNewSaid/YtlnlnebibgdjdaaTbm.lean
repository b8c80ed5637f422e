/-
  Plain model of a table of handles.
  Conditions: none.
-/
import Derived.Test.YtlnlnebibgdjdaaSlb
import Derived.Test.YtlnlnebibgdjdaaEgb
namespace Go.V
open Go Go.RowKit

theorem or_shift' {u x : Int} {m : Nat} (hu0 : 0 ≤ u) (hu : u < 2 ^ m) (hx : 0 ≤ x) (hs : u + x * 2 ^ m < 2 ^ 64) : bts .or .u64 (x * 2 ^ m) u = x * 2 ^ m + u := by
  have h1 := or_shift hu0 hu hx hs
  have hb : (IntKind.u64).bits = 64 := rfl
  have hp : (0 : Int) ≤ x * 2 ^ m := Int.mul_nonneg hx (Int.le_of_lt (Int.pow_pos (by decide)))
  rw [or_nn hp (by rw [hb]; omega) hu0 (by rw [hb]; omega), Nat.or_comm, ← or_nn hu0 (by rw [hb]; omega) hp (by rw [hb]; omega), h1]
  omega
theorem pack_or {i n : Int} (hi : 0 ≤ i ∧ i < 4294967296) (hn : 0 ≤ n ∧ n < 4294967296) : bts .or .u64 (IntKind.u64.wrap (n * p2 .u64 32)) i = n * 4294967296 + i := by
  have e : IntKind.u64.wrap (n * p2 .u64 32) = n * 2 ^ 32 := by
    have : p2 .u64 32 = 4294967296 := rfl
    rw [this, wu64 (by omega)]; rfl
  rw [e, or_shift' hi.1 hi.2 hn.1 (by have : (2 : Int) ^ 64 = 18446744073709551616 := rfl; have : (2 : Int) ^ 32 = 4294967296 := rfl; omega)]
  have : (2 : Int) ^ 32 = 4294967296 := rfl
  omega
/-- the handle of an entry -/
def SM.hd (S : SM) (i : Int) : Int := S.genOf i * 4294967296 + i
/-- is a handle open -/
def SM.opn (S : SM) (h : Int) : Bool := S.ok (h % 4294967296) && decide (S.hd (h % 4294967296) = h)
structure TOk (T : TM) : Prop where
  s : SOk T.s
  vl : T.vals.length = T.s.used.length
  vr : ∀ x ∈ T.vals, 0 ≤ x ∧ x < 4294967296
def TM.val (T : TM) (h : Int) : Int := (T.vals[(h % 4294967296).toNat]?).getD 0
def TM.open (T : TM) (v : Int) : TM := ⟨T.s.alloc, T.vals.set T.s.next.toNat v⟩
def TM.newH (T : TM) : Int := T.s.alloc.hd T.s.next
def TM.close (T : TM) (h : Int) : TM := ⟨T.s.release (h % 4294967296), T.vals⟩
def TM.new (cap : Nat) : TM := ⟨SM.new cap, List.replicate (cap + 1) 0⟩
def TM.handles (T : TM) : List Int := ((List.range T.s.used.length).filter fun i : Nat => T.s.ok (i : Int)).map fun i : Nat => T.s.hd (i : Int)
theorem TM.new_ok {cap : Nat} (h : 1 ≤ cap ∧ cap ≤ 65536) : TOk (TM.new cap) := ⟨SM.new_ok h, by simp [TM.new, SM.new], fun x hx => by rw [List.eq_of_mem_replicate hx]; omega⟩
theorem SOk.gen_rng {S : SM} (h : SOk S) (i : Int) : 0 ≤ S.genOf i ∧ S.genOf i < 4294967296 := by
  unfold SM.genOf
  cases hx : S.gen[i.toNat]? with
  | none => simp
  | some x => exact h.gr x (List.mem_of_getElem? hx)
theorem TOk.val_rng {T : TM} (h : TOk T) (x : Int) : 0 ≤ T.val x ∧ T.val x < 4294967296 := by
  unfold TM.val
  cases hx : T.vals[(x % 4294967296).toNat]? with
  | none => simp
  | some y => exact h.vr y (List.mem_of_getElem? hx)
theorem TOk.open {T : TM} (h : TOk T) (hf : 0 < T.s.free) {v : Int} (hv : 0 ≤ v ∧ v < 4294967296) : TOk (T.open v) := by
  refine ⟨SM.alloc_sok h.s hf, ?_, fun x hx => ?_⟩
  · show (T.vals.set _ _).length = (T.s.used.set _ _).length
    rw [List.length_set, List.length_set]; exact h.vl
  · rcases List.mem_or_eq_of_mem_set (show x ∈ T.vals.set _ _ from hx) with h1 | rfl
    · exact h.vr x h1
    · exact hv
theorem SM.opn_ok {S : SM} {h : Int} (ho : S.opn h = true) : S.ok (h % 4294967296) = true ∧ S.hd (h % 4294967296) = h := by
  unfold SM.opn at ho
  simpa using ho
theorem TOk.close {T : TM} (h : TOk T) {x : Int} (ho : T.s.opn x = true) : TOk (T.close x) :=
  ⟨SM.release_sok h.s (by omega) (SM.opn_ok ho).1, by
    show T.vals.length = (T.s.used.set _ _).length
    rw [List.length_set]; exact h.vl, h.vr⟩
end Go.V
