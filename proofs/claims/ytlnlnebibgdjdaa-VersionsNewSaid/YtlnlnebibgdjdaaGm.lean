/-
  Plain model of a graph of versions, and how it lies in memory.
  Conditions: none.
-/
import Derived.Test.YtlnlnebibgdjdaaSki
import Derived.Test.YtlnlnebibgdjdaaEgb
namespace Go.V
open Go Go.RowKit Go.Maps

/-- a version: is it live, its present ancestors, where those lie -/
structure VN where
  n : Int
  live : Bool
  ab : List Int
  a : Option Addr
  c : Nat
  born : Nat
def vV (x : VN) : Value := .agg #[.bool x.live, .slice x.a (i64s x.ab).length x.c]
def vK (x : VN) : Value × Value × Nat := (.int .i64 x.n, vV x, x.born)
def vF (x : VN) : List HP := [Sh 3 1 (i64s x.ab) x.a x.c]
theorem vF_sh (x : VN) : ∀ A ∈ vF x, Sht A := fun A hA => by
  simp only [vF, List.mem_singleton] at hA; subst hA; exact Sht.sh
/-- no number stands twice -/
def VUq (xs : List VN) : Prop := xs.Pairwise fun x y => x.n ≠ y.n
theorem v_key (xs : List VN) : ∀ x ∈ xs.map vK, MapKept.IsKey (.int .i64) x.1 := fun x hx => by
  obtain ⟨y, _, rfl⟩ := List.mem_map.1 hx
  rfl
theorem v_in {xs : List VN} {k : Nat} {x : VN} (hx : xs[k]? = some x) (hu : VUq xs) : mfind (.int .i64) (.int .i64 x.n) (xs.map vK) = some (some (k, vV x)) := by
  refine mfind_some (d := .int .i64) (k := .int .i64 x.n) (b := x.born) rfl (v_key xs) (by rw [List.getElem?_map, hx]; rfl) fun j hj y hy => ?_
  rw [List.getElem?_map] at hy
  cases hz : xs[j]? with
  | none => rw [hz] at hy; cases hy
  | some u =>
    rw [hz] at hy
    simp only [Option.map_some, Option.some.injEq] at hy
    subst hy
    intro he
    have he2 : u.n = x.n := (Value.int.inj he).2
    have hl := (List.getElem?_eq_some_iff.1 hz).1
    have hl2 := (List.getElem?_eq_some_iff.1 hx).1
    refine List.pairwise_iff_getElem.1 hu j k hl hl2 hj ?_
    rw [(List.getElem?_eq_some_iff.1 hz).2, (List.getElem?_eq_some_iff.1 hx).2, he2]
theorem v_out {xs : List VN} {n : Int} (h : ∀ x ∈ xs, x.n ≠ n) : mfind (.int .i64) (.int .i64 n) (xs.map vK) = some none := by
  refine mfind_none (d := .int .i64) (k := .int .i64 n) rfl (v_key xs) fun x hx => ?_
  obtain ⟨y, hy, rfl⟩ := List.mem_map.1 hx
  intro he
  exact h y hy (Value.int.inj he).2
theorem v_cases (xs : List VN) (n : Int) : (∃ (k : Nat) (x : VN), xs[k]? = some x ∧ x.n = n) ∨ ∀ x ∈ xs, x.n ≠ n := by
  by_cases h : ∃ x ∈ xs, x.n = n
  · obtain ⟨x, hx, hn⟩ := h
    obtain ⟨k, hk⟩ := List.mem_iff_getElem?.1 hx
    exact .inl ⟨k, x, hk, hn⟩
  · exact .inr fun x hx hn => h ⟨x, hx, hn⟩
theorem VUq.one {R : List VN} (h : VUq R) {i j : Nat} {x y : VN} (hi : R[i]? = some x) (hj : R[j]? = some y) (he : x.n = y.n) : i = j := by
  have h1 := (List.getElem?_eq_some_iff.1 hi).1
  have h2 := (List.getElem?_eq_some_iff.1 hj).1
  have e1 : R[i] = x := (List.getElem?_eq_some_iff.1 hi).2
  have e2 : R[j] = y := (List.getElem?_eq_some_iff.1 hj).2
  rcases Nat.lt_trichotomy i j with hl | hl | hl
  · exact absurd (by rw [e1, e2]; exact he) (List.pairwise_iff_getElem.1 h i j h1 h2 hl)
  · exact hl
  · exact absurd (by rw [e1, e2]; exact he.symm) (List.pairwise_iff_getElem.1 h j i h2 h1 hl)
def vfind (xs : List VN) (n : Int) : Option VN := xs.find? fun x => decide (x.n = n)
def liveG (xs : List VN) (n : Int) : Bool := ((vfind xs n).map (·.live)).getD false
def preG (xs : List VN) (n : Int) : Bool := (vfind xs n).isSome
def abG (xs : List VN) (n : Int) : List Int := ((vfind xs n).map (·.ab)).getD []
theorem vfind_in {xs : List VN} {k : Nat} {x : VN} (hx : xs[k]? = some x) (hu : VUq xs) : vfind xs x.n = some x := by
  cases hf : vfind xs x.n with
  | none =>
    have := List.find?_eq_none.1 hf x (List.mem_of_getElem? hx)
    exact absurd (decide_eq_true rfl) this
  | some y =>
    have hn : y.n = x.n := of_decide_eq_true (List.find?_some (p := fun q : VN => decide (q.n = x.n)) hf)
    obtain ⟨j, hj⟩ := List.mem_iff_getElem?.1 (List.mem_of_find?_eq_some hf)
    have := hu.one hj hx hn
    subst this
    rw [hj] at hx; exact hx
theorem vfind_out {xs : List VN} {n : Int} (h : ∀ x ∈ xs, x.n ≠ n) : vfind xs n = none := by
  refine List.find?_eq_none.2 fun x hx he => h x hx (of_decide_eq_true he)
theorem vfind_some {xs : List VN} {n : Int} {x : VN} (h : vfind xs n = some x) : x ∈ xs ∧ x.n = n := ⟨List.mem_of_find?_eq_some h, of_decide_eq_true (List.find?_some (p := fun q : VN => decide (q.n = n)) h)⟩
theorem vfind_none {xs : List VN} {n : Int} : vfind xs n = none ↔ ∀ x ∈ xs, x.n ≠ n := ⟨fun h x hx e => List.find?_eq_none.1 h x hx (decide_eq_true e), vfind_out⟩
theorem vfind_mem {xs : List VN} {x : VN} (hx : x ∈ xs) (hu : VUq xs) : vfind xs x.n = some x := by
  obtain ⟨k, hk⟩ := List.mem_iff_getElem?.1 hx
  exact vfind_in hk hu
theorem g_in {xs : List VN} {n : Int} {x : VN} (h : vfind xs n = some x) : liveG xs n = x.live ∧ preG xs n = true ∧ abG xs n = x.ab := by simp [liveG, preG, abG, h]
theorem g_out {xs : List VN} {n : Int} (h : vfind xs n = none) : liveG xs n = false ∧ preG xs n = false ∧ abG xs n = [] := by simp [liveG, preG, abG, h]
theorem live_pre {xs : List VN} {n : Int} (h : liveG xs n = true) : preG xs n = true := by
  unfold liveG at h; unfold preG
  cases hf : vfind xs n with
  | none => rw [hf] at h; cases h
  | some x => rfl
theorem pre_iff {xs : List VN} {n : Int} : preG xs n = true ↔ ∃ x ∈ xs, x.n = n := by
  unfold preG
  cases hf : vfind xs n with
  | none => exact ⟨fun h => (by cases h), fun ⟨x, hx, hn⟩ => absurd hn (vfind_none.1 hf x hx)⟩
  | some x => exact ⟨fun _ => ⟨x, vfind_some hf⟩, fun _ => rfl⟩
/-! ### sets of numbers, as maps to bool -/
def bK (x : Int × Nat) : Value × Value × Nat := (.int .i64 x.1, .bool true, x.2)
def BUq (xs : List (Int × Nat)) : Prop := xs.Pairwise fun x y => x.1 ≠ y.1
theorem b_key (xs : List (Int × Nat)) : ∀ x ∈ xs.map bK, MapKept.IsKey (.int .i64) x.1 := fun x hx => by
  obtain ⟨y, _, rfl⟩ := List.mem_map.1 hx
  rfl
theorem b_out {xs : List (Int × Nat)} {n : Int} (h : ∀ x ∈ xs, x.1 ≠ n) : mfind (.int .i64) (.int .i64 n) (xs.map bK) = some none := by
  refine mfind_none (d := .int .i64) (k := .int .i64 n) rfl (b_key xs) fun x hx => ?_
  obtain ⟨y, hy, rfl⟩ := List.mem_map.1 hx
  intro he
  exact h y hy (Value.int.inj he).2
theorem b_in {xs : List (Int × Nat)} {k : Nat} {x : Int × Nat} (hx : xs[k]? = some x) (hu : BUq xs) : mfind (.int .i64) (.int .i64 x.1) (xs.map bK) = some (some (k, .bool true)) := by
  refine mfind_some (d := .int .i64) (k := .int .i64 x.1) (b := x.2) rfl (b_key xs) (by rw [List.getElem?_map, hx]; rfl) fun j hj y hy => ?_
  rw [List.getElem?_map] at hy
  cases hz : xs[j]? with
  | none => rw [hz] at hy; cases hy
  | some u =>
    rw [hz] at hy
    simp only [Option.map_some, Option.some.injEq] at hy
    subst hy
    intro he
    have he2 : u.1 = x.1 := (Value.int.inj he).2
    have hl := (List.getElem?_eq_some_iff.1 hz).1
    have hl2 := (List.getElem?_eq_some_iff.1 hx).1
    refine List.pairwise_iff_getElem.1 hu j k hl hl2 hj ?_
    rw [(List.getElem?_eq_some_iff.1 hz).2, (List.getElem?_eq_some_iff.1 hx).2, he2]
theorem b_cases (xs : List (Int × Nat)) (n : Int) : (∃ (k : Nat) (x : Int × Nat), xs[k]? = some x ∧ x.1 = n) ∨ ∀ x ∈ xs, x.1 ≠ n := by
  by_cases h : ∃ x ∈ xs, x.1 = n
  · obtain ⟨x, hx, hn⟩ := h
    obtain ⟨k, hk⟩ := List.mem_iff_getElem?.1 hx
    exact .inl ⟨k, x, hk, hn⟩
  · exact .inr fun x hx hn => h ⟨x, hx, hn⟩
/-! ### the table is one -/
structure VOk (xs : List VN) (q : Nat) : Prop where
  uniq : VUq xs
  born : ∀ x ∈ xs, x.born < q
  bnd : (xs.map (·.born)).Nodup
  rng : ∀ x ∈ xs, 1 ≤ x.n ∧ x.n ≤ 1000000000
  num : xs.length ≤ 4096
section
variable {P : Program} {k : TypeId}
def noRdI (_ : Value) : Option (DataW Unit × List MemPlace) := some (.nil, [])
theorem int_keys (xs : List VN) (q : Nat) (h : VOk xs q) (hk : P.underlying k = some (.int .i64)) {w : World} {b : Nat} (hb : w.heap[b]? = some (.map (mE (xs.map vK)) q)) :
    ∃ D : DataW Unit, w.ownsMap P k noRdI b 4096 D ∧ Maps.size D = xs.length ∧ (intKeys D).Perm (xs.map (·.n)) := by
  have hrd : ∀ x : VN, x ∈ xs → Go.WideElems.rd P k noRdI ⟨.int .i64 x.n, vV x, x.born⟩ = some (.int .i64 x.n, .nil) := fun x hx => by
    have h1 := h.rng x hx
    have h2 : (Lit.int .i64 x.n).wf = true := by
      have e1 : IntKind.i64.min = -9223372036854775808 := by decide
      have e2 : IntKind.i64.max = 9223372036854775807 := by decide
      simp only [Lit.wf, e1, e2, Bool.and_eq_true, decide_eq_true_eq]
      omega
    have h3 : keyOf P k (.int .i64 x.n) = some (.int .i64 x.n) := by simp [keyOf, hk, mapKey, h2]
    simp [Go.WideElems.rd, h3, noRdI]
  have hF : Go.WideElems.Fit P k noRdI (mE (xs.map vK)) q := by
    refine ⟨by rw [mE_size, List.length_map]; exact Nat.le_trans h.num (by decide), ⟨?_, ?_, ?_⟩, ?_⟩
    · intro x hx
      simp only [mE_toList, List.map_map, List.mem_map] at hx
      obtain ⟨y, hy, rfl⟩ := hx
      exact h.born y hy
    · rw [mE_toList, List.map_map, List.map_map]
      exact h.bnd
    · rw [mE_toList, List.map_map, List.map_map]
      refine List.pairwise_map.2 (h.uniq.imp fun {a b} hne he => hne ?_)
      exact (Value.int.inj he).2
    · intro x hx
      simp only [mE_toList, List.map_map, List.mem_map] at hx
      obtain ⟨y, hy, rfl⟩ := hx
      exact ⟨_, hrd y hy⟩
  refine ⟨_, ⟨_, _, hb, hF, by rw [mE_size, List.length_map]; exact h.num, rfl⟩, ?_, ?_⟩
  · rw [Maps.size_eq, (WideShapes.sorted_perm _).length_eq]; simp
  · refine ((WideShapes.sorted_perm _).map _).trans ?_
    rw [mE_toList, List.map_map, List.map_map, List.map_map]
    refine List.Perm.of_eq (List.map_congr_left fun x hx => ?_)
    simp only [Function.comp_def, vK, Go.WideElems.rg, hrd x hx, Option.getD_some, intOf]
end
end Go.V
