/-
  The engine, in one text: Ski, Gm, Gb, Gc, Gs, Gn, Gr, Ga, Gk, Gx, Keg. No program.
  Conditions: none; every fact is proved from the library's own definitions.
-/
import Derived.Shelf.SlIterI.Nil
import Derived.Laws.AppendOwn
import Derived.Sort.OwnSortedInts
import Derived.Lib.SlicesCompact
import Derived.Lib.SlKeysI
import Derived.Test.YtlnlnebibgdjdaaEgb
import Derived.Test.YtlnlnebibgdjdaaFnv
/-! ## Ski -/
namespace Go.V
open Go Go.RowKit Go.Maps Go.Sort

section
variable {g w w' : World} {L : List HP} {e size n : Nat} {v : Value} {xs : List Value}
theorem St.of_row (ls : List (List Value)) (h : St g L w) (hb : Below w.heap.size w w') (hr : w'.ownsRow w.heap.size e size v n xs) (hls : ls.flatten = xs) (hn : ls.length = n) (hok : OkE size ls) :
    ∃ a c, v = .slice a ls.length c ∧ St g (Own e size ls a c :: L) w' := by
  subst hn; subst hls
  have h0 : St g (pur True :: L) w := h.add fun _ _ => trivial
  obtain ⟨b1, b2, b3, b4, b5⟩ := hb
  obtain ⟨_, ⟨rfl, hn⟩ | ⟨q, cap, cur, rfl, hq, hcur, h1, h2, h3, h4⟩⟩ := hr
  · have hz : ls = [] := List.length_eq_zero_iff.1 hn
    subst hz
    refine ⟨none, 0, rfl, h0.upd b1 b2 b3 b4 fun o1 r _ _ _ _ => ⟨fun _ => none, ⟨OkE.nil _, .inl ⟨rfl, rfl, rfl⟩⟩, fun _ _ h => (by cases h), fun k hk => absurd rfl hk, fun k hk _ => b5 k hk⟩⟩
  · refine ⟨some ⟨q, 0, none⟩, cap, rfl, h0.upd b1 b2 b3 b4 fun o1 r _ _ _ _ => ⟨fun k => if k = q then some (.cells cur e (0, 0)) else none, ⟨hok, .inr ⟨q, cur, rfl, by simp, h1, h2, h3, h4⟩⟩, fun k x hx => ?_, fun k hk => ?_, fun k hk _ => b5 k hk⟩⟩
    · simp only at hx
      split at hx
      · rename_i hk; subst hk; simp only [Option.some.injEq] at hx; subst hx; exact hcur
      · cases hx
    · simp only [ne_eq, ite_eq_right_iff, reduceCtorEq, imp_false, Classical.not_not] at hk
      exact .inr (by omega)
/-- nothing of what is known has turned -/
theorem St.under (h : St g L w) (hb : Below w.heap.size w w') : St g L w' := by
  have h0 : St g (pur True :: L) w := h.add fun _ _ => trivial
  obtain ⟨b1, b2, b3, b4, b5⟩ := hb
  refine (h0.upd (B := pur True) b1 b2 b3 b4 fun o1 r _ _ _ _ => ⟨fun _ => none, trivial, fun _ _ h => (by cases h), fun k hk => absurd rfl hk, fun k hk _ => b5 k hk⟩).tail
end
/-! ### a row of ints that a contract turns in place -/
section
variable {g w : World} {L : List HP} {e c : Nat} {ls : List Int} {b : Nat}
theorem i64s_flat (l : List Int) : (i64s l).flatten = l.map (Value.int .i64) := by
  induction l with
  | nil => rfl
  | cons x l ih => simp only [i64s, List.map_cons, List.flatten_cons, List.singleton_append] at ih ⊢; rw [ih]
theorem St.holdsI (h : St g L w) (i : Nat) (hi : L[i]? = some (Own e 1 (i64s ls) (some ⟨b, 0, none⟩) c)) : Holds (Value.int .i64) w b 0 ls.toArray ∧ b < w.heap.size ∧ ls.length ≤ c := by
  obtain ⟨o1, r, ⟨h1, h2⟩, ho, hr⟩ := h.get i hi
  rcases h2 with ⟨h3, _, _⟩ | ⟨b', cur, h3, q2, q3, q4, q5, q6⟩
  · cases h3
  · cases h3
    have hb := ho _ _ q2
    refine ⟨holds_of_blockI hb (by rw [i64s_len, Nat.mul_one, i64s_flat] at q6; exact q6), (Array.getElem?_eq_some_iff.1 hb).1, by simpa using q3⟩
/-- what lies there is another row of that length -/
theorem St.putI (h : St g (Own e 1 (i64s ls) (some ⟨b, 0, none⟩) c :: L) w) (ts : List Int) (hl : ts.length = ls.length) (n : Nat) (os : Array Obj) :
    St g (Own e 1 (i64s ts) (some ⟨b, 0, none⟩) c :: L) (grow (putRow (Value.int .i64) (Sort.ahead w n) b 0 ts.toArray) os) := by
  have hg := grownBy_sortedI (w := w) (g := b) (n := n) (os := os) ts.toArray
  refine h.upd hg.os hg.tape hg.output hg.size fun o1 r hA hw _ _ => ?_
  obtain ⟨h1, h2⟩ := hA
  rcases h2 with ⟨h3, _, _⟩ | ⟨b', cur, h3, q2, q3, q4, q5, q6⟩
  · cases h3
  · cases h3
    have hb := hw _ _ q2
    rw [i64s_len] at q3 q6
    refine ⟨fun k => if k = b then some (.cells (putCells (Value.int .i64) 0 ts.toArray cur) e (0, 0)) else none, ⟨i64s_ok _, .inr ⟨b, _, rfl, if_pos rfl, by rw [i64s_len, hl]; exact q3, q4, by simp [putCells, q5], ?_⟩⟩, fun k x hx => ?_, fun k hk => ?_, fun k hk hn => ?_⟩
    · rw [i64s_len, Nat.mul_one, i64s_flat]
      exact take_putCellsI cur ts (by rw [hl, q5, Nat.mul_one]; exact q3)
    · simp only at hx
      split at hx
      · rename_i hk; subst hk; simp only [Option.some.injEq] at hx; subst hx; exact heap_sortedI _ hb
      · cases hx
    · simp only [ne_eq, ite_eq_right_iff, reduceCtorEq, imp_false, Classical.not_not] at hk
      subst hk; exact .inl (by rw [q2]; simp)
    · refine hg.block k hk fun he => ?_
      simp only [Option.some.injEq] at he; subst he
      rw [q2] at hn; cases hn
theorem St.ownTake {a : Option Addr} {size : Nat} {ks : List (List Value)} (h : St g (Own e size ks a c :: L) w) (k : Nat) : St g (Own e size (ks.take k) a c :: L) w := by
  refine h.impl fun o r ⟨h1, h2⟩ => ⟨fun x hx => h1 x (List.mem_of_mem_take hx), ?_⟩
  rcases h2 with ⟨q1, q2, rfl⟩ | ⟨b, cur, q1, q2, q3, q4, q5, q6⟩
  · exact .inl ⟨q1, q2, by simp⟩
  · refine .inr ⟨b, cur, q1, q2, Nat.le_trans (by rw [List.length_take]; omega) q3, q4, q5, ?_⟩
    have h4 : ∀ x ∈ ks.take k, x.length = size := fun x hx => h1.len x (List.mem_of_mem_take hx)
    have h5 := flat_len (ks.take k) size h4
    have h6 : (ks.take k).flatten = ks.flatten.take ((ks.take k).length * size) := by
      have h7 : ks.flatten = (ks.take k).flatten ++ (ks.drop k).flatten := by rw [← List.flatten_append, List.take_append_drop]
      rw [h7, List.take_left' h5]
    rw [h6, ← q6, List.take_take]
    congr 1
    have : (ks.take k).length ≤ ks.length := by rw [List.length_take]; omega
    exact (Nat.min_eq_left (Nat.mul_le_mul_right _ this)).symm
theorem St.addrI {a : Option Addr} (h : St g L w) (i : Nat) (hi : L[i]? = some (Own e 1 (i64s ls) a c)) (hne : ls ≠ []) : ∃ b, a = some ⟨b, 0, none⟩ := by
  obtain ⟨o1, r, ⟨h1, h2⟩, ho, hr⟩ := h.get i hi
  rcases h2 with ⟨_, _, h3⟩ | ⟨b', cur, h3, _⟩
  · simp [i64s] at h3; exact absurd h3 hne
  · exact ⟨b', h3⟩
end
theorem compact_len (l : List Int) : (Go.Lib.compact l).length ≤ l.length := by
  unfold Go.Lib.compact Go.Lib.compactUpTo
  rw [List.length_map]
  exact Nat.le_trans (List.length_filter_le _ _) (by simp)
theorem sort_eqI {ys ss : List Int} (hp : ss.Perm ys) (hs : ss.Pairwise (· ≤ ·)) : ys.mergeSort (fun x y => decide (x ≤ y)) = ss := by
  have h1 := mergeSort_of_perm_i hp
  show ys.mergeSort leI = _
  rw [← h1]
  exact List.mergeSort_of_pairwise (le := leI) (hs.imp fun h => decide_eq_true h)
end Go.V

/-! ## Gm -/
namespace Go.V
open Go Go.RowKit Go.Maps

/-- a version: is it live, its present ancestors, where those lie -/
structure VN where
  n : Int
  live : Bool
  ab : List Int
  a : Option Addr
  c : Nat
  born : Nat
def vV (x : VN) : Value := .agg #[.bool x.live, .slice x.a (i64s x.ab).length x.c]
def vK (x : VN) : Value × Value × Nat := (.int .i64 x.n, vV x, x.born)
def vF (x : VN) : List HP := [Sh 3 1 (i64s x.ab) x.a x.c]
theorem vF_sh (x : VN) : ∀ A ∈ vF x, Sht A := fun A hA => by
  simp only [vF, List.mem_singleton] at hA; subst hA; exact Sht.sh
/-- no number stands twice -/
def VUq (xs : List VN) : Prop := xs.Pairwise fun x y => x.n ≠ y.n
theorem v_key (xs : List VN) : ∀ x ∈ xs.map vK, MapKept.IsKey (.int .i64) x.1 := fun x hx => by
  obtain ⟨y, _, rfl⟩ := List.mem_map.1 hx
  rfl
theorem v_in {xs : List VN} {k : Nat} {x : VN} (hx : xs[k]? = some x) (hu : VUq xs) : mfind (.int .i64) (.int .i64 x.n) (xs.map vK) = some (some (k, vV x)) := by
  refine mfind_some (d := .int .i64) (k := .int .i64 x.n) (b := x.born) rfl (v_key xs) (by rw [List.getElem?_map, hx]; rfl) fun j hj y hy => ?_
  rw [List.getElem?_map] at hy
  cases hz : xs[j]? with
  | none => rw [hz] at hy; cases hy
  | some u =>
    rw [hz] at hy
    simp only [Option.map_some, Option.some.injEq] at hy
    subst hy
    intro he
    have he2 : u.n = x.n := (Value.int.inj he).2
    have hl := (List.getElem?_eq_some_iff.1 hz).1
    have hl2 := (List.getElem?_eq_some_iff.1 hx).1
    refine List.pairwise_iff_getElem.1 hu j k hl hl2 hj ?_
    rw [(List.getElem?_eq_some_iff.1 hz).2, (List.getElem?_eq_some_iff.1 hx).2, he2]
theorem v_out {xs : List VN} {n : Int} (h : ∀ x ∈ xs, x.n ≠ n) : mfind (.int .i64) (.int .i64 n) (xs.map vK) = some none := by
  refine mfind_none (d := .int .i64) (k := .int .i64 n) rfl (v_key xs) fun x hx => ?_
  obtain ⟨y, hy, rfl⟩ := List.mem_map.1 hx
  intro he
  exact h y hy (Value.int.inj he).2
theorem v_cases (xs : List VN) (n : Int) : (∃ (k : Nat) (x : VN), xs[k]? = some x ∧ x.n = n) ∨ ∀ x ∈ xs, x.n ≠ n := by
  by_cases h : ∃ x ∈ xs, x.n = n
  · obtain ⟨x, hx, hn⟩ := h
    obtain ⟨k, hk⟩ := List.mem_iff_getElem?.1 hx
    exact .inl ⟨k, x, hk, hn⟩
  · exact .inr fun x hx hn => h ⟨x, hx, hn⟩
theorem VUq.one {R : List VN} (h : VUq R) {i j : Nat} {x y : VN} (hi : R[i]? = some x) (hj : R[j]? = some y) (he : x.n = y.n) : i = j := by
  have h1 := (List.getElem?_eq_some_iff.1 hi).1
  have h2 := (List.getElem?_eq_some_iff.1 hj).1
  have e1 : R[i] = x := (List.getElem?_eq_some_iff.1 hi).2
  have e2 : R[j] = y := (List.getElem?_eq_some_iff.1 hj).2
  rcases Nat.lt_trichotomy i j with hl | hl | hl
  · exact absurd (by rw [e1, e2]; exact he) (List.pairwise_iff_getElem.1 h i j h1 h2 hl)
  · exact hl
  · exact absurd (by rw [e1, e2]; exact he.symm) (List.pairwise_iff_getElem.1 h j i h2 h1 hl)
def vfind (xs : List VN) (n : Int) : Option VN := xs.find? fun x => decide (x.n = n)
def liveG (xs : List VN) (n : Int) : Bool := ((vfind xs n).map (·.live)).getD false
def preG (xs : List VN) (n : Int) : Bool := (vfind xs n).isSome
def abG (xs : List VN) (n : Int) : List Int := ((vfind xs n).map (·.ab)).getD []
theorem vfind_in {xs : List VN} {k : Nat} {x : VN} (hx : xs[k]? = some x) (hu : VUq xs) : vfind xs x.n = some x := by
  cases hf : vfind xs x.n with
  | none =>
    have := List.find?_eq_none.1 hf x (List.mem_of_getElem? hx)
    exact absurd (decide_eq_true rfl) this
  | some y =>
    have hn : y.n = x.n := of_decide_eq_true (List.find?_some (p := fun q : VN => decide (q.n = x.n)) hf)
    obtain ⟨j, hj⟩ := List.mem_iff_getElem?.1 (List.mem_of_find?_eq_some hf)
    have := hu.one hj hx hn
    subst this
    rw [hj] at hx; exact hx
theorem vfind_out {xs : List VN} {n : Int} (h : ∀ x ∈ xs, x.n ≠ n) : vfind xs n = none := by
  refine List.find?_eq_none.2 fun x hx he => h x hx (of_decide_eq_true he)
theorem vfind_some {xs : List VN} {n : Int} {x : VN} (h : vfind xs n = some x) : x ∈ xs ∧ x.n = n := ⟨List.mem_of_find?_eq_some h, of_decide_eq_true (List.find?_some (p := fun q : VN => decide (q.n = n)) h)⟩
theorem vfind_none {xs : List VN} {n : Int} : vfind xs n = none ↔ ∀ x ∈ xs, x.n ≠ n := ⟨fun h x hx e => List.find?_eq_none.1 h x hx (decide_eq_true e), vfind_out⟩
theorem vfind_mem {xs : List VN} {x : VN} (hx : x ∈ xs) (hu : VUq xs) : vfind xs x.n = some x := by
  obtain ⟨k, hk⟩ := List.mem_iff_getElem?.1 hx
  exact vfind_in hk hu
theorem g_in {xs : List VN} {n : Int} {x : VN} (h : vfind xs n = some x) : liveG xs n = x.live ∧ preG xs n = true ∧ abG xs n = x.ab := by simp [liveG, preG, abG, h]
theorem g_out {xs : List VN} {n : Int} (h : vfind xs n = none) : liveG xs n = false ∧ preG xs n = false ∧ abG xs n = [] := by simp [liveG, preG, abG, h]
theorem live_pre {xs : List VN} {n : Int} (h : liveG xs n = true) : preG xs n = true := by
  unfold liveG at h; unfold preG
  cases hf : vfind xs n with
  | none => rw [hf] at h; cases h
  | some x => rfl
theorem pre_iff {xs : List VN} {n : Int} : preG xs n = true ↔ ∃ x ∈ xs, x.n = n := by
  unfold preG
  cases hf : vfind xs n with
  | none => exact ⟨fun h => (by cases h), fun ⟨x, hx, hn⟩ => absurd hn (vfind_none.1 hf x hx)⟩
  | some x => exact ⟨fun _ => ⟨x, vfind_some hf⟩, fun _ => rfl⟩
/-! ### sets of numbers, as maps to bool -/
def bK (x : Int × Nat) : Value × Value × Nat := (.int .i64 x.1, .bool true, x.2)
def BUq (xs : List (Int × Nat)) : Prop := xs.Pairwise fun x y => x.1 ≠ y.1
theorem b_key (xs : List (Int × Nat)) : ∀ x ∈ xs.map bK, MapKept.IsKey (.int .i64) x.1 := fun x hx => by
  obtain ⟨y, _, rfl⟩ := List.mem_map.1 hx
  rfl
theorem b_out {xs : List (Int × Nat)} {n : Int} (h : ∀ x ∈ xs, x.1 ≠ n) : mfind (.int .i64) (.int .i64 n) (xs.map bK) = some none := by
  refine mfind_none (d := .int .i64) (k := .int .i64 n) rfl (b_key xs) fun x hx => ?_
  obtain ⟨y, hy, rfl⟩ := List.mem_map.1 hx
  intro he
  exact h y hy (Value.int.inj he).2
theorem b_in {xs : List (Int × Nat)} {k : Nat} {x : Int × Nat} (hx : xs[k]? = some x) (hu : BUq xs) : mfind (.int .i64) (.int .i64 x.1) (xs.map bK) = some (some (k, .bool true)) := by
  refine mfind_some (d := .int .i64) (k := .int .i64 x.1) (b := x.2) rfl (b_key xs) (by rw [List.getElem?_map, hx]; rfl) fun j hj y hy => ?_
  rw [List.getElem?_map] at hy
  cases hz : xs[j]? with
  | none => rw [hz] at hy; cases hy
  | some u =>
    rw [hz] at hy
    simp only [Option.map_some, Option.some.injEq] at hy
    subst hy
    intro he
    have he2 : u.1 = x.1 := (Value.int.inj he).2
    have hl := (List.getElem?_eq_some_iff.1 hz).1
    have hl2 := (List.getElem?_eq_some_iff.1 hx).1
    refine List.pairwise_iff_getElem.1 hu j k hl hl2 hj ?_
    rw [(List.getElem?_eq_some_iff.1 hz).2, (List.getElem?_eq_some_iff.1 hx).2, he2]
theorem b_cases (xs : List (Int × Nat)) (n : Int) : (∃ (k : Nat) (x : Int × Nat), xs[k]? = some x ∧ x.1 = n) ∨ ∀ x ∈ xs, x.1 ≠ n := by
  by_cases h : ∃ x ∈ xs, x.1 = n
  · obtain ⟨x, hx, hn⟩ := h
    obtain ⟨k, hk⟩ := List.mem_iff_getElem?.1 hx
    exact .inl ⟨k, x, hk, hn⟩
  · exact .inr fun x hx hn => h ⟨x, hx, hn⟩
/-! ### the table is one -/
structure VOk (xs : List VN) (q : Nat) : Prop where
  uniq : VUq xs
  born : ∀ x ∈ xs, x.born < q
  bnd : (xs.map (·.born)).Nodup
  rng : ∀ x ∈ xs, 1 ≤ x.n ∧ x.n ≤ 1000000000
  num : xs.length ≤ 4096
section
variable {P : Program} {k : TypeId}
def noRdI (_ : Value) : Option (DataW Unit × List MemPlace) := some (.nil, [])
theorem int_keys (xs : List VN) (q : Nat) (h : VOk xs q) (hk : P.underlying k = some (.int .i64)) {w : World} {b : Nat} (hb : w.heap[b]? = some (.map (mE (xs.map vK)) q)) :
    ∃ D : DataW Unit, w.ownsMap P k noRdI b 4096 D ∧ Maps.size D = xs.length ∧ (intKeys D).Perm (xs.map (·.n)) := by
  have hrd : ∀ x : VN, x ∈ xs → Go.WideElems.rd P k noRdI ⟨.int .i64 x.n, vV x, x.born⟩ = some (.int .i64 x.n, .nil) := fun x hx => by
    have h1 := h.rng x hx
    have h2 : (Lit.int .i64 x.n).wf = true := by
      have e1 : IntKind.i64.min = -9223372036854775808 := by decide
      have e2 : IntKind.i64.max = 9223372036854775807 := by decide
      simp only [Lit.wf, e1, e2, Bool.and_eq_true, decide_eq_true_eq]
      omega
    have h3 : keyOf P k (.int .i64 x.n) = some (.int .i64 x.n) := by simp [keyOf, hk, mapKey, h2]
    simp [Go.WideElems.rd, h3, noRdI]
  have hF : Go.WideElems.Fit P k noRdI (mE (xs.map vK)) q := by
    refine ⟨by rw [mE_size, List.length_map]; exact Nat.le_trans h.num (by decide), ⟨?_, ?_, ?_⟩, ?_⟩
    · intro x hx
      simp only [mE_toList, List.map_map, List.mem_map] at hx
      obtain ⟨y, hy, rfl⟩ := hx
      exact h.born y hy
    · rw [mE_toList, List.map_map, List.map_map]
      exact h.bnd
    · rw [mE_toList, List.map_map, List.map_map]
      refine List.pairwise_map.2 (h.uniq.imp fun {a b} hne he => hne ?_)
      exact (Value.int.inj he).2
    · intro x hx
      simp only [mE_toList, List.map_map, List.mem_map] at hx
      obtain ⟨y, hy, rfl⟩ := hx
      exact ⟨_, hrd y hy⟩
  refine ⟨_, ⟨_, _, hb, hF, by rw [mE_size, List.length_map]; exact h.num, rfl⟩, ?_, ?_⟩
  · rw [Maps.size_eq, (WideShapes.sorted_perm _).length_eq]; simp
  · refine ((WideShapes.sorted_perm _).map _).trans ?_
    rw [mE_toList, List.map_map, List.map_map, List.map_map]
    refine List.Perm.of_eq (List.map_congr_left fun x hx => ?_)
    simp only [Function.comp_def, vK, Go.WideElems.rg, hrd x hx, Option.getD_some, intOf]
end
end Go.V

/-! ## Gb -/
namespace Go.V
open Go Go.RowKit

def Asc (l : List Int) : Prop := l.Pairwise fun a b => a < b
/-- the greatest number of both, or 0 -/
def gcm (l m : List Int) : Int := ((l.filter fun z => decide (z ∈ m)).getLast?).getD 0
theorem Asc.nodup {l : List Int} (h : Asc l) : l.Nodup := h.imp fun h => by omega
theorem Asc.last {l : List Int} (h : Asc l) {u : Int} (hu : u ∈ l) (hm : ∀ z ∈ l, z ≤ u) : l.getLast? = some u := by
  induction l with
  | nil => cases hu
  | cons x t ih =>
    have hp := List.pairwise_cons.1 h
    cases t with
    | nil => simp at hu; subst hu; rfl
    | cons y t =>
      rw [List.getLast?_cons_cons]
      refine ih hp.2 ?_ fun z hz => hm z (List.mem_cons_of_mem _ hz)
      rcases List.mem_cons.1 hu with rfl | hu
      · have h1 := hp.1 y (List.mem_cons_self ..)
        have h2 := hm y (List.mem_cons_of_mem _ (List.mem_cons_self ..))
        omega
      · exact hu
theorem gcm_is {l m : List Int} (h : Asc l) {u : Int} (h1 : u ∈ l) (h2 : u ∈ m) (hm : ∀ z ∈ l, z ∈ m → z ≤ u) : gcm l m = u := by
  unfold gcm
  have h3 : Asc (l.filter fun z => decide (z ∈ m)) := h.sublist List.filter_sublist
  rw [h3.last (List.mem_filter.2 ⟨h1, decide_eq_true h2⟩) fun z hz => hm z (List.mem_filter.1 hz).1 (of_decide_eq_true (List.mem_filter.1 hz).2)]
  rfl
theorem gcm_no {l m : List Int} (h : ∀ z ∈ l, z ∉ m) : gcm l m = 0 := by
  unfold gcm
  rw [List.filter_eq_nil_iff.2 fun z hz hd => h z hz (of_decide_eq_true hd)]
  rfl
theorem Asc.max_ex {l : List Int} (h : Asc l) (hne : l ≠ []) : ∃ u ∈ l, ∀ z ∈ l, z ≤ u := by
  refine ⟨l.getLast hne, List.getLast_mem hne, fun z hz => ?_⟩
  induction l with
  | nil => exact absurd rfl hne
  | cons x t ih =>
    have hp := List.pairwise_cons.1 h
    cases t with
    | nil => simp at hz; subst hz; exact Int.le_refl _
    | cons y t =>
      rw [List.getLast_cons (by simp)]
      rcases List.mem_cons.1 hz with rfl | hz
      · have h1 := hp.1 _ (List.getLast_mem (l := y :: t) (by simp)); omega
      · exact ih hp.2 (by simp) hz
/-- either there is none in common, or it is the greatest one -/
theorem gcm_cases {l m : List Int} (h : Asc l) : (gcm l m = 0 ∧ ∀ z ∈ l, z ∉ m) ∨ (gcm l m ∈ l ∧ gcm l m ∈ m ∧ ∀ z ∈ l, z ∈ m → z ≤ gcm l m) := by
  by_cases hne : (l.filter fun z => decide (z ∈ m)) = []
  · have h1 : ∀ z ∈ l, z ∉ m := fun z hz hzm => List.filter_eq_nil_iff.1 hne z hz (decide_eq_true hzm)
    exact .inl ⟨gcm_no h1, h1⟩
  · obtain ⟨u, hu, hm⟩ := (show Asc _ from h.sublist List.filter_sublist).max_ex hne
    have h1 := (List.mem_filter.1 hu).1
    have h2 : u ∈ m := of_decide_eq_true (List.mem_filter.1 hu).2
    have h3 : ∀ z ∈ l, z ∈ m → z ≤ u := fun z hz hzm => hm z (List.mem_filter.2 ⟨hz, decide_eq_true hzm⟩)
    rw [gcm_is h h1 h2 h3]
    exact .inr ⟨h1, h2, h3⟩
theorem gcm_comm {l m : List Int} (hl : Asc l) (hm : Asc m) : gcm l m = gcm m l := by
  rcases gcm_cases (l := l) (m := m) hl with ⟨h1, h2⟩ | ⟨h1, h2, h3⟩
  · rw [h1, gcm_no fun z hz hzl => h2 z hzl hz]
  · exact (gcm_is hm h2 h1 fun z hz hzl => h3 z hzl hz).symm
theorem take_le {l : List Int} (h : Asc l) {k : Nat} {u : Int} (hu : l[k]? = some u) {z : Int} (hz : z ∈ l.take (k + 1)) : z ≤ u := by
  rw [List.take_add_one, hu] at hz
  rcases List.mem_append.1 hz with hz | hz
  · obtain ⟨i, hi⟩ := List.mem_iff_getElem?.1 hz
    rw [List.getElem?_take] at hi
    split at hi
    · rename_i hlt
      have h1 := (List.getElem?_eq_some_iff.1 hi).1
      have h2 := (List.getElem?_eq_some_iff.1 hu).1
      have h3 := List.pairwise_iff_getElem.1 h i k h1 h2 hlt
      rw [(List.getElem?_eq_some_iff.1 hi).2, (List.getElem?_eq_some_iff.1 hu).2] at h3
      omega
    · cases hi
  · simp at hz; omega
theorem take_drop1 {l : List Int} {k : Nat} {u z : Int} (hu : l[k]? = some u) (hz : z ∈ l.take (k + 1)) (hne : z ≠ u) : z ∈ l.take k := by
  rw [List.take_add_one, hu] at hz
  rcases List.mem_append.1 hz with hz | hz
  · exact hz
  · simp at hz; exact absurd hz hne
/-- the base of two versions -/
def baseG (xs : List VN) (x y : Int) : Int := if liveG xs x = true ∧ liveG xs y = true then gcm (abG xs x) (abG xs y) else 0
/-! ### the invariant -/
structure GOk (xs : List VN) (q : Nat) : Prop extends VOk xs q where
  asc : ∀ x ∈ xs, Asc x.ab
  self : ∀ x ∈ xs, x.n ∈ x.ab
  le : ∀ x ∈ xs, ∀ z ∈ x.ab, z ≤ x.n
  pre : ∀ x ∈ xs, ∀ z ∈ x.ab, preG xs z = true
  tr : ∀ x ∈ xs, ∀ z ∈ x.ab, ∀ u ∈ abG xs z, u ∈ x.ab
theorem nd_le : ∀ {l m : List Int}, l.Nodup → (∀ z ∈ l, z ∈ m) → l.length ≤ m.length
  | [], _, _, _ => Nat.zero_le _
  | x :: t, m, h, hs => by
    have hp := List.nodup_cons.1 h
    have h1 := List.perm_cons_erase (hs x (List.mem_cons_self ..))
    have h2 : t.length ≤ (m.erase x).length := nd_le hp.2 fun z hz => by
      have h3 := h1.mem_iff.1 (hs z (List.mem_cons_of_mem _ hz))
      rcases List.mem_cons.1 h3 with rfl | h3
      · exact absurd hz hp.1
      · exact h3
    have h4 := h1.length_eq
    simp only [List.length_cons] at h4 ⊢
    omega
theorem GOk.len {xs : List VN} {q : Nat} (h : GOk xs q) {x : VN} (hx : x ∈ xs) : x.ab.length ≤ xs.length := by
  have h1 : x.ab.length ≤ (xs.map VN.n).length := by
    refine nd_le (h.asc x hx).nodup fun z hz => ?_
    obtain ⟨y, hy, hn⟩ := pre_iff.1 (h.pre x hx z hz)
    exact List.mem_map.2 ⟨y, hy, hn⟩
  simpa using h1
theorem GOk.lenA {xs : List VN} {q : Nat} (h : GOk xs q) (n : Int) : (abG xs n).length ≤ 4096 := by
  cases hf : vfind xs n with
  | none => rw [(g_out hf).2.2]; exact Nat.zero_le _
  | some x => rw [(g_in hf).2.2]; exact Nat.le_trans (h.len (vfind_some hf).1) h.num
theorem GOk.ascA {xs : List VN} {q : Nat} (h : GOk xs q) (n : Int) : Asc (abG xs n) := by
  cases hf : vfind xs n with
  | none => rw [(g_out hf).2.2]; exact List.Pairwise.nil
  | some x => rw [(g_in hf).2.2]; exact h.asc x (vfind_some hf).1
theorem GOk.nil : GOk [] 0 := ⟨⟨List.Pairwise.nil, fun _ h => (by cases h), List.nodup_nil, fun _ h => (by cases h), by simp⟩, fun _ h => (by cases h), fun _ h => (by cases h), fun _ h => (by cases h), fun _ h => (by cases h), fun _ h => (by cases h)⟩
end Go.V

/-! ## Gc -/
namespace Go.V
open Go Go.RowKit

def srtI (l : List Int) : List Int := l.mergeSort fun x y => decide (x ≤ y)
theorem srtI_perm (l : List Int) : (srtI l).Perm l := List.mergeSort_perm _ _
theorem srtI_le (l : List Int) : (srtI l).Pairwise (· ≤ ·) := by
  have h := List.pairwise_mergeSort (le := fun x y : Int => decide (x ≤ y)) (fun a b c h1 h2 => by
    simp only [decide_eq_true_eq] at h1 h2 ⊢; omega) (fun a b => by
    simp only [Bool.or_eq_true, decide_eq_true_eq]; omega) l
  exact h.imp fun h => of_decide_eq_true h
theorem comp_inv {d : Array Int} (hs : d.toList.Pairwise (· ≤ ·)) : ∀ m, m ≤ d.size → Asc (Go.Lib.compactUpTo d m) ∧ (∀ z, z ∈ Go.Lib.compactUpTo d m ↔ ∃ j, j < m ∧ d[j]! = z)
  | 0, _ => ⟨List.Pairwise.nil, fun z => ⟨fun h => by simp [Go.Lib.compactUpTo] at h, fun ⟨j, hj, _⟩ => by omega⟩⟩
  | m + 1, hm => by
    obtain ⟨h1, h2⟩ := comp_inv hs m (by omega)
    rw [Go.Lib.compactUpTo_succ]
    have hle : ∀ i j, i < j → j < d.size → d[i]! ≤ d[j]! := fun i j hij hj => by
      have := List.pairwise_iff_getElem.1 hs i j (by simpa using (by omega : i < d.size)) (by simpa using hj) hij
      rw [getElem!_pos d i (by omega), getElem!_pos d j hj]
      simpa using this
    by_cases hk : Go.Lib.keeps d m = true
    · rw [if_pos hk]
      refine ⟨List.pairwise_append.2 ⟨h1, List.pairwise_singleton _ _, fun a ha b hb => ?_⟩, fun z => ?_⟩
      · simp only [List.mem_singleton] at hb; subst hb
        obtain ⟨j, hj, rfl⟩ := (h2 a).1 ha
        have hm0 : m ≠ 0 := by omega
        have hne : d[m]! ≠ d[m - 1]! := by
          have := of_decide_eq_true hk
          exact this.resolve_left hm0
        have e1 := hle (m - 1) m (by omega) (by omega)
        have e2 : d[j]! ≤ d[m - 1]! := by
          by_cases hj2 : j = m - 1
          · rw [hj2]; exact Int.le_refl _
          · exact hle j (m - 1) (by omega) (by omega)
        omega
      · rw [List.mem_append, List.mem_singleton, h2]
        constructor
        · rintro (⟨j, hj, he⟩ | rfl)
          · exact ⟨j, by omega, he⟩
          · exact ⟨m, by omega, rfl⟩
        · rintro ⟨j, hj, he⟩
          by_cases hjm : j = m
          · subst hjm; exact .inr he.symm
          · exact .inl ⟨j, by omega, he⟩
    · rw [if_neg hk, List.append_nil]
      refine ⟨h1, fun z => ?_⟩
      rw [h2]
      constructor
      · rintro ⟨j, hj, he⟩; exact ⟨j, by omega, he⟩
      · rintro ⟨j, hj, he⟩
        by_cases hjm : j = m
        · subst hjm
          have hk2 : ¬ (j = 0 ∨ d[j]! ≠ d[j - 1]!) := fun h => hk (decide_eq_true h)
          have hj0 : j ≠ 0 := fun h => hk2 (.inl h)
          have hj1 : d[j]! = d[j - 1]! := Classical.not_not.1 fun h => hk2 (.inr h)
          exact ⟨j - 1, by omega, by rw [← hj1]; exact he⟩
        · exact ⟨j, by omega, he⟩
theorem comp_asc {l : List Int} (hs : l.Pairwise (· ≤ ·)) : Asc (Go.Lib.compact l) := (comp_inv (d := l.toArray) (by simpa using hs) l.length (by simp)).1
theorem comp_mem {l : List Int} (hs : l.Pairwise (· ≤ ·)) (z : Int) : z ∈ Go.Lib.compact l ↔ z ∈ l := by
  rw [show (z ∈ Go.Lib.compact l) = (z ∈ Go.Lib.compactUpTo l.toArray l.length) from rfl, (comp_inv (d := l.toArray) (by simpa using hs) l.length (by simp)).2 z, List.mem_iff_getElem]
  constructor
  · rintro ⟨j, hj, he⟩
    exact ⟨j, hj, by rw [← he, getElem!_pos l.toArray j (by simpa using hj)]; simp⟩
  · rintro ⟨j, hj, he⟩
    exact ⟨j, hj, by rw [getElem!_pos l.toArray j (by simpa using hj)]; simpa using he⟩
/-- a list of ancestors, sorted and without doubles -/
def absr (l : List Int) : List Int := Go.Lib.compact (srtI l)
theorem absr_asc (l : List Int) : Asc (absr l) := comp_asc (srtI_le l)
theorem absr_mem (l : List Int) (z : Int) : z ∈ absr l ↔ z ∈ l := by
  unfold absr
  rw [comp_mem (srtI_le l), (srtI_perm l).mem_iff]
theorem St.shsSub {α : Type} {f : α → List HP} {zs zs' : List α} {g w : World} {L : List HP} (h : St g (Shs f zs :: L) w) (hs : ∀ z ∈ zs', z ∈ zs) : St g (Shs f zs' :: L) w := h.impl fun _ _ hh z hz => hh z (hs z hz)
theorem snoc_mem {α : Type} {xs : List α} {v z : α} (h : z ∈ xs ++ [v]) : z ∈ v :: xs := by
  rcases List.mem_append.1 h with h | h
  · exact List.mem_cons_of_mem _ h
  · rw [List.mem_singleton.1 h]; exact List.mem_cons_self ..
/-- the ancestors of a new version -/
def newAb (xs : List VN) (n : Int) (ps : List Int) : List Int := [n] ++ ps.flatMap (abG xs)
theorem newAb_snoc {xs : List VN} {n p : Int} {ps : List Int} {k : Nat} (h : ps[k]? = some p) : newAb xs n (ps.take k) ++ abG xs p = newAb xs n (ps.take (k + 1)) := by
  unfold newAb
  rw [List.take_add_one, h, List.flatMap_append, List.append_assoc]
  simp
theorem live_ix {xs : List VN} {n : Int} (h : liveG xs n = true) : ∃ (k : Nat) (x : VN), xs[k]? = some x ∧ x.n = n ∧ x.live = true ∧ abG xs n = x.ab := by
  cases hf : vfind xs n with
  | none => rw [(g_out hf).1] at h; cases h
  | some x =>
    obtain ⟨h1, h2⟩ := vfind_some hf
    obtain ⟨k, hk⟩ := List.mem_iff_getElem?.1 h1
    obtain ⟨h3, _, h4⟩ := g_in hf
    exact ⟨k, x, hk, h2, h3 ▸ h, h4⟩
/-! ### one version more -/
theorem vfind_app {xs : List VN} {v : VN} (hn : ∀ x ∈ xs, x.n ≠ v.n) (n : Int) : vfind (xs ++ [v]) n = if n = v.n then some v else vfind xs n := by
  unfold vfind
  rw [List.find?_append]
  by_cases h : n = v.n
  · subst h
    rw [if_pos rfl, show xs.find? (fun x => decide (x.n = v.n)) = none from vfind_out hn]
    simp
  · rw [if_neg h]
    cases hf : xs.find? (fun x => decide (x.n = n)) with
    | some x => rfl
    | none =>
      simp only [Option.none_or, List.find?_cons, List.find?_nil]
      rw [decide_eq_false (fun e => h e.symm)]
theorem GOk.add {xs : List VN} {q : Nat} (h : GOk xs q) {v : VN} {ps : List Int} (hn : ∀ x ∈ xs, x.n < v.n) (hr : 1 ≤ v.n ∧ v.n ≤ 1000000000) (hb : v.born = q) (hl : xs.length < 4096)
    (ha : Asc v.ab) (hm : ∀ z, z ∈ v.ab ↔ z ∈ newAb xs v.n ps) : GOk (xs ++ [v]) (q + 1) := by
  have hne : ∀ x ∈ xs, x.n ≠ v.n := fun x hx e => by have := hn x hx; omega
  have hf := vfind_app hne
  have hold : ∀ z ∈ ps.flatMap (abG xs), ∃ x ∈ xs, z ∈ x.ab := fun z hz => by
    obtain ⟨p, _, hz⟩ := List.mem_flatMap.1 hz
    cases hp : vfind xs p with
    | none => rw [(g_out hp).2.2] at hz; cases hz
    | some x => rw [(g_in hp).2.2] at hz; exact ⟨x, (vfind_some hp).1, hz⟩
  have hm2 : ∀ z, z ∈ v.ab ↔ z = v.n ∨ z ∈ ps.flatMap (abG xs) := fun z => by rw [hm]; simp [newAb]
  have hpre : ∀ z, preG xs z = true → preG (xs ++ [v]) z = true := fun z hz => by
    obtain ⟨x, hx, e⟩ := pre_iff.1 hz
    exact pre_iff.2 ⟨x, List.mem_append_left _ hx, e⟩
  have hlt : ∀ z, preG xs z = true → z < v.n := fun z hz => by
    obtain ⟨x, hx, e⟩ := pre_iff.1 hz
    have := hn x hx; omega
  have hab : ∀ z, z ≠ v.n → abG (xs ++ [v]) z = abG xs z := fun z hz => by unfold abG; rw [hf, if_neg hz]
  refine ⟨⟨?_, fun x hx => ?_, ?_, fun x hx => ?_, by simp; omega⟩, fun x hx => ?_, fun x hx => ?_, fun x hx z hz => ?_, fun x hx z hz => ?_, fun x hx z hz u hu => ?_⟩
  · refine List.pairwise_append.2 ⟨h.uniq, List.pairwise_singleton _ _, fun a hax b hbx => ?_⟩
    simp only [List.mem_singleton] at hbx; subst hbx; exact hne a hax
  · rcases List.mem_append.1 hx with hx | hx
    · have := h.born x hx; omega
    · simp only [List.mem_singleton] at hx; subst hx; omega
  · rw [List.map_append, List.nodup_append]
    refine ⟨h.bnd, by simp, fun a ha b hb2 => ?_⟩
    obtain ⟨x, hx, rfl⟩ := List.mem_map.1 ha
    simp only [List.map_cons, List.map_nil, List.mem_singleton] at hb2
    have := h.born x hx; omega
  · rcases List.mem_append.1 hx with hx | hx
    · exact h.rng x hx
    · simp only [List.mem_singleton] at hx; subst hx; exact hr
  · rcases List.mem_append.1 hx with hx | hx
    · exact h.asc x hx
    · simp only [List.mem_singleton] at hx; subst hx; exact ha
  · rcases List.mem_append.1 hx with hx | hx
    · exact h.self x hx
    · simp only [List.mem_singleton] at hx; subst hx; exact (hm2 _).2 (.inl rfl)
  · rcases List.mem_append.1 hx with hx | hx
    · exact h.le x hx z hz
    · simp only [List.mem_singleton] at hx; subst hx
      rcases (hm2 z).1 hz with rfl | hz
      · exact Int.le_refl _
      · obtain ⟨y, hy, hzy⟩ := hold z hz
        have := h.le y hy z hzy
        have := hn y hy
        omega
  · rcases List.mem_append.1 hx with hx | hx
    · exact hpre z (h.pre x hx z hz)
    · simp only [List.mem_singleton] at hx; subst hx
      rcases (hm2 z).1 hz with rfl | hz
      · exact pre_iff.2 ⟨x, List.mem_append_right _ (List.mem_singleton.2 rfl), rfl⟩
      · obtain ⟨y, hy, hzy⟩ := hold z hz
        exact hpre z (h.pre y hy z hzy)
  · rcases List.mem_append.1 hx with hx | hx
    · have h1 := hlt z (h.pre x hx z hz)
      rw [hab z (by omega)] at hu
      exact h.tr x hx z hz u hu
    · simp only [List.mem_singleton] at hx; subst hx
      rcases (hm2 z).1 hz with rfl | hz
      · unfold abG at hu; rw [hf, if_pos rfl] at hu; exact hu
      · obtain ⟨p, hp, hzp⟩ := List.mem_flatMap.1 hz
        cases hfp : vfind xs p with
        | none => rw [(g_out hfp).2.2] at hzp; cases hzp
        | some y =>
          rw [(g_in hfp).2.2] at hzp
          have hy := (vfind_some hfp).1
          have h1 := hlt z (h.pre y hy z hzp)
          rw [hab z (by omega)] at hu
          refine (hm2 u).2 (.inr (List.mem_flatMap.2 ⟨p, hp, ?_⟩))
          rw [(g_in hfp).2.2]
          exact h.tr y hy z hzp u hu
end Go.V

/-! ## Gs -/
namespace Go.V
open Go Go.RowKit

def inB (ns : List (Int × Nat)) (k : Int) : Bool := ns.any fun x => decide (x.1 = k)
theorem inB_iff {ns : List (Int × Nat)} {k : Int} : inB ns k = true ↔ ∃ x ∈ ns, x.1 = k := by
  unfold inB
  rw [List.any_eq_true]
  exact ⟨fun ⟨x, hx, h⟩ => ⟨x, hx, of_decide_eq_true h⟩, fun ⟨x, hx, h⟩ => ⟨x, hx, decide_eq_true h⟩⟩
theorem b_find {ns : List (Int × Nat)} (hu : BUq ns) (k : Int) : (∃ j : Nat, inB ns k = true ∧ (∃ b, ns[j]? = some (k, b)) ∧ mfind (.int .i64) (.int .i64 k) (ns.map bK) = some (some (j, .bool true))) ∨ (inB ns k = false ∧ (∀ x ∈ ns, x.1 ≠ k) ∧ mfind (.int .i64) (.int .i64 k) (ns.map bK) = some none) := by
  rcases b_cases ns k with ⟨j, x, hx, rfl⟩ | hn
  · exact .inl ⟨j, inB_iff.2 ⟨x, List.mem_of_getElem? hx, rfl⟩, ⟨x.2, hx⟩, b_in hx hu⟩
  · refine .inr ⟨?_, hn, b_out hn⟩
    cases h : inB ns k with
    | false => rfl
    | true => obtain ⟨x, hx, he⟩ := inB_iff.1 h; exact absurd he (hn x hx)
section
variable {P : Program} {T : Tab} [hT : TabOk P T] {n : Nat} {os l : List Oper} {K : Kt} {F : Fm} {w g : World} {L : List HP} {t kt et : TypeId} {b c : Nat}
/-- is a number in a set -/
theorem WL.lkB {o : Oper} {x y : Operand} {k : Int} {ns : List (Int × Nat)} (hg : o.guard = none) (ho : o.op = .lookup t x y false) (hM : MapT P t kt (.int .i64) et (.bool false)) (i : Nat) (hS : St g L w) (hi : L[i]? = some (blk b (.map (mE (ns.map bK)) c))) (hx : ev F x = .map (some b)) (hy : ev F y = .int .i64 k) (hu : BUq ns)
    (hk : WL P n os l K (updo F o.dst (.bool (inB ns k))) w) : WL P n os (o :: l) K F w := by
  rcases b_find hu k with ⟨j, h1, _, h3⟩ | ⟨h1, _, h3⟩
  · exact WL.lk hg ho hM i hS hi hx hy rfl h3 (v := .bool (inB ns k)) (by rw [h1]; rfl) hk
  · exact WL.lk hg ho hM i hS hi hx hy rfl h3 (v := .bool (inB ns k)) (by rw [h1]; rfl) hk
/-- a number put into a set -/
theorem WL.muB {o : Oper} {x y qq : Operand} {k : Int} {ns : List (Int × Nat)} (hg : o.guard = none) (hd : o.dst = none) (ho : o.op = .mapUpdate t x y qq) (hM : MapT P t kt (.int .i64) et (.bool false)) (i : Nat) (hS : St g L w) (hi : L[i]? = some (blk b (.map (mE (ns.map bK)) c))) (hx : ev F x = .map (some b)) (hy : ev F y = .int .i64 k) (hq : ev F qq = .bool true) (hu : BUq ns)
    (hk : ∀ ns' q' w', BUq ns' → (∀ z, inB ns' z = true ↔ z = k ∨ inB ns z = true) → St g (L.set i (blk b (.map (mE (List.map bK ns')) q'))) w' → WL P n os l K F w') : WL P n os (o :: l) K F w := by
  rcases b_find hu k with ⟨j, h1, ⟨bn, h2⟩, h3⟩ | ⟨h1, h2, h3⟩
  · have hj : (ns.map bK)[j]? = some (.int .i64 k, .bool true, bn) := by rw [List.getElem?_map, h2]; rfl
    refine WL.muE hg hd ho hM i hS hi hx hy hq rfl h3 hj fun w' hS' => ?_
    have he : (ns.map bK).set j (.int .i64 k, .bool true, bn) = ns.map bK := by
      have hl := (List.getElem?_eq_some_iff.1 hj).1
      have e := (List.getElem?_eq_some_iff.1 hj).2
      rw [← e]; exact List.set_getElem_self _
    rw [he] at hS'
    exact hk ns c w' hu (fun z => ⟨.inr, fun h => h.elim (fun e => by rw [e]; exact h1) id⟩) hS'
  · refine WL.muN hg hd ho hM i hS hi hx hy hq rfl h3 fun w' hS' => ?_
    have he : ns.map bK ++ [(.int .i64 k, .bool true, c)] = (ns ++ [(k, c)]).map bK := by simp [bK]
    rw [he] at hS'
    refine hk (ns ++ [(k, c)]) (c + 1) w' (List.pairwise_append.2 ⟨hu, List.pairwise_singleton _ _, fun a ha b hb => by simp only [List.mem_singleton] at hb; subst hb; exact h2 a ha⟩) (fun z => ?_) hS'
    rw [inB_iff, inB_iff]
    constructor
    · rintro ⟨x, hx, he⟩
      rcases List.mem_append.1 hx with hx | hx
      · exact .inr ⟨x, hx, he⟩
      · simp only [List.mem_singleton] at hx; subst hx; exact .inl he.symm
    · rintro (rfl | ⟨x, hx, he⟩)
      · exact ⟨(z, c), by simp, rfl⟩
      · exact ⟨x, List.mem_append_left _ hx, he⟩
end
/-! ### a table as a function -/
def vw (xs : List VN) (z : Int) : Option (Bool × List Int) := (vfind xs z).map fun x => (x.live, x.ab)
theorem live_vw (xs : List VN) (z : Int) : liveG xs z = ((vw xs z).map (·.1)).getD false := by
  unfold liveG vw; cases vfind xs z <;> rfl
theorem pre_vw (xs : List VN) (z : Int) : preG xs z = (vw xs z).isSome := by
  unfold preG vw; cases vfind xs z <;> rfl
theorem ab_vw (xs : List VN) (z : Int) : abG xs z = ((vw xs z).map (·.2)).getD [] := by
  unfold abG vw; cases vfind xs z <;> rfl
theorem erase_mem {xs : List VN} {j : Nat} {u : VN} (hu : VUq xs) (hj : xs[j]? = some u) (x : VN) : x ∈ xs.eraseIdx j ↔ x ∈ xs ∧ x.n ≠ u.n := by
  induction xs generalizing j with
  | nil => simp at hj
  | cons y t ih =>
    have hp := List.pairwise_cons.1 hu
    cases j with
    | zero =>
      simp at hj; subst hj
      simp only [List.eraseIdx_cons_zero, List.mem_cons]
      constructor
      · exact fun h => ⟨.inr h, fun e => hp.1 x h e.symm⟩
      · rintro ⟨rfl | h, h2⟩
        · exact absurd rfl h2
        · exact h
    | succ j =>
      simp at hj
      have h1 := hp.1 u (List.mem_of_getElem? hj)
      simp only [List.eraseIdx_cons_succ, List.mem_cons, ih hp.2 hj]
      constructor
      · rintro (rfl | ⟨h, h2⟩)
        · exact ⟨.inl rfl, h1⟩
        · exact ⟨.inr h, h2⟩
      · rintro ⟨rfl | h, h2⟩
        · exact .inl rfl
        · exact .inr ⟨h, h2⟩
theorem VUq.find {xs : List VN} (hu : VUq xs) {z : Int} {x : VN} : vfind xs z = some x ↔ x ∈ xs ∧ x.n = z := ⟨vfind_some, fun ⟨h, e⟩ => by subst e; exact vfind_mem h hu⟩
theorem vw_erase {xs : List VN} {j : Nat} {u : VN} (hu : VUq xs) (hj : xs[j]? = some u) (z : Int) : vw (xs.eraseIdx j) z = if z = u.n then none else vw xs z := by
  have hu2 : VUq (xs.eraseIdx j) := hu.sublist (List.eraseIdx_sublist xs j)
  unfold vw
  by_cases hz : z = u.n
  · rw [if_pos hz]
    rw [vfind_out (fun x hx e => ((erase_mem hu hj x).1 hx).2 (by rw [e, hz]))]; rfl
  · rw [if_neg hz]
    congr 1
    cases hf : vfind xs z with
    | none => exact vfind_out fun x hx e => vfind_none.1 hf x ((erase_mem hu hj x).1 hx).1 e
    | some x =>
      obtain ⟨h1, h2⟩ := vfind_some hf
      exact hu2.find.2 ⟨(erase_mem hu hj x).2 ⟨h1, fun e => hz (h2.symm.trans e)⟩, h2⟩
theorem VUq.set {xs : List VN} {j : Nat} {u u' : VN} (hu : VUq xs) (hj : xs[j]? = some u) (hn : u'.n = u.n) : VUq (xs.set j u') := by
  unfold VUq at hu ⊢
  rw [← List.pairwise_map (f := VN.n) (R := fun a b => a ≠ b)] at hu ⊢
  have hl := (List.getElem?_eq_some_iff.1 hj).1
  have he := (List.getElem?_eq_some_iff.1 hj).2
  have : (xs.set j u').map VN.n = xs.map VN.n := by
    rw [List.map_set, hn]
    have h5 : (xs.map VN.n)[j]'(by simpa using hl) = u.n := by simp [he]
    rw [← h5]; exact List.set_getElem_self _
  rw [this]; exact hu
theorem set_mem {xs : List VN} {j : Nat} {u u' : VN} (hu : VUq xs) (hj : xs[j]? = some u) (x : VN) : x ∈ xs.set j u' ↔ x = u' ∨ (x ∈ xs ∧ x.n ≠ u.n) := by
  induction xs generalizing j with
  | nil => simp at hj
  | cons y t ih =>
    have hp := List.pairwise_cons.1 hu
    cases j with
    | zero =>
      simp at hj; subst hj
      simp only [List.set_cons_zero, List.mem_cons]
      constructor
      · rintro (h | h)
        · exact .inl h
        · exact .inr ⟨.inr h, fun e => hp.1 x h e.symm⟩
      · rintro (h | ⟨rfl | h, h2⟩)
        · exact .inl h
        · exact absurd rfl h2
        · exact .inr h
    | succ j =>
      simp at hj
      have h1 := hp.1 u (List.mem_of_getElem? hj)
      simp only [List.set_cons_succ, List.mem_cons, ih hp.2 hj]
      constructor
      · rintro (rfl | h | ⟨h, h2⟩)
        · exact .inr ⟨.inl rfl, h1⟩
        · exact .inl h
        · exact .inr ⟨.inr h, h2⟩
      · rintro (h | ⟨rfl | h, h2⟩)
        · exact .inr (.inl h)
        · exact .inl rfl
        · exact .inr (.inr ⟨h, h2⟩)
theorem vw_set {xs : List VN} {j : Nat} {u u' : VN} (hu : VUq xs) (hj : xs[j]? = some u) (hn : u'.n = u.n) (z : Int) : vw (xs.set j u') z = if z = u.n then some (u'.live, u'.ab) else vw xs z := by
  have hu2 := hu.set hj hn
  unfold vw
  by_cases hz : z = u.n
  · rw [if_pos hz, hu2.find.2 ⟨(set_mem hu hj u').2 (.inl rfl), hn.trans hz.symm⟩]; rfl
  · rw [if_neg hz]
    congr 1
    cases hf : vfind xs z with
    | none =>
      refine vfind_out fun x hx e => ?_
      rcases (set_mem hu hj x).1 hx with rfl | ⟨h, _⟩
      · exact hz (e.symm.trans hn)
      · exact vfind_none.1 hf x h e
    | some x =>
      obtain ⟨h1, h2⟩ := vfind_some hf
      exact hu2.find.2 ⟨(set_mem hu hj x).2 (.inr ⟨h1, fun e => hz (h2.symm.trans e)⟩), h2⟩
theorem VOk.rem {xs : List VN} {q : Nat} (h : VOk xs q) (j : Nat) : VOk (xs.eraseIdx j) q := by
  have hs := List.eraseIdx_sublist xs j
  exact ⟨h.uniq.sublist hs, fun x hx => h.born x (hs.subset hx), h.bnd.sublist (hs.map _), fun x hx => h.rng x (hs.subset hx), Nat.le_trans hs.length_le h.num⟩
theorem VOk.set {xs : List VN} {q j : Nat} {u u' : VN} (h : VOk xs q) (hj : xs[j]? = some u) (hn : u'.n = u.n) (hb : u'.born = u.born) : VOk (xs.set j u') q := by
  have hm := List.mem_of_getElem? hj
  have hl := (List.getElem?_eq_some_iff.1 hj).1
  have he := (List.getElem?_eq_some_iff.1 hj).2
  have hmem : ∀ x ∈ xs.set j u', x = u' ∨ x ∈ xs := fun x hx => (List.mem_or_eq_of_mem_set hx).symm
  refine ⟨h.uniq.set hj hn, fun x hx => ?_, ?_, fun x hx => ?_, by rw [List.length_set]; exact h.num⟩
  · rcases hmem x hx with rfl | hx
    · rw [hb]; exact h.born u hm
    · exact h.born x hx
  · have : (xs.set j u').map VN.born = xs.map VN.born := by
      rw [List.map_set, hb]
      have h5 : (xs.map VN.born)[j]'(by simpa using hl) = u.born := by simp [he]
      rw [← h5]; exact List.set_getElem_self _
    rw [this]; exact h.bnd
  · rcases hmem x hx with rfl | hx
    · rw [hn]; exact h.rng u hm
    · exact h.rng x hx
end Go.V

/-! ## Gn -/
namespace Go.V
open Go Go.RowKit

def needG (xs : List VN) (z : Int) : Prop := liveG xs z = true ∨ (0 < z ∧ ∃ x y, liveG xs x = true ∧ liveG xs y = true ∧ x < y ∧ baseG xs x y = z)
theorem fl_skip {f : Int → Bool} {ss : List Int} {k : Nat} {n : Int} (h : ss[k]? = some n) (hf : f n = false) : (ss.take (k + 1)).filter f = (ss.take k).filter f := by
  rw [List.take_add_one, h, List.filter_append]; simp [hf]
theorem fl_take {f : Int → Bool} {ss : List Int} {k : Nat} {n : Int} (h : ss[k]? = some n) (hf : f n = true) : (ss.take (k + 1)).filter f = (ss.take k).filter f ++ [n] := by
  rw [List.take_add_one, h, List.filter_append]; simp [hf]
theorem need_next {xs : List VN} {ns ns2 : List (Int × Nat)} {lv : List Int} {n : Int} (h1 : ∀ z, inB ns z = true ↔ z ∈ lv ∨ (0 < z ∧ ∃ x ∈ lv, ∃ y ∈ lv, x < y ∧ baseG xs x y = z)) (h2 : ∀ z, inB ns2 z = true ↔ z = n ∨ inB ns z = true ∨ (0 < z ∧ ∃ x ∈ lv, baseG xs x n = z)) (hlt : ∀ x ∈ lv, x < n) :
    ∀ z, inB ns2 z = true ↔ z ∈ lv ++ [n] ∨ (0 < z ∧ ∃ x ∈ lv ++ [n], ∃ y ∈ lv ++ [n], x < y ∧ baseG xs x y = z) := fun z => by
  rw [h2, h1]
  constructor
  · rintro (rfl | (h | ⟨h, x, hx, y, hy, hxy, he⟩) | ⟨h, x, hx, he⟩)
    · exact .inl (by simp)
    · exact .inl (List.mem_append_left _ h)
    · exact .inr ⟨h, x, List.mem_append_left _ hx, y, List.mem_append_left _ hy, hxy, he⟩
    · exact .inr ⟨h, x, List.mem_append_left _ hx, n, by simp, hlt x hx, he⟩
  · rintro (h | ⟨h, x, hx, y, hy, hxy, he⟩)
    · rcases List.mem_append.1 h with h | h
      · exact .inr (.inl (.inl h))
      · exact .inl (List.mem_singleton.1 h)
    · rcases List.mem_append.1 hx with hx | hx
      · rcases List.mem_append.1 hy with hy | hy
        · exact .inr (.inl (.inr ⟨h, x, hx, y, hy, hxy, he⟩))
        · rw [List.mem_singleton.1 hy] at he; exact .inr (.inr ⟨h, x, hx, he⟩)
      · rw [List.mem_singleton.1 hx] at hxy
        rcases List.mem_append.1 hy with hy | hy
        · have := hlt y hy; omega
        · rw [List.mem_singleton.1 hy] at hxy; omega
theorem need_in {xs : List VN} {a b ns : List (Int × Nat)} {lv : List Int} {n x : Int} {k : Nat} (h : ∀ z, inB a z = true ↔ z = n ∨ inB ns z = true ∨ (0 < z ∧ ∃ x ∈ lv.take k, baseG xs x n = z)) (hx : lv[k]? = some x) (hp : 0 < baseG xs x n) (h2 : ∀ z, inB b z = true ↔ z = baseG xs x n ∨ inB a z = true) :
    ∀ z, inB b z = true ↔ z = n ∨ inB ns z = true ∨ (0 < z ∧ ∃ x ∈ lv.take (k + 1), baseG xs x n = z) := fun z => by
  rw [h2, h, List.take_add_one, hx]
  constructor
  · rintro (rfl | h | h | ⟨h, y, hy, he⟩)
    · exact .inr (.inr ⟨hp, x, by simp, rfl⟩)
    · exact .inl h
    · exact .inr (.inl h)
    · exact .inr (.inr ⟨h, y, List.mem_append_left _ hy, he⟩)
  · rintro (h | h | ⟨h, y, hy, he⟩)
    · exact .inr (.inl h)
    · exact .inr (.inr (.inl h))
    · rcases List.mem_append.1 hy with hy | hy
      · exact .inr (.inr (.inr ⟨h, y, hy, he⟩))
      · simp at hy; subst hy; exact .inl he.symm
theorem need_in0 {xs : List VN} {a ns : List (Int × Nat)} {lv : List Int} {n x : Int} {k : Nat} (h : ∀ z, inB a z = true ↔ z = n ∨ inB ns z = true ∨ (0 < z ∧ ∃ x ∈ lv.take k, baseG xs x n = z)) (hx : lv[k]? = some x) (hp : ¬ 0 < baseG xs x n) :
    ∀ z, inB a z = true ↔ z = n ∨ inB ns z = true ∨ (0 < z ∧ ∃ x ∈ lv.take (k + 1), baseG xs x n = z) := fun z => by
  rw [h, List.take_add_one, hx]
  constructor
  · rintro (h | h | ⟨h, y, hy, he⟩)
    · exact .inl h
    · exact .inr (.inl h)
    · exact .inr (.inr ⟨h, y, List.mem_append_left _ hy, he⟩)
  · rintro (h | h | ⟨h, y, hy, he⟩)
    · exact .inl h
    · exact .inr (.inl h)
    · rcases List.mem_append.1 hy with hy | hy
      · exact .inr (.inr ⟨h, y, hy, he⟩)
      · simp at hy; subst hy; omega
/-- the keys, ascending -/
structure Keys (xs : List VN) (ss : List Int) : Prop where
  perm : ss.Perm (xs.map VN.n)
  asc : Asc ss
theorem Keys.le {xs : List VN} {ss : List Int} (h : Keys xs ss) : ss.Pairwise (· ≤ ·) := h.asc.imp fun h => by omega
theorem Keys.mem {xs : List VN} {ss : List Int} (h : Keys xs ss) (z : Int) : z ∈ ss ↔ preG xs z = true := by
  rw [h.perm.mem_iff, pre_iff, List.mem_map]
theorem keys_ex {xs : List VN} (hu : VUq xs) : ∃ ss, Keys xs ss := by
  refine ⟨srtI (xs.map VN.n), srtI_perm _, ?_⟩
  have h1 : (srtI (xs.map VN.n)).Nodup := (srtI_perm _).nodup_iff.2 (List.pairwise_map.2 hu)
  exact (List.pairwise_and_iff.2 ⟨srtI_le (xs.map VN.n), h1⟩).imp fun ⟨h, k⟩ => by omega
theorem Keys.uq {xs : List VN} {ss ss' : List Int} (h : Keys xs ss) (h' : Keys xs ss') : ss = ss' :=
  List.Perm.eq_of_pairwise (le := fun a b : Int => a ≤ b) (fun a b _ _ h1 h2 => by omega) h.le h'.le (h.perm.trans h'.perm.symm)
theorem take_lt {ss : List Int} (h : Asc ss) {k : Nat} {n : Int} (hn : ss[k]? = some n) : ∀ x ∈ ss.take k, x < n := fun x hx => by
  obtain ⟨i, hi⟩ := List.mem_iff_getElem?.1 hx
  rw [List.getElem?_take] at hi
  split at hi
  · rename_i hlt
    have h1 := (List.getElem?_eq_some_iff.1 hi).1
    have h2 := (List.getElem?_eq_some_iff.1 hn).1
    have h3 := List.pairwise_iff_getElem.1 h i k h1 h2 hlt
    rw [(List.getElem?_eq_some_iff.1 hi).2, (List.getElem?_eq_some_iff.1 hn).2] at h3
    exact h3
  · cases hi
theorem need_end {xs : List VN} {ss : List Int} {ns : List (Int × Nat)} (hK : Keys xs ss) (h : ∀ z, inB ns z = true ↔ z ∈ ss.filter (liveG xs) ∨ (0 < z ∧ ∃ x ∈ ss.filter (liveG xs), ∃ y ∈ ss.filter (liveG xs), x < y ∧ baseG xs x y = z)) : ∀ z, inB ns z = true ↔ needG xs z := fun z => by
  have hm : ∀ z, z ∈ ss.filter (liveG xs) ↔ liveG xs z = true := fun z => by
    rw [List.mem_filter]
    exact ⟨fun h => h.2, fun h => ⟨(hK.mem z).2 (live_pre h), h⟩⟩
  rw [h, hm]
  constructor
  · rintro (h | ⟨h, x, hx, y, hy, hxy, he⟩)
    · exact .inl h
    · exact .inr ⟨h, x, y, (hm x).1 hx, (hm y).1 hy, hxy, he⟩
  · rintro (h | ⟨h, x, y, hx, hy, hxy, he⟩)
    · exact .inl h
    · exact .inr ⟨h, x, (hm x).2 hx, y, (hm y).2 hy, hxy, he⟩
end Go.V

/-! ## Gr -/
namespace Go.V
open Go Go.RowKit

/-- a graph as a function from numbers -/
structure GF (f : Int → Option (Bool × List Int)) : Prop where
  asc : ∀ z l a, f z = some (l, a) → Asc a
  self : ∀ z l a, f z = some (l, a) → z ∈ a
  le : ∀ z l a, f z = some (l, a) → ∀ u ∈ a, u ≤ z
  pre : ∀ z l a, f z = some (l, a) → ∀ u ∈ a, (f u).isSome = true
  tr : ∀ z l a, f z = some (l, a) → ∀ u ∈ a, ∀ l' a', f u = some (l', a') → ∀ t ∈ a', t ∈ a
theorem vw_some {xs : List VN} {z : Int} {l : Bool} {a : List Int} (h : vw xs z = some (l, a)) : ∃ x, vfind xs z = some x ∧ x.live = l ∧ x.ab = a := by
  unfold vw at h
  cases hf : vfind xs z with
  | none => rw [hf] at h; cases h
  | some x => rw [hf] at h; simp at h; exact ⟨x, rfl, h.1, h.2⟩
theorem vw_mem {xs : List VN} (hu : VUq xs) {x : VN} (hx : x ∈ xs) : vw xs x.n = some (x.live, x.ab) := by unfold vw; rw [vfind_mem hx hu]; rfl
theorem GOk.gf {xs : List VN} {q : Nat} (h : GOk xs q) : GF (vw xs) := by
  refine ⟨fun z l a hz => ?_, fun z l a hz => ?_, fun z l a hz => ?_, fun z l a hz u hu => ?_, fun z l a hz u hu l' a' hu' t ht => ?_⟩
  all_goals obtain ⟨x, hx, rfl, rfl⟩ := vw_some hz
  all_goals obtain ⟨h1, h2⟩ := vfind_some hx
  · exact h.asc x h1
  · subst h2; exact h.self x h1
  · subst h2; exact h.le x h1
  · rw [← pre_vw]; exact h.pre x h1 u hu
  · refine h.tr x h1 u hu t ?_
    rw [ab_vw, hu']; exact ht
theorem GF.gok {xs : List VN} {q : Nat} (h : GF (vw xs)) (hv : VOk xs q) : GOk xs q := by
  refine ⟨hv, fun x hx => ?_, fun x hx => ?_, fun x hx => ?_, fun x hx z hz => ?_, fun x hx z hz u hu => ?_⟩
  · exact h.asc _ _ _ (vw_mem hv.uniq hx)
  · exact h.self _ _ _ (vw_mem hv.uniq hx)
  · exact h.le _ _ _ (vw_mem hv.uniq hx)
  · rw [pre_vw]; exact h.pre _ _ _ (vw_mem hv.uniq hx) z hz
  · rw [ab_vw] at hu
    cases hf : vw xs z with
    | none => rw [hf] at hu; cases hu
    | some p => rw [hf] at hu; exact h.tr _ _ _ (vw_mem hv.uniq hx) z hz p.1 p.2 hf u hu
/-- what is kept of a graph -/
def keep (N : Int → Bool) (f : Int → Option (Bool × List Int)) (z : Int) : Option (Bool × List Int) := if N z = true then (f z).map fun p => (p.1, p.2.filter N) else none
theorem keep_some {N : Int → Bool} {f : Int → Option (Bool × List Int)} {z : Int} {l : Bool} {a : List Int} (h : keep N f z = some (l, a)) : N z = true ∧ ∃ a0, f z = some (l, a0) ∧ a = a0.filter N := by
  unfold keep at h
  split at h
  · rename_i hN
    cases hf : f z with
    | none => rw [hf] at h; cases h
    | some p => rw [hf] at h; simp at h; exact ⟨hN, p.2, by rw [← h.1], h.2.symm⟩
  · cases h
theorem GF.keep {f : Int → Option (Bool × List Int)} (h : GF f) (N : Int → Bool) : GF (keep N f) := by
  refine ⟨fun z l a hz => ?_, fun z l a hz => ?_, fun z l a hz => ?_, fun z l a hz u hu => ?_, fun z l a hz u hu l' a' hu' t ht => ?_⟩
  all_goals obtain ⟨hN, a0, h0, rfl⟩ := keep_some hz
  · exact (h.asc z l a0 h0).sublist List.filter_sublist
  · exact List.mem_filter.2 ⟨h.self z l a0 h0, hN⟩
  · exact fun u hu => h.le z l a0 h0 u (List.mem_filter.1 hu).1
  · obtain ⟨h1, h2⟩ := List.mem_filter.1 hu
    have h3 := h.pre z l a0 h0 u h1
    unfold Go.V.keep
    rw [if_pos h2]
    cases hf : f u with
    | none => rw [hf] at h3; cases h3
    | some p => rfl
  · obtain ⟨_, a1, h1, rfl⟩ := keep_some hu'
    obtain ⟨h2, h3⟩ := List.mem_filter.1 ht
    exact List.mem_filter.2 ⟨h.tr z l a0 h0 u (List.mem_filter.1 hu).1 l' a1 h1 t h2, h3⟩
/-- one version is not live any more -/
def dead (f : Int → Option (Bool × List Int)) (n : Int) (z : Int) : Option (Bool × List Int) := if z = n then (f z).map fun p => (false, p.2) else f z
theorem dead_some {f : Int → Option (Bool × List Int)} {n z : Int} {l : Bool} {a : List Int} (h : dead f n z = some (l, a)) : ∃ l0, f z = some (l0, a) := by
  unfold dead at h
  split at h
  · cases hf : f z with
    | none => rw [hf] at h; cases h
    | some p => rw [hf] at h; simp at h; exact ⟨p.1, by rw [← h.2]⟩
  · exact ⟨l, h⟩
theorem dead_iss (f : Int → Option (Bool × List Int)) (n z : Int) : (dead f n z).isSome = (f z).isSome := by
  unfold dead; split
  · cases f z <;> rfl
  · rfl
theorem GF.dead {f : Int → Option (Bool × List Int)} (h : GF f) (n : Int) : GF (dead f n) := by
  refine ⟨fun z l a hz => ?_, fun z l a hz => ?_, fun z l a hz => ?_, fun z l a hz u hu => ?_, fun z l a hz u hu l' a' hu' t ht => ?_⟩
  all_goals obtain ⟨l0, h0⟩ := dead_some hz
  · exact h.asc z l0 a h0
  · exact h.self z l0 a h0
  · exact h.le z l0 a h0
  · rw [dead_iss]; exact h.pre z l0 a h0 u hu
  · obtain ⟨l1, h1⟩ := dead_some hu'
    exact h.tr z l0 a h0 u hu l1 a' h1 t ht
/-- a release: first the version is dead, then what is needed is kept -/
def RelP (xs : List VN) (n : Int) (xs2 : List VN) : Prop := ∃ (xs1 : List VN) (N : Int → Bool), (∀ z, vw xs1 z = dead (vw xs) n z) ∧ (∀ z, N z = true ↔ needG xs1 z) ∧ ∀ z, vw xs2 z = keep N (vw xs1) z
theorem dead_set {xs : List VN} {k : Nat} {x : VN} (hu : VUq xs) (hx : xs[k]? = some x) : ∀ z, vw (xs.set k (VN.mk x.n false x.ab x.a x.c x.born)) z = dead (vw xs) x.n z := fun z => by
  rw [vw_set (u' := VN.mk x.n false x.ab x.a x.c x.born) hu hx rfl]
  unfold dead
  split
  · rename_i he; subst he; rw [vw_mem hu (List.mem_of_getElem? hx)]; rfl
  · rfl
/-- half way through the loop -/
def half (N : Int → Bool) (f : Int → Option (Bool × List Int)) (D : List Int) (z : Int) : Option (Bool × List Int) := if z ∈ D then keep N f z else f z
theorem half_del {N : Int → Bool} {f : Int → Option (Bool × List Int)} {ss : List Int} {k : Nat} {n : Int} {cur : List VN} {j : Nat} {u : VN} (hu : VUq cur) (hj : cur[j]? = some u) (hn : u.n = n) (hk : ss[k]? = some n) (h : ∀ z, vw cur z = half N f (ss.take k) z) (hN : N n = false) :
    ∀ z, vw (cur.eraseIdx j) z = half N f (ss.take (k + 1)) z := fun z => by
  subst hn
  rw [vw_erase hu hj, h]
  unfold half
  rw [List.take_add_one, hk]
  by_cases hz : z = u.n
  · subst hz
    rw [if_pos rfl, if_pos (by simp)]
    unfold keep
    rw [if_neg (by rw [hN]; decide)]
  · rw [if_neg hz]
    have : (z ∈ ss.take k ++ (some u.n).toList) ↔ z ∈ ss.take k := by simp [hz]
    by_cases hm : z ∈ ss.take k
    · rw [if_pos hm, if_pos (this.2 hm)]
    · rw [if_neg hm, if_neg (fun h => hm (this.1 h))]
theorem half_set {N : Int → Bool} {f : Int → Option (Bool × List Int)} {ss : List Int} {k : Nat} {n : Int} {cur : List VN} {j : Nat} {u u' : VN} (hu : VUq cur) (hj : cur[j]? = some u) (hn : u.n = n) (hk : ss[k]? = some n) (h : ∀ z, vw cur z = half N f (ss.take k) z) (hN : N n = true) (hnk : n ∉ ss.take k) (hu1 : u'.n = u.n) (hu2 : u'.live = u.live) (hu3 : u'.ab = u.ab.filter N) :
    ∀ z, vw (cur.set j u') z = half N f (ss.take (k + 1)) z := fun z => by
  subst hn
  have h0 := h u.n
  rw [vw_mem hu (List.mem_of_getElem? hj)] at h0
  unfold half at h0
  rw [if_neg hnk] at h0
  rw [vw_set hu hj hu1, h]
  unfold half
  rw [List.take_add_one, hk]
  by_cases hz : z = u.n
  · subst hz
    rw [if_pos rfl, if_pos (by simp)]
    unfold keep
    rw [if_pos hN, ← h0, hu2, hu3]; rfl
  · rw [if_neg hz]
    have : (z ∈ ss.take k ++ (some u.n).toList) ↔ z ∈ ss.take k := by simp [hz]
    by_cases hm : z ∈ ss.take k
    · rw [if_pos hm, if_pos (this.2 hm)]
    · rw [if_neg hm, if_neg (fun h => hm (this.1 h))]
theorem half_end {N : Int → Bool} {xs1 : List VN} {ss : List Int} (hK : Keys xs1 ss) (z : Int) : half N (vw xs1) ss z = keep N (vw xs1) z := by
  unfold half
  by_cases hm : z ∈ ss
  · rw [if_pos hm]
  · rw [if_neg hm]
    have h1 : vw xs1 z = none := by
      cases hv : vw xs1 z with
      | none => rfl
      | some p => exact absurd ((hK.mem z).2 (by rw [pre_vw, hv]; rfl)) hm
    unfold keep
    rw [h1]; split <;> rfl
theorem half_at {N : Int → Bool} {xs1 cur : List VN} {ss : List Int} (hK : Keys xs1 ss) {k : Nat} {n : Int} (hn : ss[k]? = some n) (h : ∀ z, vw cur z = half N (vw xs1) (ss.take k) z) : n ∉ ss.take k ∧ ∃ (j : Nat) (u : VN), cur[j]? = some u ∧ u.n = n ∧ vw xs1 n = some (u.live, u.ab) := by
  have h1 : n ∉ ss.take k := fun hm => by have := take_lt hK.asc hn n hm; omega
  refine ⟨h1, ?_⟩
  have h2 := h n
  unfold half at h2
  rw [if_neg h1] at h2
  have h3 : (vw xs1 n).isSome = true := by rw [← pre_vw]; exact (hK.mem n).1 (List.mem_of_getElem? hn)
  rw [← h2] at h3
  cases hv : vw cur n with
  | none => rw [hv] at h3; cases h3
  | some p =>
    obtain ⟨x, hx, e1, e2⟩ := vw_some (l := p.1) (a := p.2) hv
    obtain ⟨hm, hxn⟩ := vfind_some hx
    obtain ⟨j, hj⟩ := List.mem_iff_getElem?.1 hm
    exact ⟨j, x, hj, hxn, by rw [← h2, hv, e1, e2]⟩
theorem St.shsMap {α : Type} {f : α → List HP} {zs zs' : List α} {g w : World} {L : List HP} (h : St g (Shs f zs :: L) w) (hs : ∀ z ∈ zs', ∃ y ∈ zs, f z = f y) : St g (Shs f zs' :: L) w := h.impl fun _ _ hh z hz => by
  obtain ⟨y, hy, e⟩ := hs z hz
  rw [e]; exact hh y hy
end Go.V

/-! ## Ga -/
namespace Go.V
open Go Go.RowKit

/-- parents that Add takes, as far as their number goes -/
def okPs (ps : List Int) : Prop := ps.length ≤ 2 ∧ ∀ x y, ps = [x, y] → x ≠ y
instance (ps : List Int) : Decidable (okPs ps) := match ps with
  | [] => isTrue ⟨by simp, fun _ _ h => by cases h⟩
  | [_] => isTrue ⟨by simp, fun _ _ h => by cases h⟩
  | [x, y] => if h : x = y then isFalse (fun k => k.2 x y rfl h) else isTrue ⟨by simp, fun _ _ e => by cases e; exact h⟩
  | _ :: _ :: _ :: _ => isFalse (fun k => by have := k.1; simp at this)
theorem okPs_ne {ps : List Int} (h : okPs ps) {x y : Int} (h0 : ps[0]? = some x) (h1 : ps[1]? = some y) : x ≠ y := by
  have hl := h.1
  match ps, hl, h0, h1 with
  | [], _, h0, _ => cases h0
  | [_], _, _, h1 => cases h1
  | [u, v], _, h0, h1 => simp at h0 h1; subst h0; subst h1; exact h.2 _ _ rfl
theorem okPs_no {ps : List Int} (h : ¬ okPs ps) : 2 < ps.length ∨ ∃ x, ps = [x, x] := by
  match ps, h with
  | [], h => exact absurd ⟨by simp, fun _ _ h => by cases h⟩ h
  | [_], h => exact absurd ⟨by simp, fun _ _ h => by cases h⟩ h
  | [x, y], h =>
    by_cases he : x = y
    · subst he; exact .inr ⟨x, rfl⟩
    · exact absurd ⟨by simp, fun _ _ e => by cases e; exact he⟩ h
  | _ :: _ :: _ :: _, _ => exact .inl (by simp)
structure GI (xs : List VN) (q : Nat) (cap last : Int) : Prop where
  ok : GOk xs q
  le : ∀ x ∈ xs, x.n ≤ last
  la : 0 ≤ last
  cp : 1 ≤ cap ∧ cap ≤ 4096
def addE (xs : List VN) (cap : Int) (ps : List Int) : Int :=
  if ¬ okPs ps then 1 else if ¬ (∀ z ∈ ps, liveG xs z = true) then 4 else if cap ≤ xs.length then 2 else 0
def addV (xs : List VN) (cap last : Int) (ps : List Int) : Int := if addE xs cap ps = 0 then last + 1 else 0
def AddP (xs : List VN) (cap last : Int) (ps : List Int) (xs2 : List VN) (last2 : Int) : Prop :=
  (addE xs cap ps ≠ 0 ∧ xs2 = xs ∧ last2 = last) ∨ (addE xs cap ps = 0 ∧ last2 = last + 1 ∧ ∃ vn : VN, xs2 = xs ++ [vn] ∧ vn.n = last + 1 ∧ vn.live = true ∧ Asc vn.ab ∧ ∀ z, z ∈ vn.ab ↔ z ∈ newAb xs (last + 1) ps)
def relE (xs : List VN) (n : Int) : Int := if liveG xs n = true then 0 else 4
def RelQ (xs : List VN) (n : Int) (xs2 : List VN) : Prop := (liveG xs n = true ∧ RelP xs n xs2) ∨ (liveG xs n = false ∧ xs2 = xs)
theorem first_dead {xs : List VN} : ∀ {ps : List Int}, ¬ (∀ z ∈ ps, liveG xs z = true) → ∃ (i : Nat) (b : Int), ps[i]? = some b ∧ liveG xs b = false ∧ ∀ j, j < i → ∀ y, ps[j]? = some y → liveG xs y = true
  | [], h => absurd (fun _ hz => by cases hz) h
  | p :: ps, h => by
    cases hp : liveG xs p with
    | false => exact ⟨0, p, rfl, hp, fun j hj => by omega⟩
    | true =>
      obtain ⟨i, b, hi, hb, hlt⟩ := first_dead (ps := ps) fun h2 => h fun z hz => by
        rcases List.mem_cons.1 hz with rfl | hz
        · exact hp
        · exact h2 z hz
      refine ⟨i + 1, b, by simpa using hi, hb, fun j hj y hy => ?_⟩
      cases j with
      | zero => simp at hy; subst hy; exact hp
      | succ j => exact hlt j (by omega) y (by simpa using hy)
theorem addE_ok {xs : List VN} {cap : Int} {ps : List Int} (h1 : okPs ps) (h2 : ∀ z ∈ ps, liveG xs z = true) (h3 : ¬ cap ≤ xs.length) : addE xs cap ps = 0 := by
  unfold addE
  rw [if_neg (fun h => h h1), if_neg (fun h => h h2), if_neg h3]
theorem addE_full {xs : List VN} {cap : Int} {ps : List Int} (h1 : okPs ps) (h2 : ∀ z ∈ ps, liveG xs z = true) (h3 : cap ≤ xs.length) : addE xs cap ps = 2 := by
  unfold addE
  rw [if_neg (fun h => h h1), if_neg (fun h => h h2), if_pos h3]
theorem keys_len {xs : List VN} {ss : List Int} (h : ss.Perm (xs.map VN.n)) : ss.length = xs.length := by simpa using h.length_eq
theorem addE_inv {xs : List VN} {cap : Int} {ps : List Int} (h : addE xs cap ps = 0) : okPs ps ∧ (∀ z ∈ ps, liveG xs z = true) ∧ (xs.length : Int) < cap := by
  unfold addE at h
  split at h
  · omega
  · rename_i h1
    split at h
    · omega
    · rename_i h2
      split at h
      · omega
      · rename_i h3
        exact ⟨Classical.not_not.1 h1, Classical.not_not.1 h2, by omega⟩
theorem vw_none {xs : List VN} {z : Int} : vw xs z = none ↔ ∀ x ∈ xs, x.n ≠ z := by
  rw [← vfind_none]
  unfold vw
  cases vfind xs z <;> simp
theorem vw_app {xs : List VN} {v : VN} (hn : ∀ x ∈ xs, x.n ≠ v.n) (z : Int) : vw (xs ++ [v]) z = if z = v.n then some (v.live, v.ab) else vw xs z := by
  unfold vw
  rw [vfind_app hn]
  split <;> rfl
theorem RelP.le {xs xs2 : List VN} {n last : Int} (hu : VUq xs2) (h : RelP xs n xs2) (hl : ∀ x ∈ xs, x.n ≤ last) : ∀ x ∈ xs2, x.n ≤ last := fun x hx => by
  obtain ⟨xs1, N, h1, _, h3⟩ := h
  have h4 := vw_mem hu hx
  rw [h3] at h4
  obtain ⟨_, a0, h5, _⟩ := keep_some h4
  rw [h1] at h5
  obtain ⟨l0, h6⟩ := dead_some h5
  obtain ⟨y, hy, _, _⟩ := vw_some h6
  obtain ⟨h7, h8⟩ := vfind_some hy
  rw [← h8]; exact hl y h7
theorem asc_ext {l m : List Int} (hl : Asc l) (hm : Asc m) (h : ∀ z, z ∈ l ↔ z ∈ m) : l = m :=
  List.Perm.eq_of_pairwise (le := fun a b : Int => a ≤ b) (fun a b _ _ h1 h2 => by omega) (hl.imp fun h => by omega) (hm.imp fun h => by omega) ((List.perm_ext_iff_of_nodup hl.nodup hm.nodup).2 h)
/-- Add, as functions say it -/
theorem AddP.vw {xs xs2 : List VN} {cap last last2 : Int} {ps : List Int} (h : AddP xs cap last ps xs2 last2) (hl : ∀ x ∈ xs, x.n ≤ last) (h0 : addE xs cap ps = 0) : last2 = last + 1 ∧ xs2.length = xs.length + 1 ∧ ∃ ab, Asc ab ∧ (∀ z, z ∈ ab ↔ z ∈ newAb xs (last + 1) ps) ∧ ∀ z, Go.V.vw xs2 z = if z = last + 1 then some (true, ab) else Go.V.vw xs z := by
  rcases h with ⟨h, _⟩ | ⟨_, h2, v, rfl, h4, h5, h6, h7⟩
  · exact absurd h0 h
  · refine ⟨h2, by simp, v.ab, h6, h7, fun z => ?_⟩
    rw [vw_app (fun x hx e => by have := hl x hx; omega), h4, h5]
theorem AddP.bnd {xs xs2 : List VN} {cap last last2 : Int} {ps : List Int} (h : AddP xs cap last ps xs2 last2) : last ≤ last2 ∧ last2 ≤ last + 1 := by
  rcases h with ⟨_, _, h⟩ | ⟨_, h, _⟩ <;> omega
theorem awake_ok {xs1 xs2 xs3 xs4 : List VN} {q1 q2 q4 : Nat} {l1 l2 l3 : Int} (i1 : GI xs1 q1 9 l1) (i2 : GI xs2 q2 9 l2) (i4 : GI xs4 q4 9 l3)
    (a1 : AddP [] 9 0 [] xs1 l1) (a2 : AddP xs1 9 l1 [1] xs2 l2) (a3 : AddP xs2 9 l2 [1] xs3 l3) (r : RelQ xs3 1 xs4) :
    addV [] 9 0 [] = 1 ∧ addV xs1 9 l1 [1] = 2 ∧ addV xs2 9 l2 [1] = 3 ∧ relE xs3 1 = 0 ∧ baseG xs4 2 3 = 1 ∧ ∀ ss, Keys xs4 ss → ss = [1, 2, 3] := by
  have o1 : okPs [] := by decide
  have o2 : okPs [1] := by decide
  have e1 : addE [] 9 [] = 0 := addE_ok o1 (fun _ h => by cases h) (by simp)
  obtain ⟨rfl, n1, b1, c1, d1, f1⟩ := a1.vw (fun _ h => by cases h) e1
  have hb1 : b1 = [1] := asc_ext c1 (List.pairwise_singleton _ _) fun z => by rw [d1]; simp [newAb]
  subst hb1
  have g1 : ∀ z, vw xs1 z = if z = 1 then some (true, [1]) else none := f1
  have e2 : addE xs1 9 [1] = 0 := addE_ok o2 (fun z hz => by
    rw [List.mem_singleton.1 hz, live_vw, g1]; rfl) (by rw [n1]; simp)
  obtain ⟨rfl, n2, b2, c2, d2, f2⟩ := a2.vw i1.le e2
  have hb2 : b2 = [1, 2] := asc_ext c2 (by unfold Asc; simp) fun z => by
    rw [d2]
    simp only [newAb, List.flatMap_cons, List.flatMap_nil, ab_vw, g1]
    simp [or_comm]
  subst hb2
  have g2 : ∀ z, vw xs2 z = if z = 2 then some (true, [1, 2]) else if z = 1 then some (true, [1]) else none := fun z => by rw [f2, g1]; rfl
  have e3 : addE xs2 9 [1] = 0 := addE_ok o2 (fun z hz => by
    rw [List.mem_singleton.1 hz, live_vw, g2]; rfl) (by rw [n2, n1]; simp)
  obtain ⟨rfl, n3, b3, c3, d3, f3⟩ := a3.vw i2.le e3
  have hb3 : b3 = [1, 3] := asc_ext c3 (by unfold Asc; simp) fun z => by
    rw [d3]
    simp only [newAb, List.flatMap_cons, List.flatMap_nil, ab_vw, g2]
    simp [or_comm]
  subst hb3
  have g3 : ∀ z, vw xs3 z = if z = 3 then some (true, [1, 3]) else if z = 2 then some (true, [1, 2]) else if z = 1 then some (true, [1]) else none := fun z => by rw [f3, g2]; rfl
  have hl : liveG xs3 1 = true := by rw [live_vw, g3]; rfl
  rcases r with ⟨_, xs5, N, k1, k2, k3⟩ | ⟨h, _⟩
  · have g5 : ∀ z, vw xs5 z = if z = 3 then some (true, [1, 3]) else if z = 2 then some (true, [1, 2]) else if z = 1 then some (false, [1]) else none := fun z => by
      rw [k1, dead, g3]
      by_cases h1 : z = 1
      · subst h1; rfl
      · rw [if_neg h1, if_neg h1, if_neg h1]
    have lv2 : liveG xs5 2 = true := by rw [live_vw, g5]; rfl
    have lv3 : liveG xs5 3 = true := by rw [live_vw, g5]; rfl
    have bs : baseG xs5 2 3 = 1 := by rw [baseG, if_pos ⟨lv2, lv3⟩, ab_vw, ab_vw, g5, g5]; decide
    have N1 : N 1 = true := (k2 1).2 (.inr ⟨by decide, 2, 3, lv2, lv3, by decide, bs⟩)
    have N2 : N 2 = true := (k2 2).2 (.inl lv2)
    have N3 : N 3 = true := (k2 3).2 (.inl lv3)
    have g4 : ∀ z, vw xs4 z = if z = 3 then some (true, [1, 3]) else if z = 2 then some (true, [1, 2]) else if z = 1 then some (false, [1]) else none := fun z => by
      rw [k3, keep, g5]
      by_cases h3 : z = 3
      · subst h3; simp [N1, N3]
      · by_cases h2 : z = 2
        · subst h2; simp [N1, N2]
        · by_cases h1 : z = 1
          · subst h1; simp [N1]
          · simp [h1, h2, h3]
    refine ⟨by rw [addV, if_pos e1]; rfl, by rw [addV, if_pos e2]; rfl, by rw [addV, if_pos e3]; rfl, by rw [relE, if_pos hl], ?_, fun ss hK => asc_ext hK.asc (by unfold Asc; simp) fun z => ?_⟩
    · rw [baseG, if_pos ⟨by rw [live_vw, g4]; rfl, by rw [live_vw, g4]; rfl⟩, ab_vw, ab_vw, g4, g4]; decide
    · rw [hK.mem, pre_vw, g4]
      by_cases h3 : z = 3
      · simp [h3]
      · by_cases h2 : z = 2
        · simp [h2]
        · by_cases h1 : z = 1
          · simp [h1]
          · simp [h1, h2, h3]
  · rw [hl] at h; cases h
end Go.V

/-! ## Gk -/
namespace Go.V
open Go Go.RowKit

/-- every present version is live, or the base of two live ones -/
def KO (xs : List VN) : Prop := ∀ z, preG xs z = true → needG xs z
theorem KO.nil : KO [] := fun z h => by cases h
theorem baseG_pos {xs : List VN} {x y : Int} (hx : liveG xs x = true) (hy : liveG xs y = true) : baseG xs x y = gcm (abG xs x) (abG xs y) := by rw [baseG, if_pos ⟨hx, hy⟩]
theorem KO.add {xs xs2 : List VN} {cap last last2 : Int} {ps : List Int} (h : KO xs) (hl : ∀ x ∈ xs, x.n ≤ last) (ha : AddP xs cap last ps xs2 last2) : KO xs2 := by
  by_cases h0 : addE xs cap ps = 0
  · obtain ⟨_, _, ab, _, _, hv⟩ := ha.vw hl h0
    have hlt : ∀ z, preG xs z = true → z ≤ last := fun z hz => by
      obtain ⟨x, hx, e⟩ := pre_iff.1 hz
      rw [← e]; exact hl x hx
    have hlv : ∀ z, z ≠ last + 1 → liveG xs2 z = liveG xs z ∧ abG xs2 z = abG xs z := fun z hz => by rw [live_vw, live_vw, ab_vw, ab_vw, hv, if_neg hz]; exact ⟨rfl, rfl⟩
    intro z hz
    by_cases hn : z = last + 1
    · subst hn; exact .inl (by rw [live_vw, hv, if_pos rfl]; rfl)
    · have hz1 : preG xs z = true := by rw [pre_vw, hv, if_neg hn, ← pre_vw] at hz; exact hz
      rcases h z hz1 with h1 | ⟨h1, x, y, hx, hy, hxy, he⟩
      · exact .inl (by rw [(hlv z hn).1]; exact h1)
      · have nx : x ≠ last + 1 := by have := hlt x (live_pre hx); omega
        have ny : y ≠ last + 1 := by have := hlt y (live_pre hy); omega
        have lx : liveG xs2 x = true := by rw [(hlv x nx).1]; exact hx
        have ly : liveG xs2 y = true := by rw [(hlv y ny).1]; exact hy
        refine .inr ⟨h1, x, y, lx, ly, hxy, ?_⟩
        rw [baseG_pos lx ly, (hlv x nx).2, (hlv y ny).2, ← baseG_pos hx hy]; exact he
  · rcases ha with ⟨_, rfl, _⟩ | ⟨h2, _⟩
    · exact h
    · exact absurd h2 h0
/-- what is kept: the bases stay -/
theorem keep_base {xs1 xs2 : List VN} {N : Int → Bool} (hG : GF (vw xs1)) (hpos : ∀ z, (vw xs1 z).isSome = true → 1 ≤ z) (hN : ∀ z, N z = true ↔ needG xs1 z) (hv : ∀ z, vw xs2 z = keep N (vw xs1) z) :
    (∀ z, liveG xs2 z = liveG xs1 z) ∧ (∀ z, N z = true → abG xs2 z = (abG xs1 z).filter N) ∧ ∀ x y, x < y → liveG xs1 x = true → liveG xs1 y = true → baseG xs2 x y = baseG xs1 x y := by
  have hlv : ∀ z, liveG xs2 z = liveG xs1 z := fun z => by
    cases hN1 : N z with
    | true => rw [live_vw, live_vw, hv, keep, if_pos hN1]; cases vw xs1 z <;> rfl
    | false =>
      have h1 : liveG xs1 z = false := by
        cases hl : liveG xs1 z with
        | false => rfl
        | true => rw [(hN z).2 (.inl hl)] at hN1; cases hN1
      rw [h1, live_vw, hv, keep, if_neg (by rw [hN1]; decide)]; rfl
  have hab : ∀ z, N z = true → abG xs2 z = (abG xs1 z).filter N := fun z h => by
    rw [ab_vw, ab_vw, hv, keep, if_pos h]
    cases vw xs1 z <;> rfl
  refine ⟨hlv, hab, fun x y hxy hx hy => ?_⟩
  have nx := (hN x).2 (.inl hx)
  have ny := (hN y).2 (.inl hy)
  have ax : Asc (abG xs1 x) := by
    rw [ab_vw]
    cases hf : vw xs1 x with
    | none => exact List.Pairwise.nil
    | some p => exact hG.asc x p.1 p.2 hf
  rw [baseG_pos (by rw [hlv]; exact hx) (by rw [hlv]; exact hy), baseG_pos hx hy, hab x nx, hab y ny]
  rcases gcm_cases (l := abG xs1 x) (m := abG xs1 y) ax with ⟨h1, h2⟩ | ⟨h1, h2, h3⟩
  · rw [h1]
    exact gcm_no fun z hz hz2 => h2 z (List.mem_filter.1 hz).1 (List.mem_filter.1 hz2).1
  · have hp : 0 < gcm (abG xs1 x) (abG xs1 y) ∨ ¬ 0 < gcm (abG xs1 x) (abG xs1 y) := by omega
    have hNb : N (gcm (abG xs1 x) (abG xs1 y)) = true ∨ gcm (abG xs1 x) (abG xs1 y) ≤ 0 := by
      rcases hp with hp | hp
      · exact .inl ((hN _).2 (.inr ⟨hp, x, y, hx, hy, hxy, by rw [baseG_pos hx hy]⟩))
      · exact .inr (by omega)
    rcases hNb with hNb | hNb
    · exact gcm_is (ax.sublist List.filter_sublist) (List.mem_filter.2 ⟨h1, hNb⟩) (List.mem_filter.2 ⟨h2, hNb⟩) fun z hz hz2 => h3 z (List.mem_filter.1 hz).1 (List.mem_filter.1 hz2).1
    · exfalso
      generalize gcm (abG xs1 x) (abG xs1 y) = b at *
      rw [ab_vw] at h1
      cases hf : vw xs1 x with
      | none => rw [hf] at h1; cases h1
      | some p =>
        rw [hf] at h1
        have h5 := hpos _ (hG.pre x p.1 p.2 hf _ h1)
        omega
theorem GOk.pos {xs : List VN} {q : Nat} (h : GOk xs q) (z : Int) (hz : (vw xs z).isSome = true) : 1 ≤ z := by
  rw [← pre_vw] at hz
  obtain ⟨x, hx, e⟩ := pre_iff.1 hz
  rw [← e]; exact (h.rng x hx).1
/-- what a release leaves -/
theorem RelP.facts {xs xs2 : List VN} {q : Nat} {n : Int} (hG : GOk xs q) (h : RelP xs n xs2) : (∀ z, liveG xs2 z = (liveG xs z && decide (z ≠ n))) ∧ (∀ z, preG xs2 z = true → preG xs z = true) ∧ KO xs2 := by
  obtain ⟨xs1, N, h1, h2, h3⟩ := h
  have hG1 : GF (vw xs1) := by rw [show vw xs1 = dead (vw xs) n from funext h1]; exact hG.gf.dead n
  have hpos : ∀ z, (vw xs1 z).isSome = true → 1 ≤ z := fun z hz => by rw [h1, dead_iss] at hz; exact hG.pos z hz
  obtain ⟨k1, k2, k3⟩ := keep_base hG1 hpos h2 h3
  have hlive : ∀ z, liveG xs1 z = (liveG xs z && decide (z ≠ n)) := fun z => by
    rw [live_vw, live_vw, h1, dead]
    by_cases hz : z = n
    · rw [if_pos hz, decide_eq_false (fun h => h hz), Bool.and_false]
      cases vw xs z <;> rfl
    · rw [if_neg hz, decide_eq_true hz, Bool.and_true]
  refine ⟨fun z => by rw [k1, hlive], fun z hz => ?_, fun z hz => ?_⟩
  · rw [pre_vw, h3] at hz
    rw [pre_vw]
    unfold keep at hz
    split at hz
    · cases hf : vw xs1 z with
      | none => rw [hf] at hz; cases hz
      | some p =>
        rw [← dead_iss (vw xs) n, ← h1, hf]; rfl
    · cases hz
  · rw [pre_vw, h3] at hz
    unfold keep at hz
    split at hz
    · rename_i hN
      rcases (h2 z).1 hN with h | ⟨h, x, y, hx, hy, hxy, he⟩
      · exact .inl (by rw [k1]; exact h)
      · exact .inr ⟨h, x, y, by rw [k1]; exact hx, by rw [k1]; exact hy, hxy, by rw [k3 x y hxy hx hy]; exact he⟩
    · cases hz
theorem KO.rel {xs xs2 : List VN} {q : Nat} {n : Int} (h : KO xs) (hG : GOk xs q) (hR : RelQ xs n xs2) : KO xs2 := by
  rcases hR with ⟨_, hR⟩ | ⟨_, rfl⟩
  · exact (hR.facts hG).2.2
  · exact h
/-- Add, as functions say it -/
theorem AddP.facts {xs xs2 : List VN} {cap last last2 : Int} {ps : List Int} (hl : ∀ x ∈ xs, x.n ≤ last) (ha : AddP xs cap last ps xs2 last2) : (addE xs cap ps ≠ 0 ∧ xs2 = xs ∧ last2 = last) ∨ (addE xs cap ps = 0 ∧ last2 = last + 1 ∧ preG xs (last + 1) = false ∧ (∀ z, liveG xs2 z = (liveG xs z || decide (z = last + 1))) ∧ (∀ z, preG xs2 z = (preG xs z || decide (z = last + 1))) ∧ xs2.length = xs.length + 1) := by
  by_cases h0 : addE xs cap ps = 0
  · obtain ⟨h1, h2, ab, _, _, hv⟩ := ha.vw hl h0
    have hn : preG xs (last + 1) = false := by
      cases hp : preG xs (last + 1) with
      | false => rfl
      | true =>
        obtain ⟨x, hx, e⟩ := pre_iff.1 hp
        have := hl x hx; omega
    refine .inr ⟨h0, h1, hn, fun z => ?_, fun z => ?_, h2⟩
    · rw [live_vw, live_vw, hv]
      by_cases hz : z = last + 1
      · rw [if_pos hz, decide_eq_true hz, Bool.or_true]; rfl
      · rw [if_neg hz, decide_eq_false hz, Bool.or_false]
    · rw [pre_vw, pre_vw, hv]
      by_cases hz : z = last + 1
      · rw [if_pos hz, decide_eq_true hz, Bool.or_true]; rfl
      · rw [if_neg hz, decide_eq_false hz, Bool.or_false]
  · rcases ha with h | ⟨h2, _⟩
    · exact .inl h
    · exact absurd h2 h0
theorem RelQ.live {xs xs2 : List VN} {q : Nat} {n : Int} (hG : GOk xs q) (h : RelQ xs n xs2) {z : Int} (hz : liveG xs2 z = true) : liveG xs z = true ∧ z ≠ n := by
  rcases h with ⟨_, h⟩ | ⟨h, rfl⟩
  · rw [(h.facts hG).1 z] at hz
    simp only [Bool.and_eq_true, decide_eq_true_eq] at hz
    exact hz
  · exact ⟨hz, fun e => by rw [e, h] at hz; cases hz⟩
theorem RelQ.same {xs xs2 : List VN} {n : Int} (h : RelQ xs n xs2) (hl : liveG xs n = false) : xs2 = xs := by
  rcases h with ⟨h, _⟩ | ⟨_, h⟩
  · rw [hl] at h; cases h
  · exact h
theorem relE_no {xs : List VN} {n : Int} (hl : liveG xs n = false) : relE xs n = 4 := by rw [relE, if_neg (by rw [hl]; decide)]
theorem relE_yes {xs : List VN} {n : Int} (h : relE xs n = 0) : liveG xs n = true := by
  unfold relE at h
  split at h
  · assumption
  · omega
/-- versions that were released -/
def Gon (xs : List VN) (la : Int) (gn : List Int) : Prop := ∀ v ∈ gn, liveG xs v = false ∧ v ≤ la
theorem Gon.rel {xs xs2 : List VN} {q : Nat} {n la : Int} {gn : List Int} (h : Gon xs la gn) (hG : GOk xs q) (hR : RelQ xs n xs2) : Gon xs2 la gn := fun v hv => by
  refine ⟨?_, (h v hv).2⟩
  cases hl : liveG xs2 v with
  | false => rfl
  | true => have := (hR.live hG hl).1; rw [(h v hv).1] at this; cases this
theorem Gon.snoc {xs xs2 : List VN} {q : Nat} {n cap la : Int} {gn : List Int} (h : Gon xs la gn) (hI : GI xs q cap la) (hR : RelQ xs n xs2) (h0 : relE xs n = 0) : Gon xs2 la (gn ++ [n]) := fun v hv => by
  rcases List.mem_append.1 hv with hv | hv
  · exact h.rel hI.ok hR v hv
  · rw [List.mem_singleton.1 hv]
    refine ⟨?_, ?_⟩
    · cases hl : liveG xs2 n with
      | false => rfl
      | true => exact absurd rfl (hR.live hI.ok hl).2
    · obtain ⟨x, hx, e⟩ := pre_iff.1 (live_pre (relE_yes h0))
      rw [← e]; exact hI.le x hx
theorem Gon.add {xs xs2 : List VN} {q : Nat} {cap la la2 : Int} {ps gn : List Int} (h : Gon xs la gn) (hI : GI xs q cap la) (hA : AddP xs cap la ps xs2 la2) : Gon xs2 la2 gn := by
  rcases hA.facts hI.le with ⟨_, rfl, rfl⟩ | ⟨_, rfl, _, h4, _⟩
  · exact h
  · intro v hv
    obtain ⟨h5, h6⟩ := h v hv
    refine ⟨?_, by omega⟩
    rw [h4, h5, decide_eq_false (by omega)]; rfl
/-! ### calls -/
structure Cg where
  rel : Bool
  ver : Int
  ps : List Int
  a : Option Addr
  c : Nat
def cgC (z : Cg) : List Value := [.bool z.rel, .int .i64 z.ver, .slice z.a (i64s z.ps).length z.c]
def cgF (z : Cg) : List HP := [Sh 3 1 (i64s z.ps) z.a z.c]
def enG (l : List Cg) : List (List Value) := l.map cgC
@[simp] theorem enG_len (l : List Cg) : (enG l).length = l.length := by simp [enG]
theorem enG_at {l : List Cg} {k : Nat} {z : Cg} (h : l[k]? = some z) : (enG l)[k]? = some [.bool z.rel, .int .i64 z.ver, .slice z.a (i64s z.ps).length z.c] := by simp [enG, h, cgC]
theorem enG_ok (l : List Cg) : OkE 3 (enG l) := fun x hx => by
  obtain ⟨y, _, rfl⟩ := List.mem_map.1 hx
  exact ⟨rfl, fun u hu => by simp [cgC] at hu; rcases hu with rfl | rfl | rfl <;> rfl⟩
abbrev Ir (n : Int) : Prop := -9223372036854775808 ≤ n ∧ n ≤ 9223372036854775807
/-- its numbers lie in their kind -/
structure CgOk (z : Cg) : Prop where
  ver : Ir z.ver
  ps : ∀ x ∈ z.ps, Ir x
end Go.V

/-! ## Gx -/
namespace Go.V
open Go Go.RowKit

theorem gcm_snoc {l m : List Int} (h : Asc l) (hp : ∀ z ∈ l, 1 ≤ z) {k : Nat} {u : Int} (hu : l[k]? = some u) (hm : u ∈ m) : gcm (l.take (k + 1)) m = max (gcm (l.take k) m) u := by
  have h1 : Asc (l.take (k + 1)) := h.sublist (List.take_sublist _ _)
  have hmem : u ∈ l.take (k + 1) := by rw [List.take_add_one, hu]; simp
  rw [gcm_is h1 hmem hm fun z hz _ => take_le h hu hz]
  have h0 : Asc (l.take k) := h.sublist (List.take_sublist _ _)
  have hu1 := hp u (List.mem_of_getElem? hu)
  rcases gcm_cases (l := l.take k) (m := m) h0 with ⟨h2, _⟩ | ⟨h2, _, _⟩
  · rw [h2]; omega
  · have h3 := take_le h hu (z := gcm (l.take k) m) (by rw [List.take_add_one]; exact List.mem_append_left _ h2)
    omega
theorem gcm_skip {l m : List Int} {k : Nat} {u : Int} (hu : l[k]? = some u) (hm : u ∉ m) : gcm (l.take (k + 1)) m = gcm (l.take k) m := by
  unfold gcm
  rw [List.take_add_one, hu, List.filter_append]
  simp [hm]
theorem abG_pos {xs : List VN} {q : Nat} (hG : GOk xs q) (n : Int) : ∀ z ∈ abG xs n, 1 ≤ z ∧ preG xs z = true := fun z hz => by
  cases hf : vfind xs n with
  | none => rw [(g_out hf).2.2] at hz; cases hz
  | some x =>
    rw [(g_in hf).2.2] at hz
    have h1 := hG.pre x (vfind_some hf).1 z hz
    obtain ⟨y, hy, e⟩ := pre_iff.1 h1
    exact ⟨by rw [← e]; exact (hG.rng y hy).1, h1⟩
theorem base_self {xs : List VN} {q : Nat} (hG : GOk xs q) {n : Int} (hl : liveG xs n = true) : baseG xs n n = n := by
  rw [baseG_pos hl hl]
  obtain ⟨k, x, hx, hn, _, ha⟩ := live_ix hl
  have hm := List.mem_of_getElem? hx
  rw [ha]
  subst hn
  exact gcm_is (hG.asc x hm) (hG.self x hm) (hG.self x hm) fun z hz _ => hG.le x hm z hz
theorem base_comm {xs : List VN} {q : Nat} (hG : GOk xs q) (x y : Int) : baseG xs y x = baseG xs x y := by
  unfold baseG
  by_cases h : liveG xs x = true ∧ liveG xs y = true
  · rw [if_pos h, if_pos ⟨h.2, h.1⟩]; exact gcm_comm (hG.ascA y) (hG.ascA x)
  · rw [if_neg h, if_neg (fun k => h ⟨k.2, k.1⟩)]
theorem base_pre {xs : List VN} {q : Nat} (hG : GOk xs q) {x y : Int} (h : baseG xs x y ≠ 0) : preG xs (baseG xs x y) = true := by
  unfold baseG at h ⊢
  split at h
  · rename_i hl
    rw [if_pos hl]
    rcases gcm_cases (l := abG xs x) (m := abG xs y) (hG.ascA x) with ⟨h2, _⟩ | ⟨h2, _, _⟩
    · exact absurd h2 h
    · exact (abG_pos hG x _ h2).2
  · exact absurd rfl h
end Go.V

/-! ## Keg -/
namespace Go.V
open Go Go.RowKit Go.Maps Go.Sort

/-- entries of a map with 64-bit keys -/
structure KOk {α : Type} (f : α → Value × Value × Nat) (n : α → Int) (xs : List α) (q : Nat) : Prop where
  key : ∀ x ∈ xs, (f x).1 = .int .i64 (n x)
  uniq : xs.Pairwise fun x y => n x ≠ n y
  born : ∀ x ∈ xs, (f x).2.2 < q
  bnd : (xs.map fun x => (f x).2.2).Nodup
  rng : ∀ x ∈ xs, -9223372036854775808 ≤ n x ∧ n x ≤ 9223372036854775807
  num : xs.length ≤ 4096
section
variable {P : Program} {k : TypeId} {α : Type} {f : α → Value × Value × Nat} {n : α → Int}
theorem keys_of (xs : List α) (q : Nat) (h : KOk f n xs q) (hk : P.underlying k = some (.int .i64)) {w : World} {b : Nat} (hb : w.heap[b]? = some (.map (mE (xs.map f)) q)) :
    ∃ D : DataW Unit, w.ownsMap P k noRdI b 4096 D ∧ Maps.size D = xs.length ∧ (intKeys D).Perm (xs.map n) := by
  have hrd : ∀ x : α, x ∈ xs → Go.WideElems.rd P k noRdI ⟨(f x).1, (f x).2.1, (f x).2.2⟩ = some (.int .i64 (n x), .nil) := fun x hx => by
    have h1 := h.rng x hx
    have h2 : (Lit.int .i64 (n x)).wf = true := by
      have e1 : IntKind.i64.min = -9223372036854775808 := by decide
      have e2 : IntKind.i64.max = 9223372036854775807 := by decide
      simp only [Lit.wf, e1, e2, Bool.and_eq_true, decide_eq_true_eq]
      omega
    have h3 : keyOf P k (.int .i64 (n x)) = some (.int .i64 (n x)) := by simp [keyOf, hk, mapKey, h2]
    simp [Go.WideElems.rd, h.key x hx, h3, noRdI]
  have hF : Go.WideElems.Fit P k noRdI (mE (xs.map f)) q := by
    refine ⟨by rw [mE_size, List.length_map]; exact Nat.le_trans h.num (by decide), ⟨?_, ?_, ?_⟩, ?_⟩
    · intro x hx
      simp only [mE_toList, List.map_map, List.mem_map] at hx
      obtain ⟨y, hy, rfl⟩ := hx
      exact h.born y hy
    · rw [mE_toList, List.map_map, List.map_map]
      exact h.bnd
    · rw [mE_toList, List.map_map, List.map_map]
      refine List.pairwise_map.2 (List.Pairwise.imp_of_mem (R := fun x y => n x ≠ n y) (fun {a b} ha hb' hne he => hne ?_) h.uniq)
      simp only [Function.comp_def, h.key a ha, h.key b hb'] at he
      exact (Value.int.inj he).2
    · intro x hx
      simp only [mE_toList, List.map_map, List.mem_map] at hx
      obtain ⟨y, hy, rfl⟩ := hx
      exact ⟨_, hrd y hy⟩
  refine ⟨_, ⟨_, _, hb, hF, by rw [mE_size, List.length_map]; exact h.num, rfl⟩, ?_, ?_⟩
  · rw [Maps.size_eq, (WideShapes.sorted_perm _).length_eq]; simp
  · refine ((WideShapes.sorted_perm _).map _).trans ?_
    rw [mE_toList, List.map_map, List.map_map, List.map_map]
    refine List.Perm.of_eq (List.map_congr_left fun x hx => ?_)
    simp only [Function.comp_def, Go.WideElems.rg, hrd x hx, Option.getD_some, intOf]
theorem ki_key {xs : List α} (h : ∀ x ∈ xs, (f x).1 = .int .i64 (n x)) : ∀ x ∈ xs.map f, MapKept.IsKey (.int .i64) x.1 := fun x hx => by
  obtain ⟨y, hy, rfl⟩ := List.mem_map.1 hx
  rw [h y hy]; rfl
theorem ki_in {xs : List α} (h1 : ∀ x ∈ xs, (f x).1 = .int .i64 (n x)) (hu : xs.Pairwise fun x y => n x ≠ n y) {k : Nat} {x : α} (hx : xs[k]? = some x) : mfind (.int .i64) (.int .i64 (n x)) (xs.map f) = some (some (k, (f x).2.1)) := by
  refine mfind_some (d := .int .i64) (k := .int .i64 (n x)) (b := (f x).2.2) rfl (ki_key h1) (by rw [List.getElem?_map, hx]; show some (f x) = _; rw [← h1 x (List.mem_of_getElem? hx)]) fun j hj y hy => ?_
  rw [List.getElem?_map] at hy
  cases hz : xs[j]? with
  | none => rw [hz] at hy; cases hy
  | some u =>
    rw [hz] at hy
    simp only [Option.map_some, Option.some.injEq] at hy
    subst hy
    intro he
    rw [h1 u (List.mem_of_getElem? hz)] at he
    have he2 : n u = n x := (Value.int.inj he).2
    have hl := (List.getElem?_eq_some_iff.1 hz).1
    have hl2 := (List.getElem?_eq_some_iff.1 hx).1
    refine List.pairwise_iff_getElem.1 hu j k hl hl2 hj ?_
    rw [(List.getElem?_eq_some_iff.1 hz).2, (List.getElem?_eq_some_iff.1 hx).2, he2]
theorem ki_out {xs : List α} (h1 : ∀ x ∈ xs, (f x).1 = .int .i64 (n x)) {m : Int} (h : ∀ x ∈ xs, n x ≠ m) : mfind (.int .i64) (.int .i64 m) (xs.map f) = some none := by
  refine mfind_none (d := .int .i64) (k := .int .i64 m) rfl (ki_key h1) fun x hx => ?_
  obtain ⟨y, hy, rfl⟩ := List.mem_map.1 hx
  rw [h1 y hy]
  intro he
  exact h y hy (Value.int.inj he).2
theorem ki_cases (n : α → Int) (xs : List α) (m : Int) : (∃ (k : Nat) (x : α), xs[k]? = some x ∧ n x = m) ∨ ∀ x ∈ xs, n x ≠ m := by
  by_cases h : ∃ x ∈ xs, n x = m
  · obtain ⟨x, hx, hn⟩ := h
    obtain ⟨k, hk⟩ := List.mem_iff_getElem?.1 hx
    exact .inl ⟨k, x, hk, hn⟩
  · exact .inr fun x hx hn => h ⟨x, hx, hn⟩
theorem KOk.nil : KOk f n [] 0 := ⟨fun _ h => (by cases h), List.Pairwise.nil, fun _ h => (by cases h), List.nodup_nil, fun _ h => (by cases h), by simp⟩
theorem KOk.snoc {xs : List α} {q : Nat} (h : KOk f n xs q) {x : α} (hk : (f x).1 = .int .i64 (n x)) (hn : ∀ y ∈ xs, n y ≠ n x) (hb : (f x).2.2 = q) (hr : -9223372036854775808 ≤ n x ∧ n x ≤ 9223372036854775807) (hl : xs.length < 4096) : KOk f n (xs ++ [x]) (q + 1) := by
  refine ⟨fun y hy => ?_, ?_, fun y hy => ?_, ?_, fun y hy => ?_, by simp; omega⟩
  · rcases List.mem_append.1 hy with hy | hy
    · exact h.key y hy
    · rw [List.mem_singleton.1 hy]; exact hk
  · refine List.pairwise_append.2 ⟨h.uniq, List.pairwise_singleton _ _, fun a ha b hb' => ?_⟩
    rw [List.mem_singleton.1 hb']; exact hn a ha
  · rcases List.mem_append.1 hy with hy | hy
    · exact Nat.lt_succ_of_lt (h.born y hy)
    · rw [List.mem_singleton.1 hy, hb]; exact Nat.lt_succ_self _
  · rw [List.map_append]
    refine List.nodup_append.2 ⟨h.bnd, List.pairwise_singleton _ _, fun a ha b hb' e => ?_⟩
    rw [List.map_singleton, List.mem_singleton] at hb'
    obtain ⟨y, hy, rfl⟩ := List.mem_map.1 ha
    have := h.born y hy
    rw [e, hb', hb] at this; omega
  · rcases List.mem_append.1 hy with hy | hy
    · exact h.rng y hy
    · rw [List.mem_singleton.1 hy]; exact hr
theorem KOk.erase {xs : List α} {q : Nat} (h : KOk f n xs q) (j : Nat) : KOk f n (xs.eraseIdx j) q := by
  have hs := List.eraseIdx_sublist xs j
  exact ⟨fun y hy => h.key y (hs.subset hy), h.uniq.sublist hs, fun y hy => h.born y (hs.subset hy), h.bnd.sublist (hs.map _), fun y hy => h.rng y (hs.subset hy), Nat.le_trans hs.length_le h.num⟩
/-- the keys in their order -/
theorem keysR_ex {xs : List α} {q : Nat} (h : KOk f n xs q) : ∃ ss : List Int, ss.Perm (xs.map n) ∧ (ss.Pairwise fun a b => a < b) ∧ ∀ z, z ∈ ss ↔ ∃ r ∈ xs, n r = z := by
  have hp : ((xs.map n).mergeSort fun x y => decide (x ≤ y)).Perm (xs.map n) := List.mergeSort_perm _ _
  have hs : ((xs.map n).mergeSort fun x y => decide (x ≤ y)).Pairwise (fun a b => decide (a ≤ b) = true) := List.pairwise_mergeSort (fun a b c h1 h2 => by simp at *; omega) (fun a b => by simp; omega) _
  have hd : (xs.map n).Nodup := List.pairwise_map.2 h.uniq
  refine ⟨_, hp, ?_, fun z => by rw [hp.mem_iff, List.mem_map]⟩
  have h1 := (hp.nodup_iff).2 hd
  refine List.Pairwise.imp (fun {a b} h => ?_) (List.Pairwise.and hs h1)
  have h2 := of_decide_eq_true h.1
  have h3 := h.2
  omega
theorem erase_mem' {xs : List α} (hu : xs.Pairwise fun x y => n x ≠ n y) {j : Nat} {u : α} (hj : xs[j]? = some u) (x : α) : x ∈ xs.eraseIdx j ↔ x ∈ xs ∧ n x ≠ n u := by
  induction xs generalizing j with
  | nil => simp at hj
  | cons y ys ih =>
    obtain ⟨h1, h2⟩ := List.pairwise_cons.1 hu
    cases j with
    | zero =>
      simp only [List.getElem?_cons_zero, Option.some.injEq] at hj
      subst hj
      rw [List.eraseIdx_cons_zero, List.mem_cons]
      constructor
      · intro hx; exact ⟨.inr hx, fun e => h1 x hx e.symm⟩
      · rintro ⟨rfl | hx, hn⟩
        · exact absurd rfl hn
        · exact hx
    | succ j =>
      rw [List.getElem?_cons_succ] at hj
      rw [List.eraseIdx_cons_succ, List.mem_cons, List.mem_cons, ih h2 hj]
      constructor
      · rintro (rfl | ⟨hx, hn⟩)
        · exact ⟨.inl rfl, h1 u (List.mem_of_getElem? hj)⟩
        · exact ⟨.inr hx, hn⟩
      · rintro ⟨rfl | hx, hn⟩
        · exact .inl rfl
        · exact .inr ⟨hx, hn⟩
end
end Go.V
