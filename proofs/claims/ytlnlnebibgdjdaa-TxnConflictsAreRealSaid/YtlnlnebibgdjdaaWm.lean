/-
  Plain model of a transaction: its writes as they lie in a map, and in ascending order; the keys that it has read.
  Conditions: none.
-/
import Derived.Test.YtlnlnebibgdjdaaAga
import Derived.Test.YtlnlnebibgdjdaaTra
namespace Go.V
open Go Go.RowKit Go.Maps Go.Sort

/-- a write in the map -/
structure WE where
  k : Int
  p : Bool
  v : Int
  b : Nat
def wK (x : WE) : Value × Value × Nat := (.int .i64 x.k, .agg #[.bool x.p, .int .i64 x.v], x.b)
abbrev Wrs := List (Int × Bool × Int)
def wT (x : WE) : Int × Bool × Int := (x.k, x.p, x.v)
def wSrt (M : Wrs) : Prop := M.Pairwise fun a b => a.1 < b.1
def wget (k : Int) (M : Wrs) : Option (Bool × Int) := (M.find? fun x => decide (x.1 = k)).map (·.2)
def wput (k : Int) (y : Bool × Int) (M : Wrs) : Wrs := M.filter (fun x => decide (x.1 < k)) ++ (k, y) :: M.filter (fun x => decide (k < x.1))
theorem wput_srt {k : Int} {y : Bool × Int} {M : Wrs} (h : wSrt M) : wSrt (wput k y M) := by
  unfold wput
  refine List.pairwise_append.2 ⟨h.sublist List.filter_sublist, List.pairwise_cons.2 ⟨fun y hy => ?_, h.sublist List.filter_sublist⟩, fun x hx y hy => ?_⟩
  · exact of_decide_eq_true (List.mem_filter.1 hy).2
  · have h1 := of_decide_eq_true (List.mem_filter.1 hx).2
    rcases List.mem_cons.1 hy with rfl | hy
    · exact h1
    · have h2 := of_decide_eq_true (List.mem_filter.1 hy).2
      omega
theorem wput_mem {k : Int} {y : Bool × Int} {M : Wrs} (x : Int × Bool × Int) : x ∈ wput k y M ↔ x = (k, y) ∨ (x ∈ M ∧ x.1 ≠ k) := by
  unfold wput
  rw [List.mem_append, List.mem_cons, List.mem_filter, List.mem_filter, decide_eq_true_iff, decide_eq_true_iff]
  constructor
  · rintro (⟨h1, h2⟩ | h | ⟨h1, h2⟩)
    · exact .inr ⟨h1, by omega⟩
    · exact .inl h
    · exact .inr ⟨h1, by omega⟩
  · rintro (h | ⟨h1, h2⟩)
    · exact .inr (.inl h)
    · by_cases h3 : x.1 < k
      · exact .inl ⟨h1, h3⟩
      · exact .inr (.inr ⟨h1, by omega⟩)
theorem wSrt.nodup {M : Wrs} (h : wSrt M) : M.Nodup := h.imp fun {a b} h e => by rw [e] at h; omega
theorem wget_some {k : Int} {M : Wrs} (hs : wSrt M) {y : Bool × Int} : wget k M = some y ↔ (k, y) ∈ M := by
  unfold wget
  constructor
  · intro h
    cases hf : M.find? fun x => decide (x.1 = k) with
    | none => rw [hf] at h; cases h
    | some z =>
      rw [hf] at h
      have h1 : z.1 = k := of_decide_eq_true (List.find?_some (p := fun x : Int × Bool × Int => decide (x.1 = k)) hf)
      simp only [Option.map_some, Option.some.injEq] at h
      have h2 := List.mem_of_find?_eq_some hf
      rw [← h1, ← h]; exact h2
  · intro h
    induction M with
    | nil => cases h
    | cons x t ih =>
      obtain ⟨h1, h2⟩ := List.pairwise_cons.1 hs
      rw [List.find?_cons]
      rcases List.mem_cons.1 h with rfl | h
      · simp
      · have h3 : x.1 < k := h1 _ h
        rw [decide_eq_false (show ¬ x.1 = k by omega)]
        exact ih h2 h
theorem wget_none {k : Int} {M : Wrs} (h : ∀ x ∈ M, x.1 ≠ k) : wget k M = none := by
  unfold wget
  rw [List.find?_eq_none.2 fun x hx e => h x hx (of_decide_eq_true e)]; rfl
/-- the writes in the map are those -/
structure WOk (xs : List WE) (q : Nat) (M : Wrs) : Prop where
  k : KOk wK WE.k xs q
  perm : (xs.map wT).Perm M
  srt : wSrt M
theorem WOk.nil : WOk [] 0 [] := ⟨KOk.nil, List.Perm.refl _, List.Pairwise.nil⟩
section
variable {xs : List WE} {q : Nat} {M : Wrs}
theorem WOk.len (h : WOk xs q M) : xs.length = M.length := by rw [← h.perm.length_eq, List.length_map]
theorem WOk.mem (h : WOk xs q M) (x : Int × Bool × Int) : x ∈ M ↔ ∃ y ∈ xs, wT y = x := by rw [← h.perm.mem_iff, List.mem_map]
theorem WOk.get (h : WOk xs q M) {j : Nat} {x : WE} (hx : xs[j]? = some x) : wget x.k M = some (x.p, x.v) :=
  (wget_some h.srt).2 ((h.mem _).2 ⟨x, List.mem_of_getElem? hx, rfl⟩)
theorem WOk.no (h : WOk xs q M) {k : Int} (hx : ∀ x ∈ xs, x.k ≠ k) : wget k M = none :=
  wget_none fun x hm => by
    obtain ⟨y, hy, rfl⟩ := (h.mem x).1 hm
    exact hx y hy
theorem KOk.set {α : Type} {f : α → Value × Value × Nat} {n : α → Int} {l : List α} {q : Nat} (h : KOk f n l q) {j : Nat} {x y : α} (hx : l[j]? = some x) (h1 : n y = n x) (h2 : (f y).1 = (f x).1) (h3 : (f y).2.2 = (f x).2.2) : KOk f n (l.set j y) q := by
  have hj := (List.getElem?_eq_some_iff.1 hx).1
  have hxe := (List.getElem?_eq_some_iff.1 hx).2
  have hm : ∀ {β : Type} (g : α → β), g y = g x → (l.set j y).map g = l.map g := fun g hg => by
    apply List.ext_getElem?
    intro i
    rw [List.getElem?_map, List.getElem?_map, List.getElem?_set]
    split
    · rename_i hij; subst hij
      rw [hx]; simp [hg]
    · rfl
  have hxm := List.mem_of_getElem? hx
  refine ⟨fun z hz => ?_, ?_, fun z hz => ?_, ?_, fun z hz => ?_, by rw [List.length_set]; exact h.num⟩
  · rcases List.mem_or_eq_of_mem_set hz with hz | rfl
    · exact h.key z hz
    · rw [h2, h1]; exact h.key x hxm
  · have := List.pairwise_map.2 h.uniq
    rw [← hm n h1] at this
    exact List.pairwise_map.1 this
  · rcases List.mem_or_eq_of_mem_set hz with hz | rfl
    · exact h.born z hz
    · rw [h3]; exact h.born x hxm
  · rw [hm (fun x => (f x).2.2) h3]; exact h.bnd
  · rcases List.mem_or_eq_of_mem_set hz with hz | rfl
    · exact h.rng z hz
    · rw [h1]; exact h.rng x hxm
theorem WOk.ofMem {xs' : List WE} {q' : Nat} {M' : Wrs} (hk : KOk wK WE.k xs' q') (hs : wSrt M') (hm : ∀ x, (∃ y ∈ xs', wT y = x) ↔ x ∈ M') : WOk xs' q' M' := by
  refine ⟨hk, ?_, hs⟩
  have hn : (xs'.map wT).Nodup := List.pairwise_map.2 (hk.uniq.imp fun {a b} h e => h (congrArg Prod.fst e))
  exact (List.perm_ext_iff_of_nodup hn hs.nodup).2 fun x => by rw [List.mem_map]; exact hm x
theorem WOk.set (h : WOk xs q M) {j : Nat} {x : WE} (hx : xs[j]? = some x) (p : Bool) (v : Int) : WOk (xs.set j ⟨x.k, p, v, x.b⟩) q (wput x.k (p, v) M) := by
  refine WOk.ofMem (h.k.set hx rfl rfl rfl) (wput_srt h.srt) fun z => ?_
  rw [wput_mem, h.mem]
  have hj := (List.getElem?_eq_some_iff.1 hx).1
  constructor
  · rintro ⟨y, hy, rfl⟩
    obtain ⟨i, hi⟩ := List.mem_iff_getElem?.1 hy
    rw [List.getElem?_set] at hi
    split at hi
    · rw [← Option.some.inj hi]; exact .inl rfl
    · rename_i hij
      have hil := (List.getElem?_eq_some_iff.1 hi).1
      refine .inr ⟨⟨y, List.mem_of_getElem? hi, rfl⟩, fun e => ?_⟩
      have hu := List.pairwise_iff_getElem.1 h.k.uniq
      have e1 := (List.getElem?_eq_some_iff.1 hi).2
      have e2 := (List.getElem?_eq_some_iff.1 hx).2
      have he : y.k = x.k := e
      rcases Nat.lt_or_gt_of_ne hij with hlt | hgt
      · exact hu j i hj hil hlt (by rw [e1, e2]; exact he.symm)
      · exact hu i j hil hj hgt (by rw [e1, e2]; exact he)
  · rintro (rfl | ⟨⟨y, hy, rfl⟩, hn⟩)
    · exact ⟨⟨x.k, p, v, x.b⟩, List.mem_iff_getElem?.2 ⟨j, by rw [List.getElem?_set, if_pos rfl]; simp [hj]⟩, rfl⟩
    · obtain ⟨i, hi⟩ := List.mem_iff_getElem?.1 hy
      refine ⟨y, List.mem_iff_getElem?.2 ⟨i, ?_⟩, rfl⟩
      rw [List.getElem?_set, if_neg (fun e => ?_), hi]
      subst e
      rw [hx] at hi
      have := Option.some.inj hi
      subst this
      exact hn rfl
theorem WOk.snoc (h : WOk xs q M) {k : Int} (hn : ∀ x ∈ xs, x.k ≠ k) (hr : -9223372036854775808 ≤ k ∧ k ≤ 9223372036854775807) (hl : xs.length < 4096) (p : Bool) (v : Int) : WOk (xs ++ [⟨k, p, v, q⟩]) (q + 1) (wput k (p, v) M) := by
  refine WOk.ofMem (h.k.snoc rfl hn rfl hr hl) (wput_srt h.srt) fun z => ?_
  rw [wput_mem, h.mem]
  constructor
  · rintro ⟨y, hy, rfl⟩
    rcases List.mem_append.1 hy with hy | hy
    · exact .inr ⟨⟨y, hy, rfl⟩, hn y hy⟩
    · rw [List.mem_singleton.1 hy]; exact .inl rfl
  · rintro (rfl | ⟨⟨y, hy, rfl⟩, _⟩)
    · exact ⟨_, List.mem_append_right _ (List.mem_singleton.2 rfl), rfl⟩
    · exact ⟨y, List.mem_append_left _ hy, rfl⟩
theorem WOk.keys (h : WOk xs q M) : (M.map (·.1)).Perm (xs.map WE.k) ∧ (M.map (·.1)).Pairwise (· ≤ ·) := by
  refine ⟨?_, List.pairwise_map.2 (h.srt.imp fun {a b} h => by omega)⟩
  have := (h.perm.map (fun x : Int × Bool × Int => x.1)).symm
  rw [List.map_map] at this
  exact this
end
/-- the writes as changes -/
def wC (x : Int × Bool × Int) : Int × Int × Int × Int := if x.2.1 then (3, x.1, 0, x.2.2) else (2, x.1, 0, 0)
/-- the keys from lo to hi become read -/
structure RdS where
  lo : Int
  hi : Int
  less : Kvs
  gr : Kvs
def rdStep (s : RdS) (x : Int × Int) : RdS :=
  if x.2 + 1 < s.lo then ⟨s.lo, s.hi, s.less ++ [x], s.gr⟩
  else if s.hi < x.1 - 1 then ⟨s.lo, s.hi, s.less, s.gr ++ [x]⟩
  else ⟨min s.lo x.1, max s.hi x.2, s.less, s.gr⟩
def rdAll (lo hi : Int) (S : Kvs) : RdS := S.foldl rdStep ⟨lo, hi, [], []⟩
def rdF (lo hi : Int) (S : Kvs) : Kvs := let r := rdAll lo hi S; r.less ++ [(r.lo, r.hi)] ++ r.gr
theorem rd_nil (lo hi : Int) : rdF lo hi [] = [(lo, hi)] := rfl
def i64R (z : Int) : Prop := -9223372036854775808 ≤ z ∧ z ≤ 9223372036854775807
def SpR (S : Kvs) : Prop := ∀ s ∈ S, i64R s.1 ∧ i64R s.2
theorem rdAll_snoc {lo hi : Int} {S : Kvs} {k : Nat} {e : Int × Int} (h : S[k]? = some e) : rdAll lo hi (S.take (k + 1)) = rdStep (rdAll lo hi (S.take k)) e := by
  unfold rdAll
  rw [List.take_add_one, h, List.foldl_append]; rfl
theorem rdStep_R {s : RdS} {x : Int × Int} (h : i64R s.lo ∧ i64R s.hi ∧ SpR s.less ∧ SpR s.gr) (hx : i64R x.1 ∧ i64R x.2) : i64R (rdStep s x).lo ∧ i64R (rdStep s x).hi ∧ SpR (rdStep s x).less ∧ SpR (rdStep s x).gr := by
  obtain ⟨h1, h2, h3, h4⟩ := h
  unfold rdStep
  have ha : ∀ {S : Kvs}, SpR S → SpR (S ++ [x]) := fun hS s hs => by
    rcases List.mem_append.1 hs with hs | hs
    · exact hS s hs
    · rw [List.mem_singleton.1 hs]; exact hx
  split
  · exact ⟨h1, h2, ha h3, h4⟩
  · split
    · exact ⟨h1, h2, h3, ha h4⟩
    · refine ⟨?_, ?_, h3, h4⟩
      · show i64R (min _ _); unfold i64R at *; omega
      · show i64R (max _ _); unfold i64R at *; omega
theorem rdAll_R {lo hi : Int} {S : Kvs} (hl : i64R lo ∧ i64R hi) (hS : SpR S) : ∀ k, i64R (rdAll lo hi (S.take k)).lo ∧ i64R (rdAll lo hi (S.take k)).hi ∧ SpR (rdAll lo hi (S.take k)).less ∧ SpR (rdAll lo hi (S.take k)).gr
  | 0 => ⟨hl.1, hl.2, fun _ h => (by cases h), fun _ h => (by cases h)⟩
  | k + 1 => by
    cases h : S[k]? with
    | none => rw [List.take_add_one, h]; simpa using rdAll_R hl hS k
    | some e => rw [rdAll_snoc h]; exact rdStep_R (rdAll_R hl hS k) (hS e (List.mem_of_getElem? h))
theorem rdF_R {lo hi : Int} {S : Kvs} (hl : i64R lo ∧ i64R hi) (hS : SpR S) : SpR (rdF lo hi S) := by
  have h := rdAll_R hl hS S.length
  rw [List.take_length] at h
  obtain ⟨h1, h2, h3, h4⟩ := h
  intro s hs
  rcases List.mem_append.1 hs with hs | hs
  · rcases List.mem_append.1 hs with hs | hs
    · exact h3 s hs
    · rw [List.mem_singleton.1 hs]; exact ⟨h1, h2⟩
  · exact h4 s hs
theorem rdAll_len (lo hi : Int) (S : Kvs) : ∀ k, (rdAll lo hi (S.take k)).less.length + (rdAll lo hi (S.take k)).gr.length ≤ k
  | 0 => Nat.le_refl _
  | k + 1 => by
    have ih := rdAll_len lo hi S k
    cases h : S[k]? with
    | none => rw [List.take_add_one, h]; simp only [Option.toList_none, List.append_nil]; omega
    | some e =>
      rw [rdAll_snoc h]
      unfold rdStep
      split
      · simp only [List.length_append, List.length_singleton]; omega
      · split
        · simp only [List.length_append, List.length_singleton]; omega
        · show (rdAll lo hi (S.take k)).less.length + (rdAll lo hi (S.take k)).gr.length ≤ k + 1; omega
theorem rdF_len (lo hi : Int) (S : Kvs) : (rdF lo hi S).length ≤ S.length + 1 := by
  have h := rdAll_len lo hi S S.length
  rw [List.take_length] at h
  unfold rdF
  simp only [List.length_append, List.length_singleton]; omega
end Go.V
