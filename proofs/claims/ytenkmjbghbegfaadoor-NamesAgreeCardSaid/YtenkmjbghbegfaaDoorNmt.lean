/-
  Plain model of a table of names: what Set, Get, Find and Log do to the list of names.
  Conditions: none.
-/
import Derived.Test.YtenkmjbghbegfaaDoorSkb
import Derived.Test.YtenkmjbghbegfaaDoorVnm
namespace Go.V
open Go Go.RowKit

/-- a name, its handle, its earlier handles, the latest one last -/
abbrev Row3 := ByteArray × Int × List Int
def ab (x : NB) : Row3 := (x.name, x.h, x.lg)
def fnd (R : List Row3) (s : ByteArray) : Option Row3 := R.find? fun r => decide (r.1 = s)
def getH (R : List Row3) (s : ByteArray) : Int := ((fnd R s).map fun r => r.2.1).getD 0
def getB (R : List Row3) (s : ByteArray) : Bool := (fnd R s).isSome
def logM (R : List Row3) (s : ByteArray) : List Int := ((fnd R s).map fun r => r.2.2.reverse).getD []
def remM (R : List Row3) (s : ByteArray) : List Row3 := R.filter fun r => decide (r.1 ≠ s)
def chgM (R : List Row3) (s : ByteArray) (x y : Int) : List Row3 := R.map fun r => if r.1 = s then (r.1, y, lgn r.2.2 x) else r
def setM (R : List Row3) (s : ByteArray) (x y : Int) : Int × List Row3 :=
  if ¬ (okName (sb s) ∧ ¬ (x = 0 ∧ y = 0)) then (1, R)
  else if getH R s ≠ x then (11, R)
  else if getB R s = true then (0, if y = 0 then remM R s else chgM R s x y)
  else if R.length = 256 then (2, R) else (0, R ++ [(s, y, [])])
/-- does s begin with p -/
def hpre (s p : ByteArray) : Prop := p.size ≤ s.size ∧ mkS ((sb s).take p.size) = p
instance (s p : ByteArray) : Decidable (hpre s p) := by unfold hpre; infer_instance
/-- names with handles, as the program lists them -/
def nhs (l : List (ByteArray × Int)) : List (List Value) := l.map fun x => [.string x.1, .int .u64 x.2]
@[simp] theorem nhs_len (l : List (ByteArray × Int)) : (nhs l).length = l.length := by simp [nhs]
theorem nhs_at {l : List (ByteArray × Int)} {k : Nat} {x : ByteArray × Int} (h : l[k]? = some x) : (nhs l)[k]? = some [.string x.1, .int .u64 x.2] := by simp [nhs, h]
theorem nhs_snoc (l : List (ByteArray × Int)) (x : ByteArray × Int) : nhs l ++ [[.string x.1, .int .u64 x.2]] = nhs (l ++ [x]) := by simp [nhs]
theorem nhs_app (l m : List (ByteArray × Int)) : nhs (l ++ m) = nhs l ++ nhs m := by simp [nhs]
theorem nhs_ok (l : List (ByteArray × Int)) : OkE 2 (nhs l) := fun x hx => by
  obtain ⟨y, _, rfl⟩ := List.mem_map.1 hx
  exact ⟨rfl, fun u hu => by simp at hu; rcases hu with rfl | rfl <;> rfl⟩
theorem nhs_nil : nhs [] = [] := rfl
/-- the names with their handles -/
def nh (x : NB) : ByteArray × Int := (x.name, x.h)
def nh3 (r : Row3) : ByteArray × Int := (r.1, r.2.1)
theorem nh_ab (xs : List NB) : (xs.map ab).map nh3 = xs.map nh := by rw [List.map_map]; rfl

/-- those that begin with p -/
def fil (p : ByteArray) (rs : List (ByteArray × Int)) : List (ByteArray × Int) := rs.filter fun r => decide (hpre r.1 p)
theorem fil_nil (p : ByteArray) : fil p [] = [] := rfl
theorem fil_take {rs : List (ByteArray × Int)} {p : ByteArray} {k : Nat} {x : ByteArray × Int} (hx : rs[k]? = some x) (h : hpre x.1 p) : fil p (rs.take k) ++ [x] = fil p (rs.take (k + 1)) := by
  rw [List.take_add_one, hx, fil, fil, List.filter_append]; simp [h]
theorem fil_skip {rs : List (ByteArray × Int)} {p : ByteArray} {k : Nat} {x : ByteArray × Int} (hx : rs[k]? = some x) (h : ¬ hpre x.1 p) : fil p (rs.take k) = fil p (rs.take (k + 1)) := by
  rw [List.take_add_one, hx, fil, fil, List.filter_append]; simp [h]
theorem fil_all (rs : List (ByteArray × Int)) : fil ⟨#[]⟩ rs = rs := by
  refine List.filter_eq_self.2 fun r _ => decide_eq_true ⟨Nat.zero_le _, ?_⟩
  show mkS ((sb r.1).take 0) = ⟨#[]⟩
  rw [List.take_zero]; rfl
theorem fil_len {p : ByteArray} {rs : List (ByteArray × Int)} : (fil p rs).length ≤ rs.length := List.length_filter_le _ _

/-! ### look-ups -/
theorem fnd_in {xs : List NB} {k : Nat} {z : NB} (hz : xs[k]? = some z) (hu : Uniq xs) : fnd (xs.map ab) z.name = some (ab z) := by
  induction xs generalizing k with
  | nil => simp at hz
  | cons x l ih =>
    cases k with
    | zero => simp at hz; subst hz; simp [fnd, ab]
    | succ k =>
      simp at hz
      have h1 := List.pairwise_cons.1 hu
      have h2 := h1.1 z (List.mem_of_getElem? hz)
      have h3 := ih hz h1.2
      simp only [fnd] at h3 ⊢
      rw [List.map_cons, List.find?_cons_of_neg (p := fun r : Row3 => decide (r.1 = z.name)) (fun h => h2 (of_decide_eq_true h)), h3]
theorem fnd_out {xs : List NB} {s : ByteArray} (h : ∀ x : NB, x ∈ xs → x.name ≠ s) : fnd (xs.map ab) s = none := by
  refine List.find?_eq_none.2 fun r hr => ?_
  obtain ⟨y, hy, rfl⟩ := List.mem_map.1 hr
  exact fun he => h y hy (of_decide_eq_true he)
theorem rem_ab {xs : List NB} {k : Nat} {z : NB} (hz : xs[k]? = some z) (hu : Uniq xs) : (xs.eraseIdx k).map ab = remM (xs.map ab) z.name := by
  induction xs generalizing k with
  | nil => simp at hz
  | cons x l ih =>
    have h1 := List.pairwise_cons.1 hu
    cases k with
    | zero =>
      simp at hz; subst hz
      simp only [List.eraseIdx_cons_zero, remM, List.map_cons]
      rw [List.filter_cons_of_neg (by simp [ab]), List.filter_eq_self.2]
      intro r hr
      obtain ⟨y, hy, rfl⟩ := List.mem_map.1 hr
      exact decide_eq_true (fun e => h1.1 y hy e.symm)
    | succ k =>
      simp at hz
      have h2 := h1.1 z (List.mem_of_getElem? hz)
      have h3 := ih hz h1.2
      simp only [remM] at h3 ⊢
      rw [List.eraseIdx_cons_succ, List.map_cons, List.map_cons, List.filter_cons_of_pos (p := fun r : Row3 => decide (r.1 ≠ z.name)) (decide_eq_true h2), h3]
theorem chg_ab {xs : List NB} {k : Nat} {z z' : NB} {x y : Int} (hz : xs[k]? = some z) (hu : Uniq xs) (hz' : ab z' = (z.name, y, lgn z.lg x)) : (xs.set k z').map ab = chgM (xs.map ab) z.name x y := by
  induction xs generalizing k with
  | nil => simp at hz
  | cons u l ih =>
    have h1 := List.pairwise_cons.1 hu
    cases k with
    | zero =>
      simp at hz; subst hz
      simp only [List.set_cons_zero, chgM, List.map_cons, hz']
      rw [if_pos (show (ab u).1 = u.name from rfl)]
      congr 1
      rw [List.map_map]
      refine List.map_congr_left fun v hv => ?_
      simp only [Function.comp_def]
      rw [if_neg (fun e => h1.1 v hv e.symm)]
    | succ k =>
      simp at hz
      have h2 := h1.1 z (List.mem_of_getElem? hz)
      have h3 := ih hz h1.2
      simp only [chgM] at h3 ⊢
      rw [List.set_cons_succ, List.map_cons, List.map_cons, List.map_cons, if_neg (show ¬ (ab u).1 = z.name from h2), h3]
theorem nh_mem {rs : List (ByteArray × Int)} {xs : List NB} (hp : rs.Perm (xs.map nh)) {k : Nat} (hk : k < rs.length) : ∃ (j : Nat) (z : NB), xs[j]? = some z ∧ rs[k]? = some (z.name, z.h) := by
  have h1 : rs[k] ∈ xs.map nh := hp.mem_iff.1 (List.getElem_mem hk)
  obtain ⟨z, hz, he⟩ := List.mem_map.1 h1
  obtain ⟨j, hj⟩ := List.mem_iff_getElem?.1 hz
  exact ⟨j, z, hj, by rw [List.getElem?_eq_getElem hk, ← he]; rfl⟩
/-! ### the invariant -/
theorem TOk.nil : TOk [] 0 := ⟨List.Pairwise.nil, fun _ h => (by cases h), List.nodup_nil, fun _ h => (by cases h), by simp, fun _ h => (by cases h), fun _ h => (by cases h)⟩
theorem TOk.add {xs : List NB} {q : Nat} (h : TOk xs q) {s : ByteArray} {y : Int} {b : Nat} (hv : okName (sb s)) (h0 : y ≠ 0) (hn : ∀ x : NB, x ∈ xs → x.name ≠ s) (hl : xs.length ≠ 256) : TOk (xs ++ [NB.mk s y [] b none 0 q]) (q + 1) := by
  refine ⟨?_, fun x hx => ?_, ?_, fun x hx => ?_, ?_, fun x hx => ?_, fun x hx => ?_⟩
  · refine List.pairwise_append.2 ⟨h.uniq, List.pairwise_singleton _ _, fun a ha b hb => ?_⟩
    simp only [List.mem_singleton] at hb; subst hb
    exact hn a ha
  · rcases List.mem_append.1 hx with hx | hx
    · have := h.born x hx; omega
    · simp only [List.mem_singleton] at hx; subst hx; exact Nat.lt_succ_self _
  · rw [List.map_append, List.nodup_append]
    refine ⟨h.bnd, by simp, fun a ha b hb => ?_⟩
    obtain ⟨x, hx, rfl⟩ := List.mem_map.1 ha
    simp only [List.map_cons, List.map_nil, List.mem_singleton] at hb; subst hb
    have := h.born x hx; omega
  · rcases List.mem_append.1 hx with hx | hx
    · exact h.len x hx
    · simp only [List.mem_singleton] at hx; subst hx
      have := hv.1
      rwa [sb_len] at this
  · have := h.num; simp only [List.length_append, List.length_cons, List.length_nil]; omega
  · rcases List.mem_append.1 hx with hx | hx
    · exact h.lgs x hx
    · simp only [List.mem_singleton] at hx; subst hx; exact Nat.zero_le _
  · rcases List.mem_append.1 hx with hx | hx
    · exact h.nz x hx
    · simp only [List.mem_singleton] at hx; subst hx; exact h0
theorem TOk.rem {xs : List NB} {q : Nat} (h : TOk xs q) (k : Nat) : TOk (xs.eraseIdx k) q := by
  have hs := List.eraseIdx_sublist xs k
  exact ⟨h.uniq.sublist hs, fun x hx => h.born x (hs.subset hx), h.bnd.sublist (hs.map _), fun x hx => h.len x (hs.subset hx), Nat.le_trans hs.length_le h.num, fun x hx => h.lgs x (hs.subset hx), fun x hx => h.nz x (hs.subset hx)⟩
theorem TOk.chg {xs : List NB} {q : Nat} (h : TOk xs q) {k : Nat} {z z' : NB} (hz : xs[k]? = some z) (h1 : z'.name = z.name) (h2 : z'.born = z.born) (h3 : z'.lg.length ≤ 16) (h4 : z'.h ≠ 0) : TOk (xs.set k z') q := by
  have hl := (List.getElem?_eq_some_iff.1 hz).1
  have he : xs[k] = z := (List.getElem?_eq_some_iff.1 hz).2
  have hm : ∀ {α : Type} (f : NB → α), f z' = f z → (xs.set k z').map f = xs.map f := fun f hf => by
    rw [List.map_set, hf]
    have h5 : (xs.map f)[k]'(by simpa using hl) = f z := by simp [he]
    rw [← h5]; exact List.set_getElem_self _
  have hz1 : z ∈ xs := List.mem_of_getElem? hz
  have hmem : ∀ x ∈ xs.set k z', x = z' ∨ x ∈ xs := fun x hx => (List.mem_or_eq_of_mem_set hx).symm
  refine ⟨?_, fun x hx => ?_, ?_, fun x hx => ?_, by rw [List.length_set]; exact h.num, fun x hx => ?_, fun x hx => ?_⟩
  · have h6 := h.uniq
    unfold Uniq at h6 ⊢
    rw [← List.pairwise_map (f := NB.name) (R := fun a b => a ≠ b)] at h6 ⊢
    rw [hm NB.name h1]; exact h6
  · rcases hmem x hx with rfl | hx
    · rw [h2]; exact h.born z hz1
    · exact h.born x hx
  · rw [hm NB.born h2]; exact h.bnd
  · rcases hmem x hx with rfl | hx
    · rw [h1]; exact h.len z hz1
    · exact h.len x hx
  · rcases hmem x hx with rfl | hx
    · exact h3
    · exact h.lgs x hx
  · rcases hmem x hx with rfl | hx
    · exact h4
    · exact h.nz x hx
/-! ### sorted names -/
/-- names with their handles, in Go's order of the names -/
def Srt (rs : List (ByteArray × Int)) : Prop := rs.Pairwise fun a b => bleq a.1 b.1
theorem srt_ex (l : List (ByteArray × Int)) : ∃ rs, rs.Perm l ∧ Srt rs := by
  refine ⟨l.mergeSort fun a b => decide (a.1.data.toList ≤ b.1.data.toList), List.mergeSort_perm _ _, ?_⟩
  have h := List.pairwise_mergeSort (le := fun a b : ByteArray × Int => decide (a.1.data.toList ≤ b.1.data.toList)) (fun a b c h1 h2 => by
    simp only [decide_eq_true_eq] at h1 h2 ⊢; exact List.le_trans h1 h2) (fun a b => by
    simp only [Bool.or_eq_true, decide_eq_true_eq]; exact List.le_total _ _) l
  exact h.imp fun h => of_decide_eq_true h
theorem srt_eq {rs rs' : List (ByteArray × Int)} (h : Srt rs) (h' : Srt rs') (hp : rs.Perm rs') (hu : ∀ a ∈ rs, ∀ b ∈ rs, a.1 = b.1 → a = b) : rs = rs' := by
  refine List.Perm.eq_of_pairwise (le := fun a b : ByteArray × Int => bleq a.1 b.1) (fun a b ha hb h1 h2 => ?_) h h' hp
  exact hu a ha b (hp.mem_iff.2 hb) (bleq_anti h1 h2)
end Go.V
