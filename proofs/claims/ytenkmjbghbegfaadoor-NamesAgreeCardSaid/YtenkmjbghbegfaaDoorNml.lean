/-
  Plain law: a table full of numbered names.
  Conditions: none.
-/
import Derived.Test.YtenkmjbghbegfaaDoorNmc
namespace Go.V
open Go

/-- "n" and three digits -/
def dig (i : Int) : ByteArray := mkS [110, 48 + i / 100 % 10, 48 + i / 10 % 10, 48 + i % 10]
theorem dig_sb (i : Int) : sb (dig i) = [110, 48 + i / 100 % 10, 48 + i / 10 % 10, 48 + i % 10] := sb_mkS fun x hx => by
  simp only [List.mem_cons, List.not_mem_nil, or_false] at hx; omega
theorem dig_inj {i j : Int} (hi : 0 ≤ i ∧ i ≤ 999) (hj : 0 ≤ j ∧ j ≤ 999) (h : dig i = dig j) : i = j := by
  have h1 := congrArg sb h
  rw [dig_sb, dig_sb] at h1
  simp only [List.cons.injEq, and_true, true_and] at h1
  omega
theorem dig_ok_all : ∀ i : Fin 256, okName (sb (dig (i.val : Int))) := by decide +kernel
theorem dig_ok {i : Int} (hi : 0 ≤ i ∧ i < 256) : okName (sb (dig i)) := by
  have := dig_ok_all ⟨i.toNat, by omega⟩
  rwa [show ((⟨i.toNat, by omega⟩ : Fin 256).val : Int) = i by simp; omega] at this
def more : ByteArray := ⟨#[109, 111, 114, 101]⟩
theorem more_ok : okName (sb more) := by decide +kernel
theorem dig_more (i : Int) : dig i ≠ more := fun h => by
  have h1 := congrArg sb h
  rw [dig_sb] at h1
  have h2 : sb more = [109, 111, 114, 101] := by decide +kernel
  rw [h2] at h1
  simp at h1
def bleqB (x y : ByteArray) : Bool := decide (x.data.toList ≤ y.data.toList)
theorem dig_le : ∀ i : Fin 255, bleqB (dig (i.val : Int)) (dig ((i.val + 1 : Nat) : Int)) = true := by decide +kernel
theorem dig_mono : ∀ (d i : Nat), i + d < 256 → bleq (dig i) (dig ((i + d : Nat) : Int))
  | 0, i, _ => List.le_refl _
  | d + 1, i, h => by
    refine bleq_trans (dig_mono d i (by omega)) ?_
    have h1 := dig_le ⟨i + d, by omega⟩
    have h2 : (dig ((i + d : Nat) : Int)).data.toList ≤ (dig ((i + d + 1 : Nat) : Int)).data.toList := of_decide_eq_true h1
    exact h2
/-- all the names -/
def lmR (h : Int) : List (ByteArray × Int) := (List.range 256).map fun i : Nat => (dig (i : Int), h)
def sg (j : Nat) : Int := ((j : Int) * 77 + 5) % 256
/-- the names that were added after k rounds -/
def lmT (k : Nat) (h : Int) : List Row3 := (List.range k).map fun j => (dig (sg j), h, [])
theorem lmR_len (h : Int) : (lmR h).length = 256 := by simp [lmR]
theorem lmR_at {h : Int} {k : Nat} (hk : k < 256) : (lmR h)[k]? = some (dig (k : Int), h) := by
  rw [lmR, List.getElem?_map, List.getElem?_range hk]; rfl
theorem lmR_srt (h : Int) : Srt (lmR h) := by
  unfold Srt lmR
  rw [List.pairwise_map]
  refine (List.pairwise_lt_range (n := 256)).imp_of_mem fun {i j} hi hj hij => ?_
  have hj' := List.mem_range.1 hj
  have := dig_mono (j - i) i (by omega)
  rwa [show i + (j - i) = j by omega] at this
theorem sg_perm : ((List.range 256).map fun j => (sg j).toNat).Perm (List.range 256) := by
  refine List.isPerm_iff.1 ?_
  decide +kernel
theorem lm_perm {xs : List NB} {h : Int} (hx : List.map ab xs = lmT 256 h) : (lmR h).Perm (List.map nh xs) := by
  rw [← nh_ab, hx, lmT, List.map_map]
  have h1 : (lmR h) = (List.range 256).map (fun i : Nat => (dig (i : Int), h)) := rfl
  have h2 : ((List.range 256).map (nh3 ∘ fun j => (dig (sg j), h, ([] : List Int)))) = ((List.range 256).map fun j => (sg j).toNat).map (fun i : Nat => (dig (i : Int), h)) := by
    rw [List.map_map]
    refine List.map_congr_left fun j _ => ?_
    simp only [Function.comp_def, nh3]
    rw [show (((sg j).toNat : Nat) : Int) = sg j by unfold sg; omega]
  rw [h1, h2]
  exact (sg_perm.map _).symm
theorem lm_add {k : Nat} {h : Int} (hk : k < 256) (h0 : h ≠ 0) : setM (lmT k h) (dig (sg k)) 0 h = (0, lmT (k + 1) h) := by
  have hn : fnd (lmT k h) (dig (sg k)) = none := fnd_none.2 fun r hr e => by
    obtain ⟨j, hj, rfl⟩ := List.mem_map.1 hr
    have hj' := List.mem_range.1 hj
    have h1 := dig_inj (i := sg j) (j := sg k) (by unfold sg; omega) (by unfold sg; omega) e
    unfold sg at h1
    omega
  rw [set_new (dig_ok (by unfold sg; omega)) h0 hn (by simp [lmT]; omega)]
  rw [lmT, lmT, List.range_succ, List.map_append]; rfl
theorem lm_more (k : Nat) (h : Int) : fnd (lmT k h) more = none := fnd_none.2 fun r hr => by
  obtain ⟨j, _, rfl⟩ := List.mem_map.1 hr
  exact dig_more _
theorem lm_in {h r : Int} (hr : 0 ≤ r ∧ r < 256) : ∃ x, fnd (lmT 256 h) (dig r) = some x ∧ x.2.1 = h := by
  cases hf : fnd (lmT 256 h) (dig r) with
  | some x =>
    obtain ⟨j, _, rfl⟩ := List.mem_map.1 (List.mem_of_find?_eq_some hf)
    exact ⟨_, rfl, rfl⟩
  | none =>
    have h1 := fnd_none.1 hf
    have h2 : r.toNat ∈ (List.range 256).map fun j => (sg j).toNat := sg_perm.mem_iff.2 (List.mem_range.2 (by omega))
    obtain ⟨j, hj, hj2⟩ := List.mem_map.1 h2
    refine absurd ?_ (h1 (dig (sg j), h, []) (List.mem_map.2 ⟨j, hj, rfl⟩))
    show dig (sg j) = dig r
    rw [show sg j = r by unfold sg at hj2 ⊢; omega]
theorem set_put {R : List Row3} {s : ByteArray} {x y : Int} {r : Row3} (hv : okName (sb s)) (hy : y ≠ 0) (hf : fnd R s = some r) (hr : r.2.1 = x) : setM R s x y = (0, chgM R s x y) := by
  obtain ⟨h1, h2, _⟩ := getH_some hf
  unfold setM
  rw [if_neg (fun h => h ⟨hv, fun k => hy k.2⟩), h1, if_neg (fun h => h hr), h2, if_pos rfl, if_neg hy]
theorem set_rem {R : List Row3} {s : ByteArray} {x : Int} {r : Row3} (hv : okName (sb s)) (hx : x ≠ 0) (hf : fnd R s = some r) (hr : r.2.1 = x) : setM R s x 0 = (0, remM R s) := by
  obtain ⟨h1, h2, _⟩ := getH_some hf
  unfold setM
  rw [if_neg (fun h => h ⟨hv, fun k => hx k.1⟩), h1, if_neg (fun h => h hr), h2, if_pos rfl, if_pos rfl]
theorem rem_len {xs : List NB} {s : ByteArray} {r : Row3} (hu : Uniq xs) (hf : fnd (List.map ab xs) s = some r) : (remM (List.map ab xs) s).length + 1 = xs.length := by
  rcases nb_cases xs s with ⟨k, z, hz, rfl⟩ | hn
  · rw [← rem_ab hz hu, List.length_map, List.length_eraseIdx]
    have := (List.getElem?_eq_some_iff.1 hz).1
    rw [if_pos this]; omega
  · rw [fnd_out hn] at hf; cases hf
theorem chg_none {R : List Row3} {s t : ByteArray} {x y : Int} (h : fnd R t = none) : fnd (chgM R s x y) t = none := fnd_none.2 fun r hr => by
  obtain ⟨r0, hr0, rfl⟩ := List.mem_map.1 hr
  have := fnd_none.1 h r0 hr0
  split <;> exact this
theorem rem_none {R : List Row3} {s t : ByteArray} (h : fnd R t = none) : fnd (remM R s) t = none := fnd_none.2 fun r hr => fnd_none.1 h r (List.mem_filter.1 hr).1
end Go.V
