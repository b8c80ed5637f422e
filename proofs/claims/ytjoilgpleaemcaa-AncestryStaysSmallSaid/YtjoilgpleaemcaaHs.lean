/-
  Plain law: with at most one parent each, the present versions are fewer than twice the live ones.
  Conditions: none.
-/
import Derived.Test.YtjoilgpleaemcaaGx
namespace Go.V
open Go Go.RowKit

/-- the ancestors of a version are a chain -/
def FO (xs : List VN) : Prop := ∀ z u v, u ∈ abG xs z → v ∈ abG xs z → u ≤ v → u ∈ abG xs v
theorem FO.nil : FO [] := fun z u v h => (by cases h)
theorem FO.add {xs xs2 : List VN} {q : Nat} {cap la la2 : Int} {ps : List Int} (h : FO xs) (hI : GI xs q cap la) (ha : AddP xs cap la ps xs2 la2) (hp : ps.length ≤ 1) : FO xs2 := by
  by_cases h0 : addE xs cap ps = 0
  · obtain ⟨_, _, ab, _, hab, hv⟩ := ha.vw hI.le h0
    have habn : abG xs2 (la + 1) = ab := by rw [ab_vw, hv, if_pos rfl]; rfl
    have habo : ∀ z, z ≠ la + 1 → abG xs2 z = abG xs z := fun z hz => by rw [ab_vw, ab_vw, hv, if_neg hz]
    have hle : ∀ p z, z ∈ abG xs p → z ≤ la := fun p z hz => by
      obtain ⟨x, hx, e⟩ := pre_iff.1 (abG_pos hI.ok p z hz).2
      rw [← e]; exact hI.le x hx
    intro z u v hu hv2 huv
    by_cases hz : z = la + 1
    · subst hz
      rw [habn] at hu hv2
      by_cases hvn : v = la + 1
      · rw [hvn, habn]; exact hu
      · rw [habo v hvn]
        rw [hab] at hu hv2
        simp only [newAb, List.mem_append, List.mem_singleton, List.mem_flatMap] at hu hv2
        obtain ⟨p, hp1, hv3⟩ := hv2.resolve_left hvn
        have := hle p v hv3
        obtain ⟨p', hp2, hu3⟩ := hu.resolve_left (by omega)
        have hpp : p' = p := by
          match ps, hp, hp1, hp2 with
          | [y], _, hp1, hp2 => rw [List.mem_singleton.1 hp1, List.mem_singleton.1 hp2]
        subst hpp
        exact h p' u v hu3 hv3 huv
    · rw [habo z hz] at hu hv2
      have := hle z v hv2
      rw [habo v (by omega)]
      exact h z u v hu hv2 huv
  · rcases ha with ⟨_, rfl, _⟩ | ⟨h2, _⟩
    · exact h
    · exact absurd h2 h0
theorem FO.rel {xs xs2 : List VN} {q : Nat} {n : Int} (h : FO xs) (hG : GOk xs q) (hR : RelQ xs n xs2) : FO xs2 := by
  rcases hR with ⟨_, xs1, N, h1, h2, h3⟩ | ⟨_, rfl⟩
  · have hG1 : GF (vw xs1) := by rw [show vw xs1 = dead (vw xs) n from funext h1]; exact hG.gf.dead n
    have hpos : ∀ z, (vw xs1 z).isSome = true → 1 ≤ z := fun z hz => by rw [h1, dead_iss] at hz; exact hG.pos z hz
    obtain ⟨_, k2, _⟩ := keep_base hG1 hpos h2 h3
    have hab1 : ∀ z, abG xs1 z = abG xs z := fun z => by
      rw [ab_vw, ab_vw, h1, dead]
      by_cases hz : z = n
      · rw [if_pos hz]; cases vw xs z <;> rfl
      · rw [if_neg hz]
    have hno : ∀ z, N z ≠ true → abG xs2 z = [] := fun z hz => by
      rw [ab_vw, h3, keep, if_neg hz]; rfl
    intro z u v hu hv huv
    by_cases hz : N z = true
    · rw [k2 z hz, hab1] at hu hv
      obtain ⟨hu1, hu2⟩ := List.mem_filter.1 hu
      obtain ⟨hv1, hv2⟩ := List.mem_filter.1 hv
      rw [k2 v hv2, hab1]
      exact List.mem_filter.2 ⟨h z u v hu1 hv1 huv, hu2⟩
    · rw [hno z hz] at hu; cases hu
  · exact h
/-- the greatest value of a function on a list -/
theorem max_on (f : Int → Int) : ∀ {l : List Int}, l ≠ [] → ∃ y ∈ l, ∀ z ∈ l, f z ≤ f y
  | [], h => absurd rfl h
  | [x], _ => ⟨x, List.mem_cons_self .., fun z hz => by rw [List.mem_singleton.1 hz]; exact Int.le_refl _⟩
  | x :: y :: t, _ => by
    obtain ⟨u, hu, hm⟩ := max_on f (l := y :: t) (by simp)
    by_cases hx : f u ≤ f x
    · refine ⟨x, List.mem_cons_self .., fun z hz => ?_⟩
      rcases List.mem_cons.1 hz with rfl | hz
      · exact Int.le_refl _
      · exact Int.le_trans (hm z hz) hx
    · refine ⟨u, List.mem_cons_of_mem _ hu, fun z hz => ?_⟩
      rcases List.mem_cons.1 hz with rfl | hz
      · omega
      · exact hm z hz
/-- the bases of pairs of some live versions: fewer than these -/
theorem bases_few {xs : List VN} {q : Nat} (hG : GOk xs q) (hF : FO xs) : ∀ S : List Int, (∀ z ∈ S, liveG xs z = true) → S ≠ [] → ∃ Bs : List Int, Bs.length + 1 ≤ S.length ∧ ∀ x ∈ S, ∀ y ∈ S, x ≠ y → 0 < baseG xs x y → baseG xs x y ∈ Bs
  | [], _, h => absurd rfl h
  | [x], _, _ => ⟨[], by simp, fun a ha b hb hab => absurd ((List.mem_singleton.1 ha).trans (List.mem_singleton.1 hb).symm) hab⟩
  | x :: w :: t, hl, _ => by
    obtain ⟨Bs, hlen, hB⟩ := bases_few hG hF (w :: t) (fun z hz => hl z (List.mem_cons_of_mem _ hz)) (by simp)
    obtain ⟨y0, hy0, hm⟩ := max_on (fun y => baseG xs x y) (l := w :: t) (by simp)
    have hlx := hl x (List.mem_cons_self ..)
    have hlT : ∀ z ∈ w :: t, liveG xs z = true := fun z hz => hl z (List.mem_cons_of_mem _ hz)
    -- a base with x is the greatest one, or one of the others
    have key : ∀ y ∈ w :: t, 0 < baseG xs x y → baseG xs x y ∈ baseG xs x y0 :: Bs := fun y hy hpos => by
      by_cases he : baseG xs x y = baseG xs x y0
      · rw [he]; exact List.mem_cons_self ..
      · have hlt : baseG xs x y < baseG xs x y0 := by
          have := hm y hy
          omega
        have hyy : y ≠ y0 := fun e => by subst e; exact he rfl
        have e1 := baseG_pos hlx (hlT y hy)
        have e2 := baseG_pos hlx (hlT y0 hy0)
        have e3 := baseG_pos (hlT y hy) (hlT y0 hy0)
        have c1 : gcm (abG xs x) (abG xs y) ∈ abG xs x ∧ gcm (abG xs x) (abG xs y) ∈ abG xs y ∧ ∀ z ∈ abG xs x, z ∈ abG xs y → z ≤ gcm (abG xs x) (abG xs y) := by
          rcases gcm_cases (l := abG xs x) (m := abG xs y) (hG.ascA x) with ⟨k, _⟩ | k
          · rw [e1, k] at hpos; omega
          · exact k
        have c2 : gcm (abG xs x) (abG xs y0) ∈ abG xs x ∧ gcm (abG xs x) (abG xs y0) ∈ abG xs y0 ∧ ∀ z ∈ abG xs x, z ∈ abG xs y0 → z ≤ gcm (abG xs x) (abG xs y0) := by
          rcases gcm_cases (l := abG xs x) (m := abG xs y0) (hG.ascA x) with ⟨k, _⟩ | k
          · rw [e2, k] at hlt; omega
          · exact k
        rw [← e1] at c1
        rw [← e2] at c2
        have tr : ∀ a b c, b ∈ abG xs a → c ∈ abG xs b → c ∈ abG xs a := fun a b c h1 h2 => by
          cases hf : vfind xs a with
          | none => rw [(g_out hf).2.2] at h1; cases h1
          | some r =>
            rw [(g_in hf).2.2] at h1 ⊢
            exact hG.tr r (vfind_some hf).1 b h1 c h2
        have hbm : baseG xs x y ∈ abG xs (baseG xs x y0) := hF x _ _ c1.1 c2.1 (Int.le_of_lt hlt)
        have hby0 : baseG xs x y ∈ abG xs y0 := tr _ _ _ c2.2.1 hbm
        have e4 : baseG xs y y0 = baseG xs x y := by
          rw [e3]
          refine gcm_is (hG.ascA y) c1.2.1 hby0 fun c hc hc0 => ?_
          rcases Int.lt_or_le (baseG xs x y0) c with hcm | hcm
          · -- then the greatest one with x is common to x and y
            have h1 : baseG xs x y0 ∈ abG xs c := hF y0 _ _ c2.2.1 hc0 (Int.le_of_lt hcm)
            have h2 := tr _ _ _ hc h1
            have := c1.2.2 _ c2.1 h2
            omega
          · have h1 : c ∈ abG xs (baseG xs x y0) := hF y0 _ _ hc0 c2.2.1 hcm
            exact c1.2.2 c (tr _ _ _ c2.1 h1) hc
        rw [← e4]
        exact List.mem_cons_of_mem _ (hB y hy y0 hy0 hyy (by rw [e4]; exact hpos))
    refine ⟨baseG xs x y0 :: Bs, by simp at hlen ⊢; omega, fun a ha b hb hab hpos => ?_⟩
    rcases List.mem_cons.1 ha with rfl | ha'
    · rcases List.mem_cons.1 hb with rfl | hb'
      · exact absurd rfl hab
      · exact key b hb' hpos
    · rcases List.mem_cons.1 hb with rfl | hb'
      · rw [base_comm hG b a] at hpos ⊢; exact key a ha' hpos
      · exact List.mem_cons_of_mem _ (hB a ha' b hb' hab hpos)
/-- the live versions -/
def LV (xs : List VN) (lv : List Int) : Prop := lv.Nodup ∧ ∀ z, z ∈ lv ↔ liveG xs z = true
theorem LV.nil : LV [] [] := ⟨List.nodup_nil, fun z => ⟨fun h => (by cases h), fun h => (by cases h)⟩⟩
theorem LV.few {xs : List VN} {q : Nat} {lv : List Int} (h : LV xs lv) (hG : GOk xs q) (hK : KO xs) (hF : FO xs) : (xs.length + 1 ≤ 2 * lv.length ∨ xs.length = 0) ∧ lv.length ≤ xs.length := by
  obtain ⟨ss, hs⟩ := keys_ex hG.uniq
  rw [← keys_len hs.perm]
  refine ⟨?_, nd_le h.1 fun z hz => (hs.mem z).2 (live_pre ((h.2 z).1 hz))⟩
  by_cases hne : lv = []
  · right
    have : ss = [] := List.eq_nil_iff_forall_not_mem.2 fun z hz => by
      subst hne
      rcases hK z ((hs.mem z).1 hz) with hl | ⟨_, x, y, hl, _⟩
      · have := (h.2 z).2 hl; cases this
      · have := (h.2 x).2 hl; cases this
    rw [this]; rfl
  · left
    obtain ⟨Bs, hlen, hB⟩ := bases_few hG hF lv (fun z hz => (h.2 z).1 hz) hne
    have h1 : ss.length ≤ (lv ++ Bs).length := nd_le hs.asc.nodup fun z hz => by
      rcases hK z ((hs.mem z).1 hz) with hl | ⟨hp, x, y, hx, hy, hxy, he⟩
      · exact List.mem_append_left _ ((h.2 z).2 hl)
      · subst he
        exact List.mem_append_right _ (hB x ((h.2 x).2 hx) y ((h.2 y).2 hy) (by omega) hp)
    rw [List.length_append] at h1
    omega
theorem LV.rel {xs xs2 : List VN} {q : Nat} {lv : List Int} {i : Nat} {n : Int} (h : LV xs lv) (hG : GOk xs q) (hi : lv[i]? = some n) (hR : RelQ xs n xs2) : LV xs2 (lv.take i ++ lv.drop (i + 1)) := by
  have hl := (h.2 n).1 (List.mem_of_getElem? hi)
  have hlive : ∀ z, liveG xs2 z = (liveG xs z && decide (z ≠ n)) := by
    rcases hR with ⟨_, hR⟩ | ⟨h9, _⟩
    · exact (hR.facts hG).1
    · rw [hl] at h9; cases h9
  have hlt := (List.getElem?_eq_some_iff.1 hi).1
  have hsp : lv = lv.take i ++ n :: lv.drop (i + 1) := by
    rw [← (List.getElem?_eq_some_iff.1 hi).2, List.getElem_cons_drop, List.take_append_drop]
  obtain ⟨hnd, hmem⟩ := h
  generalize lv.take i = T at hsp ⊢
  generalize lv.drop (i + 1) = D at hsp ⊢
  subst hsp
  obtain ⟨n1, n2, n3⟩ := List.nodup_append.1 hnd
  obtain ⟨n4, n5⟩ := List.nodup_cons.1 n2
  refine ⟨List.nodup_append.2 ⟨n1, n5, fun a ha b hb => n3 a ha b (List.mem_cons_of_mem _ hb)⟩, fun z => ?_⟩
  have hz := hmem z
  rw [hlive, Bool.and_eq_true, ← hz, decide_eq_true_eq, List.mem_append, List.mem_append, List.mem_cons]
  constructor
  · rintro (k | k)
    · exact ⟨.inl k, n3 z k n (List.mem_cons_self ..)⟩
    · exact ⟨.inr (.inr k), fun e => n4 (e ▸ k)⟩
  · rintro ⟨k | k | k, e⟩
    · exact .inl k
    · exact absurd k e
    · exact .inr k
theorem LV.add {xs xs2 : List VN} {q : Nat} {lv ps : List Int} {cap la la2 : Int} (h : LV xs lv) (hI : GI xs q cap la) (ha : AddP xs cap la ps xs2 la2) (h0 : addE xs cap ps = 0) : LV xs2 (lv ++ [addV xs cap la ps]) := by
  obtain ⟨_, _, hn, hlive, _⟩ := (ha.facts hI.le).resolve_left (fun k => k.1 h0)
  rw [addV, if_pos h0]
  refine ⟨List.nodup_append.2 ⟨h.1, List.pairwise_singleton _ _, fun a ha b hb e => ?_⟩, fun z => ?_⟩
  · rw [List.mem_singleton.1 hb] at e
    have h1 := live_pre ((h.2 a).1 ha)
    rw [e, hn] at h1; cases h1
  · rw [List.mem_append, List.mem_singleton, h.2, hlive]
    simp
end Go.V
