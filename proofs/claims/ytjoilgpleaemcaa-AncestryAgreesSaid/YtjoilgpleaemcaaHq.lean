/-
  Plain law: the graph keeps step with the whole history.
  Conditions: none.
-/
import Derived.Test.YtjoilgpleaemcaaHr
namespace Go.V
open Go Go.RowKit

noncomputable def faultR (P : List PR) (B : List Bool) (cap : Int) (ps : List Int) : Int :=
  if ¬ okPs ps then 1 else if ¬ (∀ z ∈ ps, liveR B z = true) then 4 else if cap ≤ (numL (pres P B)).length then 2 else 0
noncomputable def baseR (P : List PR) (B : List Bool) (x y : Int) : Int := if liveR B x = true ∧ liveR B y = true then comR P x y else 0
structure RA (xs : List VN) (P : List PR) (B : List Bool) (la : Int) : Prop where
  pok : POk P
  len : (P.length : Int) = la
  lenB : B.length = P.length
  live : ∀ z, liveG xs z = liveR B z
  ab : ∀ z, preG xs z = true → ∀ u, u ∈ abG xs z ↔ (preG xs u = true ∧ Rch P z u)
  cov : ∀ x y, liveG xs x = true → liveG xs y = true → ∀ z, Rch P x z → Rch P y z → ∃ z', z ≤ z' ∧ preG xs z' = true ∧ Rch P x z' ∧ Rch P y z'
theorem RA.nil : RA [] [] [] 0 := ⟨POk.nil, rfl, rfl, fun z => by
  rw [liveR_no (by simp; omega)]; rfl, fun z h => (by cases h), fun x y h => (by cases h)⟩
theorem RA.base {xs : List VN} {P : List PR} {B : List Bool} {la : Int} {q : Nat} (h : RA xs P B la) (hG : GOk xs q) (x y : Int) : baseG xs x y = baseR P B x y := by
  unfold baseG baseR
  rw [← h.live x, ← h.live y]
  by_cases hl : liveG xs x = true ∧ liveG xs y = true
  · rw [if_pos hl, if_pos hl]
    have hx := h.ab x (live_pre hl.1)
    have hy := h.ab y (live_pre hl.2)
    rcases com_cases h.pok x y with ⟨h1, h2⟩ | ⟨h1, h2, h3⟩
    · rw [h1]
      exact gcm_no fun z hz hz2 => h2 z ((hx z).1 hz).2 ((hy z).1 hz2).2
    · obtain ⟨z', k1, k2, k3, k4⟩ := h.cov x y hl.1 hl.2 _ h1 h2
      have k5 := h3 z' k3 k4
      have k6 : z' = comR P x y := by omega
      rw [k6] at k2
      exact gcm_is (hG.ascA x) ((hx _).2 ⟨k2, h1⟩) ((hy _).2 ⟨k2, h2⟩) fun z hz hz2 => h3 z ((hx z).1 hz).2 ((hy z).1 hz2).2
  · rw [if_neg hl, if_neg hl]
theorem RA.pre {xs : List VN} {P : List PR} {B : List Bool} {la : Int} {q : Nat} (h : RA xs P B la) (hG : GOk xs q) (hK : KO xs) (z : Int) : preG xs z = liveR (pres P B) z := by
  have hb : ∀ x y, liveG xs x = true → liveG xs y = true → comR P x y = baseG xs x y := fun x y hx hy => by
    rw [h.base hG, baseR, if_pos ⟨by rw [← h.live]; exact hx, by rw [← h.live]; exact hy⟩]
  rw [Bool.eq_iff_iff, pres_iff h.pok]
  constructor
  · intro hz
    have hz0 : 0 < z := by
      obtain ⟨x, hx, e⟩ := pre_iff.1 hz
      have := (hG.rng x hx).1; omega
    rcases hK z hz with hl | ⟨_, x, y, hx, hy, hxy, he⟩
    · exact ⟨hz0, z, z, by rw [← h.live]; exact hl, by rw [← h.live]; exact hl, Int.le_refl _, by rw [hb z z hl hl, base_self hG hl]⟩
    · exact ⟨hz0, x, y, by rw [← h.live]; exact hx, by rw [← h.live]; exact hy, by omega, by rw [hb x y hx hy, he]⟩
  · rintro ⟨h0, u, v, hu, hv, _, he⟩
    rw [← h.live] at hu hv
    rw [hb u v hu hv] at he
    subst he
    exact base_pre hG (by omega)
theorem RA.vers {xs : List VN} {P : List PR} {B : List Bool} {la : Int} {q : Nat} {ss : List Int} (h : RA xs P B la) (hG : GOk xs q) (hK : KO xs) (hs : Keys xs ss) : ss = numL (pres P B) :=
  asc_ext hs.asc (numL_all _).1 fun z => by rw [hs.mem, numL_live, h.pre hG hK]
theorem RA.num {xs : List VN} {P : List PR} {B : List Bool} {la : Int} {q : Nat} (h : RA xs P B la) (hG : GOk xs q) (hK : KO xs) : (numL (pres P B)).length = xs.length := by
  obtain ⟨ss, hs⟩ := keys_ex hG.uniq
  rw [← h.vers hG hK hs, keys_len hs.perm]
theorem RA.fault {xs : List VN} {P : List PR} {B : List Bool} {la : Int} {q : Nat} (h : RA xs P B la) (hG : GOk xs q) (hK : KO xs) (cap : Int) (ps : List Int) : faultR P B cap ps = addE xs cap ps := by
  unfold faultR addE
  rw [h.num hG hK]
  simp only [h.live]
theorem RA.anc {xs : List VN} {P : List PR} {B : List Bool} {la : Int} {q : Nat} {ls : List Int} (h : RA xs P B la) (hG : GOk xs q) (hK : KO xs) {z : Int} (ha : Asc ls) (hm : ∀ u, u ∈ ls ↔ (liveR (pres P B) z = true ∧ liveR (pres P B) u = true ∧ Rch P z u)) : ls = abG xs z :=
  asc_ext ha (hG.ascA z) fun u => by
    rw [hm, ← h.pre hG hK, ← h.pre hG hK]
    cases hz : preG xs z with
    | true => rw [h.ab z hz]; simp
    | false =>
      have : abG xs z = [] := by
        cases hf : vfind xs z with
        | none => exact (g_out hf).2.2
        | some x => rw [(g_in hf).2.1] at hz; cases hz
      rw [this]; simp
theorem liveR_app {B : List Bool} (z : Int) : liveR (B ++ [true]) z = (liveR B z || decide (z = (B.length : Int) + 1)) := by
  by_cases h : 1 ≤ z ∧ z ≤ B.length
  · obtain ⟨x, hx⟩ : ∃ x, B[(z - 1).toNat]? = some x := ⟨_, List.getElem?_eq_getElem (by omega)⟩
    rw [liveR_at (by omega) hx, liveR_at (k := (z - 1).toNat) (by omega) (by rw [List.getElem?_append_left (by omega)]; exact hx), decide_eq_false (by omega), Bool.or_false]
  · rw [liveR_no h, Bool.false_or]
    by_cases h2 : z = (B.length : Int) + 1
    · rw [liveR_at (k := B.length) (x := true) h2 (by simp), decide_eq_true h2]
    · rw [liveR_no (by simp; omega), decide_eq_false h2]
theorem liveR_set {B : List Bool} {n : Int} (hn : liveR B n = true) (z : Int) : liveR (B.set (n - 1).toNat false) z = (liveR B z && decide (z ≠ n)) := by
  have hr := liveR_rng hn
  by_cases h : 1 ≤ z ∧ z ≤ B.length
  · obtain ⟨x, hx⟩ : ∃ x, B[(z - 1).toNat]? = some x := ⟨_, List.getElem?_eq_getElem (by omega)⟩
    rw [liveR_at (by omega) hx]
    by_cases he : z = n
    · subst he
      rw [liveR_at (k := (z - 1).toNat) (x := false) (by omega) (by rw [List.getElem?_set, if_pos rfl, if_pos (by omega)]), decide_eq_false (by simp), Bool.and_false]
    · rw [liveR_at (k := (z - 1).toNat) (x := x) (by omega) (by rw [List.getElem?_set, if_neg (by omega)]; exact hx), decide_eq_true he, Bool.and_true]
  · rw [liveR_no h, liveR_no (by rw [List.length_set]; exact h)]; rfl
theorem RA.add {xs xs2 : List VN} {P : List PR} {B : List Bool} {cap la la2 : Int} {q : Nat} {r : PR} (h : RA xs P B la) (hI : GI xs q cap la) (ha : AddP xs cap la r.ps xs2 la2) (h0 : addE xs cap r.ps = 0) : RA xs2 (P ++ [r]) (B ++ [true]) la2 := by
  obtain ⟨e1, _, ab, _, hab, hv⟩ := ha.vw hI.le h0
  obtain ⟨hok, hlv, _⟩ := addE_inv h0
  have hlen := h.len
  have hlb := h.lenB
  have hps : ∀ u ∈ r.ps, 1 ≤ u ∧ u ≤ (P.length : Int) := fun u hu => by
    have := hlv u hu
    rw [h.live] at this
    have := liveR_rng this
    omega
  have hP2 : POk (P ++ [r]) := h.pok.snoc hok.1 hps
  have hnew : ∀ u, Rch (P ++ [r]) (la + 1) u ↔ u = la + 1 ∨ ∃ p ∈ r.ps, Rch P p u := fun u => by rw [← hlen]; exact rch_new hP2
  have hold : ∀ z u, z ≤ la → (Rch (P ++ [r]) z u ↔ Rch P z u) := fun z u hz => ⟨fun k => k.old hP2 (by omega), fun k => k.mono⟩
  have hle : ∀ z, preG xs z = true → z ≤ la := fun z hz => by
    obtain ⟨x, hx, e⟩ := pre_iff.1 hz
    rw [← e]; exact hI.le x hx
  have hpre : ∀ z, preG xs2 z = true ↔ preG xs z = true ∨ z = la + 1 := fun z => by
    rw [pre_vw, pre_vw, hv]
    by_cases hz : z = la + 1
    · rw [if_pos hz]; simp [hz]
    · rw [if_neg hz]; simp [hz]
  have hlive : ∀ z, liveG xs2 z = (liveG xs z || decide (z = la + 1)) := fun z => by
    rw [live_vw, live_vw, hv]
    by_cases hz : z = la + 1
    · rw [if_pos hz, decide_eq_true hz, Bool.or_true]; rfl
    · rw [if_neg hz, decide_eq_false hz, Bool.or_false]
  have habn : abG xs2 (la + 1) = ab := by rw [ab_vw, hv, if_pos rfl]; rfl
  have habo : ∀ z, z ≠ la + 1 → abG xs2 z = abG xs z := fun z hz => by rw [ab_vw, ab_vw, hv, if_neg hz]
  refine ⟨hP2, by simp; omega, by simp; omega, fun z => ?_, fun z hz u => ?_, fun x y hx hy z hxz hyz => ?_⟩
  · rw [hlive, h.live, liveR_app]
    have : (z = la + 1) ↔ (z = (B.length : Int) + 1) := by omega
    simp [this]
  · by_cases hzn : z = la + 1
    · subst hzn
      rw [habn, hab, hnew, hpre]
      simp only [newAb, List.mem_append, List.mem_singleton, List.mem_flatMap]
      constructor
      · rintro (rfl | ⟨p, hp, hu⟩)
        · exact ⟨.inr rfl, .inl rfl⟩
        · have h3 := (h.ab p (live_pre (hlv p hp)) u).1 hu
          exact ⟨.inl h3.1, .inr ⟨p, hp, h3.2⟩⟩
      · rintro ⟨h1, rfl | ⟨p, hp, hu⟩⟩
        · exact .inl rfl
        · refine .inr ⟨p, hp, (h.ab p (live_pre (hlv p hp)) u).2 ⟨?_, hu⟩⟩
          rcases h1 with h1 | h1
          · exact h1
          · have := hu.rng h.pok
            have := hps p hp
            omega
    · have hz1 : preG xs z = true := ((hpre z).1 hz).resolve_right hzn
      have hzl := hle z hz1
      rw [habo z hzn, h.ab z hz1, hold z u hzl, hpre]
      constructor
      · rintro ⟨h1, h2⟩; exact ⟨.inl h1, h2⟩
      · rintro ⟨h1, h2⟩
        refine ⟨h1.resolve_right fun e => ?_, h2⟩
        have := h2.rng h.pok; omega
  · -- what two versions have in common
    have key : ∀ x y, liveG xs x = true ∨ x = la + 1 → liveG xs y = true → ∀ z, Rch (P ++ [r]) x z → Rch (P ++ [r]) y z → ∃ z', z ≤ z' ∧ preG xs2 z' = true ∧ Rch (P ++ [r]) x z' ∧ Rch (P ++ [r]) y z' := fun x y hx hy z hxz hyz => by
      have hyl := hle y (live_pre hy)
      rw [hold y z hyl] at hyz
      rcases hx with hx | rfl
      · rw [hold x z (hle x (live_pre hx))] at hxz
        obtain ⟨z', k1, k2, k3, k4⟩ := h.cov x y hx hy z hxz hyz
        exact ⟨z', k1, (hpre z').2 (.inl k2), k3.mono, k4.mono⟩
      · rcases (hnew z).1 hxz with rfl | ⟨p, hp, hk⟩
        · have := hyz.rng h.pok; omega
        · obtain ⟨z', k1, k2, k3, k4⟩ := h.cov p y (hlv p hp) hy z hk hyz
          exact ⟨z', k1, (hpre z').2 (.inl k2), (hnew z').2 (.inr ⟨p, hp, k3⟩), k4.mono⟩
    have hx2 : liveG xs x = true ∨ x = la + 1 := by rw [hlive] at hx; simpa using hx
    have hy2 : liveG xs y = true ∨ y = la + 1 := by rw [hlive] at hy; simpa using hy
    rcases hy2 with hy2 | rfl
    · exact key x y hx2 hy2 z hxz hyz
    · rcases hx2 with hx2 | rfl
      · obtain ⟨z', k1, k2, k3, k4⟩ := key (la + 1) x (.inr rfl) hx2 z hyz hxz
        exact ⟨z', k1, k2, k4, k3⟩
      · have := hxz.rng hP2
        exact ⟨la + 1, by omega, (hpre _).2 (.inr rfl), (hnew _).2 (.inl rfl), (hnew _).2 (.inl rfl)⟩
theorem RA.rel {xs xs2 : List VN} {P : List PR} {B : List Bool} {la n : Int} {q : Nat} (h : RA xs P B la) (hG : GOk xs q) (hR : RelQ xs n xs2) (hl : liveG xs n = true) : RA xs2 P (B.set (n - 1).toNat false) la := by
  replace hR : RelP xs n xs2 := by
    rcases hR with ⟨_, hR⟩ | ⟨h9, _⟩
    · exact hR
    · rw [hl] at h9; cases h9
  have hlive := (hR.facts hG).1
  obtain ⟨xs1, N, h1, h2, h3⟩ := hR
  have hG1 : GF (vw xs1) := by rw [show vw xs1 = dead (vw xs) n from funext h1]; exact hG.gf.dead n
  have hpos : ∀ z, (vw xs1 z).isSome = true → 1 ≤ z := fun z hz => by rw [h1, dead_iss] at hz; exact hG.pos z hz
  obtain ⟨k1, k2, k3⟩ := keep_base hG1 hpos h2 h3
  have hab1 : ∀ z, abG xs1 z = abG xs z := fun z => by
    rw [ab_vw, ab_vw, h1, dead]
    by_cases hz : z = n
    · rw [if_pos hz]; cases vw xs z <;> rfl
    · rw [if_neg hz]
  have hpre1 : ∀ z, preG xs1 z = preG xs z := fun z => by rw [pre_vw, pre_vw, h1, dead_iss]
  have hpre : ∀ z, preG xs2 z = true ↔ N z = true ∧ preG xs z = true := fun z => by
    rw [pre_vw, h3, ← hpre1, pre_vw]
    unfold keep
    cases hN : N z with
    | true => rw [if_pos rfl]; cases vw xs1 z <;> simp
    | false => rw [if_neg (by decide)]; simp
  have hlive1 : ∀ z, liveG xs1 z = (liveG xs z && decide (z ≠ n)) := fun z => by rw [← k1, hlive]
  refine ⟨h.pok, h.len, by rw [List.length_set]; exact h.lenB, fun z => ?_, fun z hz u => ?_, fun x y hx hy z hxz hyz => ?_⟩
  · rw [hlive, h.live, liveR_set (by rw [← h.live]; exact hl)]
  · have hz1 := (hpre z).1 hz
    rw [k2 z hz1.1, hab1, List.mem_filter, h.ab z hz1.2, hpre]
    constructor
    · rintro ⟨⟨a1, a2⟩, a3⟩; exact ⟨⟨a3, a1⟩, a2⟩
    · rintro ⟨⟨a3, a1⟩, a2⟩; exact ⟨⟨a1, a2⟩, a3⟩
  · have hx1 : liveG xs1 x = true := by rw [← k1]; exact hx
    have hy1 : liveG xs1 y = true := by rw [← k1]; exact hy
    have hx0 : liveG xs x = true := by rw [hlive1] at hx1; simp at hx1; exact hx1.1
    have hy0 : liveG xs y = true := by rw [hlive1] at hy1; simp at hy1; exact hy1.1
    rcases com_cases h.pok x y with ⟨_, e2⟩ | ⟨e1, e2, e3⟩
    · exact absurd hyz (e2 z hxz)
    · refine ⟨comR P x y, e3 z hxz hyz, ?_, e1, e2⟩
      have hcp := (e1.rng h.pok).1
      have hb : baseG xs x y = comR P x y := by rw [h.base hG, baseR, if_pos ⟨by rw [← h.live]; exact hx0, by rw [← h.live]; exact hy0⟩]
      have hb1 : baseG xs1 x y = comR P x y := by rw [← hb, baseG_pos hx1 hy1, baseG_pos hx0 hy0, hab1, hab1]
      refine (hpre _).2 ⟨(h2 _).2 ?_, ?_⟩
      · rcases Int.lt_trichotomy x y with hxy | hxy | hxy
        · exact .inr ⟨by omega, x, y, hx1, hy1, hxy, hb1⟩
        · subst hxy
          rw [base_self hG hx0] at hb
          rw [← hb]; exact .inl hx1
        · refine .inr ⟨by omega, y, x, hy1, hx1, hxy, ?_⟩
          rw [baseG_pos hy1 hx1, hab1, hab1, ← baseG_pos hy0 hx0, base_comm hG]; exact hb
      · rw [← hb]; exact base_pre hG (by rw [hb]; omega)
end Go.V
