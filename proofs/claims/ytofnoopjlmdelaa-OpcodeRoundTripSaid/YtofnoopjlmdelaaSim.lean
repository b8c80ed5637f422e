/-
  The two readers give the same results.
  Conditions: the bytes are bytes.
-/
import Derived.Test.YtofnoopjlmdelaaQop
namespace Go.V
open Go

section
variable {bs : List Int} {p : Nat} {e : Int}
theorem fl_ne {e e2 : Int} (h : e ≠ 0) : fl e e2 = e := by rw [fl, if_neg h]
theorem fl_0 {e2 : Int} : fl 0 e2 = e2 := by rw [fl, if_pos rfl]
/-! ### a first error stays -/
theorem rU_s (h : e ≠ 0) : rU bs p e = (0, p, e) := by rw [rU, if_pos h]
theorem rZ_s (h : e ≠ 0) : (rZ bs p e).2 = (p, e) := by rw [rZ, rU_s h]
theorem rB_s (h : e ≠ 0) : rB bs p e = (0, p, e) := by rw [rB, if_pos h]
theorem rBool_s (h : e ≠ 0) : (rBool bs p e).2 = (p, e) := by rw [rBool, rB_s h]; simp
theorem rLim_s {lim : Int} (h : e ≠ 0) (hl : 0 ≤ lim) : rLim bs lim p e = (0, p, e) := by rw [rLim, rU_s h, if_neg (by simp only; omega)]
theorem rEl_s {lim : Int} (h : e ≠ 0) (hl : 0 ≤ lim) : (rEl bs lim p e).2.2 = e := by
  rw [rEl, rLim_s h hl, rLeft]; split
  · exact fl_ne h
  · rfl
theorem rCnt_s (h : e ≠ 0) : (rCnt bs p e).2.2 = e := by
  rw [rCnt, rU_s h, rLeft]; split
  · exact fl_ne h
  · rfl
theorem rBytes_s {n : Nat} (h : e ≠ 0) : (rBytes bs n p e).2.2 = e := by
  rw [rBytes]; split
  · exact fl_ne h
  · rw [if_pos (.inl h)]
theorem qU_s {m : Int} (h : e ≠ 0) : qU bs m p e = (0, p, e) := by rw [qU, if_pos h]
theorem qZ_s (h : e ≠ 0) : (qZ bs p e).2 = (p, e) := by rw [qZ, qU_s h]
theorem qC_s {m : Int} (h : e ≠ 0) : qC bs m p e = (0, p, e) := by rw [qC, if_pos h]
theorem qSize_s {m : Int} (h : e ≠ 0) : (qSize bs m p e).2 = (p, e) := by rw [qSize, qU_s h, if_pos h]
theorem qText_s {m : Int} (h : e ≠ 0) : (qText bs m p e).2 = (p, e) := by
  have h1 := qSize_s (bs := bs) (p := p) (m := m) h
  rw [qText, h1, if_pos h]
theorem rField_s {f : Int} {x : OpM} (h : e ≠ 0) : (rField bs f x p e).2.2 = e := by
  by_cases hf : Ltr f
  · unfold Ltr at hf
    rcases hf with rfl | rfl | rfl | rfl | rfl | rfl | rfl | rfl | rfl | rfl | rfl | rfl
    · rw [rField_A, rU_s h]
    · rw [rField_B, rU_s h]
    · rw [rField_K, rZ_s h]
    · rw [rField_V, rZ_s h]
    · rw [rField_L, rZ_s h]
    · rw [rField_H, rZ_s h]
    · rw [rField_N, rLim_s h (by decide)]
    · rw [rField_F, rBool_s h]
    · rw [rField_S, rLim_s h (by decide)]; exact rBytes_s h
    · rw [rField_Y, rLim_s h (by decide)]; exact rBytes_s h
    · rw [rField_E]; simp only; rw [rEnts_0 (by rw [rEl_s h (by decide)]; exact h)]; exact rEl_s h (by decide)
    · rw [rField_C]; simp only; rw [rChs_0 (by rw [rEl_s h (by decide)]; exact h)]; exact rEl_s h (by decide)
  · rw [rField_no hf]
theorem rFields_s : ∀ {l : List Int} {x : OpM} {p : Nat} {e : Int}, e ≠ 0 → (rFields bs l x p e).2.2 = e
  | [], _, _, _, _ => rfl
  | f :: l, x, p, e, h => by
    have h1 := rField_s (bs := bs) (p := p) (f := f) (x := x) h
    rw [rFields, rFields_s (by rw [h1]; exact h), h1]

/-! ### lists -/
theorem Sim.of {α : Type} {r q : α × Nat × Int} (h : q.2.2 = r.2.2) (h2 : r.2.2 = 0 → q = r) : Sim r q := ⟨h, h2⟩
/-- what follows is the same, where nothing went wrong; an error stays -/
theorem Sim.bind {α β : Type} {r q : α × Nat × Int} (h : Sim r q) {f g : α × Nat × Int → β × Nat × Int} (hf : ∀ z : α × Nat × Int, z.2.2 ≠ 0 → (f z).2.2 = z.2.2) (hg : ∀ z : α × Nat × Int, z.2.2 ≠ 0 → (g z).2.2 = z.2.2) (hs : r.2.2 = 0 → Sim (f r) (g r)) : Sim (f r) (g q) := by
  by_cases h0 : r.2.2 = 0
  · rw [h.2 h0]; exact hs h0
  · have h1 : q.2.2 ≠ 0 := by rw [h.1]; exact h0
    exact ⟨by rw [hg q h1, hf r h0, h.1], fun hh => absurd (by rw [← hf r h0]; exact hh) h0⟩
theorem sim_Ents (hb : B8 bs) : ∀ (n p : Nat) (e : Int), Sim (rEnts bs n p e) (qEnts bs n p e)
  | 0, p, e => Sim.refl _
  | n + 1, p, e => by
    by_cases he : e = 0
    · unfold rEnts qEnts
      rw [if_neg (by simp [he]), if_neg (by simp [he])]
      refine Sim.bind (f := fun k => ((k.1, (rZ bs k.2.1 k.2.2).1) :: (rEnts bs n (rZ bs k.2.1 k.2.2).2.1 (rZ bs k.2.1 k.2.2).2.2).1, (rEnts bs n (rZ bs k.2.1 k.2.2).2.1 (rZ bs k.2.1 k.2.2).2.2).2))
        (g := fun k => ((k.1, (qZ bs k.2.1 k.2.2).1) :: (qEnts bs n (qZ bs k.2.1 k.2.2).2.1 (qZ bs k.2.1 k.2.2).2.2).1, (qEnts bs n (qZ bs k.2.1 k.2.2).2.1 (qZ bs k.2.1 k.2.2).2.2).2)) (sim_Z hb) ?_ ?_ ?_
      · intro z hz; simp only [rZ_s hz]; rw [rEnts_0 hz]
      · intro z hz; simp only [qZ_s hz]; rw [qEnts_0 hz]
      · intro _
        refine Sim.bind (f := fun v => (((rZ bs p e).1, v.1) :: (rEnts bs n v.2.1 v.2.2).1, (rEnts bs n v.2.1 v.2.2).2)) (g := fun v => (((rZ bs p e).1, v.1) :: (qEnts bs n v.2.1 v.2.2).1, (qEnts bs n v.2.1 v.2.2).2)) (sim_Z hb) ?_ ?_ ?_
        · intro z hz; simp only; rw [rEnts_0 hz]
        · intro z hz; simp only; rw [qEnts_0 hz]
        · intro _
          have h := sim_Ents hb n (rZ bs (rZ bs p e).2.1 (rZ bs p e).2.2).2.1 (rZ bs (rZ bs p e).2.1 (rZ bs p e).2.2).2.2
          exact ⟨h.1, fun hh => by rw [h.2 hh]⟩
    · rw [rEnts_0 he, qEnts_0 he]; exact Sim.refl _
theorem sim_Chs (hb : B8 bs) : ∀ (n p : Nat) (e : Int), Sim (rChs bs n p e) (qChs bs n p e)
  | 0, p, e => Sim.refl _
  | n + 1, p, e => by
    by_cases he : e = 0
    · unfold rChs qChs
      rw [if_neg (by simp [he]), if_neg (by simp [he])]
      have tl : ∀ (c k u : Int) (v : Int × Nat × Int), Sim ((c, k, u, v.1) :: (rChs bs n v.2.1 v.2.2).1, (rChs bs n v.2.1 v.2.2).2) ((c, k, u, v.1) :: (qChs bs n v.2.1 v.2.2).1, (qChs bs n v.2.1 v.2.2).2) := fun c k u v => by
        have h := sim_Chs hb n v.2.1 v.2.2
        exact ⟨h.1, fun hh => by rw [h.2 hh]⟩
      refine Sim.bind (f := fun c => ((c.1, (rZ bs c.2.1 c.2.2).1, (rZ bs (rZ bs c.2.1 c.2.2).2.1 (rZ bs c.2.1 c.2.2).2.2).1, (rZ bs (rZ bs (rZ bs c.2.1 c.2.2).2.1 (rZ bs c.2.1 c.2.2).2.2).2.1 (rZ bs (rZ bs c.2.1 c.2.2).2.1 (rZ bs c.2.1 c.2.2).2.2).2.2).1) :: (rChs bs n (rZ bs (rZ bs (rZ bs c.2.1 c.2.2).2.1 (rZ bs c.2.1 c.2.2).2.2).2.1 (rZ bs (rZ bs c.2.1 c.2.2).2.1 (rZ bs c.2.1 c.2.2).2.2).2.2).2.1 (rZ bs (rZ bs (rZ bs c.2.1 c.2.2).2.1 (rZ bs c.2.1 c.2.2).2.2).2.1 (rZ bs (rZ bs c.2.1 c.2.2).2.1 (rZ bs c.2.1 c.2.2).2.2).2.2).2.2).1, (rChs bs n (rZ bs (rZ bs (rZ bs c.2.1 c.2.2).2.1 (rZ bs c.2.1 c.2.2).2.2).2.1 (rZ bs (rZ bs c.2.1 c.2.2).2.1 (rZ bs c.2.1 c.2.2).2.2).2.2).2.1 (rZ bs (rZ bs (rZ bs c.2.1 c.2.2).2.1 (rZ bs c.2.1 c.2.2).2.2).2.1 (rZ bs (rZ bs c.2.1 c.2.2).2.1 (rZ bs c.2.1 c.2.2).2.2).2.2).2.2).2))
        (g := fun c => ((c.1, (qZ bs c.2.1 c.2.2).1, (qZ bs (qZ bs c.2.1 c.2.2).2.1 (qZ bs c.2.1 c.2.2).2.2).1, (qZ bs (qZ bs (qZ bs c.2.1 c.2.2).2.1 (qZ bs c.2.1 c.2.2).2.2).2.1 (qZ bs (qZ bs c.2.1 c.2.2).2.1 (qZ bs c.2.1 c.2.2).2.2).2.2).1) :: (qChs bs n (qZ bs (qZ bs (qZ bs c.2.1 c.2.2).2.1 (qZ bs c.2.1 c.2.2).2.2).2.1 (qZ bs (qZ bs c.2.1 c.2.2).2.1 (qZ bs c.2.1 c.2.2).2.2).2.2).2.1 (qZ bs (qZ bs (qZ bs c.2.1 c.2.2).2.1 (qZ bs c.2.1 c.2.2).2.2).2.1 (qZ bs (qZ bs c.2.1 c.2.2).2.1 (qZ bs c.2.1 c.2.2).2.2).2.2).2.2).1, (qChs bs n (qZ bs (qZ bs (qZ bs c.2.1 c.2.2).2.1 (qZ bs c.2.1 c.2.2).2.2).2.1 (qZ bs (qZ bs c.2.1 c.2.2).2.1 (qZ bs c.2.1 c.2.2).2.2).2.2).2.1 (qZ bs (qZ bs (qZ bs c.2.1 c.2.2).2.1 (qZ bs c.2.1 c.2.2).2.2).2.1 (qZ bs (qZ bs c.2.1 c.2.2).2.1 (qZ bs c.2.1 c.2.2).2.2).2.2).2.2).2)) (sim_C hb) ?_ ?_ ?_
      · intro z hz; simp only [rZ_s hz]; rw [rChs_0 hz]
      · intro z hz; simp only [qZ_s hz]; rw [qChs_0 hz]
      · intro _
        refine Sim.bind (f := fun k => (((rB bs p e).1, k.1, (rZ bs k.2.1 k.2.2).1, (rZ bs (rZ bs k.2.1 k.2.2).2.1 (rZ bs k.2.1 k.2.2).2.2).1) :: (rChs bs n (rZ bs (rZ bs k.2.1 k.2.2).2.1 (rZ bs k.2.1 k.2.2).2.2).2.1 (rZ bs (rZ bs k.2.1 k.2.2).2.1 (rZ bs k.2.1 k.2.2).2.2).2.2).1, (rChs bs n (rZ bs (rZ bs k.2.1 k.2.2).2.1 (rZ bs k.2.1 k.2.2).2.2).2.1 (rZ bs (rZ bs k.2.1 k.2.2).2.1 (rZ bs k.2.1 k.2.2).2.2).2.2).2))
          (g := fun k => (((rB bs p e).1, k.1, (qZ bs k.2.1 k.2.2).1, (qZ bs (qZ bs k.2.1 k.2.2).2.1 (qZ bs k.2.1 k.2.2).2.2).1) :: (qChs bs n (qZ bs (qZ bs k.2.1 k.2.2).2.1 (qZ bs k.2.1 k.2.2).2.2).2.1 (qZ bs (qZ bs k.2.1 k.2.2).2.1 (qZ bs k.2.1 k.2.2).2.2).2.2).1, (qChs bs n (qZ bs (qZ bs k.2.1 k.2.2).2.1 (qZ bs k.2.1 k.2.2).2.2).2.1 (qZ bs (qZ bs k.2.1 k.2.2).2.1 (qZ bs k.2.1 k.2.2).2.2).2.2).2)) (sim_Z hb) ?_ ?_ ?_
        · intro z hz; simp only [rZ_s hz]; rw [rChs_0 hz]
        · intro z hz; simp only [qZ_s hz]; rw [qChs_0 hz]
        · intro _
          generalize rB bs p e = c
          generalize rZ bs c.2.1 c.2.2 = k
          refine Sim.bind (f := fun u => ((c.1, k.1, u.1, (rZ bs u.2.1 u.2.2).1) :: (rChs bs n (rZ bs u.2.1 u.2.2).2.1 (rZ bs u.2.1 u.2.2).2.2).1, (rChs bs n (rZ bs u.2.1 u.2.2).2.1 (rZ bs u.2.1 u.2.2).2.2).2))
            (g := fun u => ((c.1, k.1, u.1, (qZ bs u.2.1 u.2.2).1) :: (qChs bs n (qZ bs u.2.1 u.2.2).2.1 (qZ bs u.2.1 u.2.2).2.2).1, (qChs bs n (qZ bs u.2.1 u.2.2).2.1 (qZ bs u.2.1 u.2.2).2.2).2)) (sim_Z hb) ?_ ?_ ?_
          · intro z hz; simp only [rZ_s hz]; rw [rChs_0 hz]
          · intro z hz; simp only [qZ_s hz]; rw [qChs_0 hz]
          · intro _
            generalize rZ bs k.2.1 k.2.2 = u
            refine Sim.bind (f := fun v => ((c.1, k.1, u.1, v.1) :: (rChs bs n v.2.1 v.2.2).1, (rChs bs n v.2.1 v.2.2).2)) (g := fun v => ((c.1, k.1, u.1, v.1) :: (qChs bs n v.2.1 v.2.2).1, (qChs bs n v.2.1 v.2.2).2)) (sim_Z hb) ?_ ?_ ?_
            · intro z hz; simp only; rw [rChs_0 hz]
            · intro z hz; simp only; rw [qChs_0 hz]
            · intro _; exact tl _ _ _ _
    · rw [rChs_0 he, qChs_0 he]; exact Sim.refl _
theorem sim_Ints (hb : B8 bs) : ∀ (n p : Nat) (e : Int), Sim (rInts bs n p e) (qInts bs n p e)
  | 0, p, e => Sim.refl _
  | n + 1, p, e => by
    by_cases he : e = 0
    · unfold rInts qInts
      rw [if_neg (by simp [he]), if_neg (by simp [he])]
      refine Sim.bind (f := fun v => (v.1 :: (rInts bs n v.2.1 v.2.2).1, (rInts bs n v.2.1 v.2.2).2)) (g := fun v => (v.1 :: (qInts bs n v.2.1 v.2.2).1, (qInts bs n v.2.1 v.2.2).2)) (sim_Z hb) ?_ ?_ ?_
      · intro z hz; simp only; rw [rInts_0 hz]
      · intro z hz; simp only; rw [qInts_0 hz]
      · intro _
        have h := sim_Ints hb n (rZ bs p e).2.1 (rZ bs p e).2.2
        exact ⟨h.1, fun hh => by rw [h.2 hh]⟩
    · rw [rInts_0 he, qInts_0 he]; exact Sim.refl _
theorem sim_left {most : Int} {r : Int × Nat × Int} (h : Sim r (qU bs most p e)) : Sim (rLeft bs r) (qSize bs most p e) := by
  unfold rLeft qSize
  by_cases h0 : r.2.2 = 0
  · simp only [h.2 h0, h0, ne_eq, not_true_eq_false, if_false, fl_0]
    split
    · exact Sim.refl _
    · exact Sim.refl _
  · have h1 : (qU bs most p e).2.2 ≠ 0 := by rw [h.1]; exact h0
    rw [if_pos h1]
    have e1 : fl r.2.2 12 = r.2.2 := fl_ne h0
    split
    · exact ⟨by rw [h.1]; exact e1.symm, fun hh => absurd (by rw [← e1]; exact hh) h0⟩
    · exact ⟨h.1, fun hh => absurd hh h0⟩
theorem sim_El {lim : Int} (hl : 0 ≤ lim) : Sim (rEl bs lim p e) (qSize bs lim p e) := sim_left (sim_Lim hl)
theorem sim_Cnt (hb : B8 bs) : Sim (rCnt bs p e) (qSize bs 18446744073709551615 p e) := sim_left (sim_U hb)
theorem sim_bytes {most : Int} {r : Int × Nat × Int} (hp : r.2.1 ≤ bs.length) (h0n : 0 ≤ r.1) (h : Sim r (qU bs most p e)) : Sim (rBytes bs r.1.toNat r.2.1 r.2.2) (qText bs most p e) := by
  by_cases h0 : r.2.2 = 0
  · obtain ⟨v, q, er⟩ := r
    simp only at h0 hp h0n
    subst h0
    have hq : qU bs most p e = (v, q, 0) := h.2 rfl
    have hs : qSize bs most p e = if (bs.length : Int) - q < v then (0, q, 12) else (v, q, 0) := by
      unfold qSize; rw [hq]; simp only [ne_eq, not_true_eq_false, if_false]
    unfold rBytes qText
    rw [hs]
    simp only [fl_0]
    by_cases hlt : (bs.length : Int) - q < v
    · have h1 : bs.length - q < v.toNat := by omega
      simp only [if_pos hlt, if_pos h1]
      exact ⟨rfl, fun hh => by simp at hh⟩
    · have h1 : ¬ (bs.length - q < v.toNat) := by omega
      simp only [if_neg hlt, if_neg h1]
      by_cases hn : v.toNat = 0
      · simp only [hn, or_true, if_true, ne_eq, not_true_eq_false, if_false, List.take_zero, Nat.add_zero]; exact Sim.refl _
      · simp only [hn, ne_eq, not_true_eq_false, false_or, if_false]; exact Sim.refl _
  · have h1 : (qU bs most p e).2.2 ≠ 0 := by rw [h.1]; exact h0
    have h2 : (qText bs most p e).2.2 = r.2.2 := by
      have h3 : (qSize bs most p e).2.2 = r.2.2 := by rw [qSize, if_pos h1]; exact h.1
      rw [qText, if_pos (by rw [h3]; exact h0)]; exact h3
    exact ⟨by rw [h2, rBytes_s h0], fun hh => absurd (by rw [← rBytes_s h0]; exact hh) h0⟩

/-! ### operations -/
theorem Sim.map {α β : Type} {r q : α × Nat × Int} (h : Sim r q) (f : α → β) : Sim (f r.1, r.2) (f q.1, q.2) := ⟨h.1, fun hh => by rw [h.2 hh]⟩
theorem sim_list {α : Type} {r q : Int × Nat × Int} (h : Sim r q) {f g : Nat → Nat → Int → α × Nat × Int} (hs : ∀ n p e, Sim (f n p e) (g n p e)) (hf : ∀ n p e, e ≠ 0 → (f n p e).2.2 = e) (hg : ∀ n p e, e ≠ 0 → (g n p e).2.2 = e) :
    Sim (f r.1.toNat r.2.1 r.2.2) (g q.1.toNat q.2.1 q.2.2) :=
  Sim.bind (f := fun z => f z.1.toNat z.2.1 z.2.2) (g := fun z => g z.1.toNat z.2.1 z.2.2) h (fun _ hz => hf _ _ _ hz) (fun _ hz => hg _ _ _ hz) fun _ => hs _ _ _
theorem sim_Field (hb : B8 bs) (hp : p ≤ bs.length) {f : Int} (hf : Ltr f) (x : OpM) : Sim (rField bs f x p e) (qField bs (f + 32) x p e) := by
  unfold Ltr at hf
  rcases hf with rfl | rfl | rfl | rfl | rfl | rfl | rfl | rfl | rfl | rfl | rfl | rfl
  · rw [rField_A]; exact (sim_U hb).map fun v => { x with a := v }
  · rw [rField_B]; exact (sim_U hb).map fun v => { x with b := v }
  · rw [rField_K]; exact (sim_Z hb).map fun v => { x with key := v }
  · rw [rField_V]; exact (sim_Z hb).map fun v => { x with val := v }
  · rw [rField_L]; exact (sim_Z hb).map fun v => { x with lo := v }
  · rw [rField_H]; exact (sim_Z hb).map fun v => { x with hi := v }
  · rw [rField_N]; exact (sim_Lim (lim := 2147483647) (by decide)).map fun v => { x with n := v }
  · rw [rField_F]; exact sim_Bool.map fun v => { x with flag := v }
  · rw [rField_S]; exact (sim_bytes (r := rLim bs 32 p e) (rLim_p hp).2 (rLim_b hb (by decide)).1 (sim_Lim (lim := 32) (by decide))).map fun v => { x with name := mkS v }
  · rw [rField_Y]; exact (sim_bytes (r := rLim bs 65536 p e) (rLim_p hp).2 (rLim_b hb (by decide)).1 (sim_Lim (lim := 65536) (by decide))).map fun v => { x with bytes := v }
  · rw [rField_E]; exact (sim_list (sim_El (lim := 1000) (by decide)) (sim_Ents hb) (fun _ _ _ h => by rw [rEnts_0 h]) (fun _ _ _ h => by rw [qEnts_0 h])).map fun v => { x with ents := v }
  · rw [rField_C]; exact (sim_list (sim_El (lim := 1000) (by decide)) (sim_Chs hb) (fun _ _ _ h => by rw [rChs_0 h]) (fun _ _ _ h => by rw [qChs_0 h])).map fun v => { x with chs := v }
theorem qFields_s : ∀ {l : List Int} {x : OpM} {p : Nat} {e : Int}, e ≠ 0 → qFields bs l x p e = (x, p, e)
  | [], _, _, _, _ => rfl
  | f :: l, x, p, e, h => by rw [qFields, if_pos h]
theorem sim_Fields (hb : B8 bs) : ∀ (l : List Int) (x : OpM) (p : Nat) (e : Int), (∀ f ∈ l, Ltr f) → p ≤ bs.length → Sim (rFields bs l x p e) (qFields bs l x p e)
  | [], _, _, _, _, _ => Sim.refl _
  | f :: l, x, p, e, hl, hp => by
    by_cases he : e = 0
    · rw [rFields, qFields, if_neg (by simp [he])]
      refine Sim.bind (f := fun z => rFields bs l z.1 z.2.1 z.2.2) (g := fun z => qFields bs l z.1 z.2.1 z.2.2) (sim_Field hb hp (hl f (List.mem_cons_self ..)) x) (fun z hz => rFields_s hz) (fun z hz => by rw [qFields_s hz]) fun _ => ?_
      exact sim_Fields hb l _ _ _ (fun g hg => hl g (List.mem_cons_of_mem _ hg)) (rField_le hp)
    · exact ⟨by rw [qFields_s he, rFields_s he], fun hh => absurd (by rw [← rFields_s he]; exact hh) he⟩
theorem op_eq (hb : B8 bs) (hp : p ≤ bs.length) : rOp bs p = qOpr bs p := by
  have hc := sim_C (p := p) (e := 0) hb
  have key : Sim (rFields bs (fs (rB bs p 0).1) (op0 (rB bs p 0).1) (rB bs p 0).2.1 (if isOp (rB bs p 0).1 then (rB bs p 0).2.2 else fl (rB bs p 0).2.2 13))
      (qFields bs (fs (qC bs 255 p 0).1) (op0 (qC bs 255 p 0).1) (qC bs 255 p 0).2.1 (if (qC bs 255 p 0).2.2 = 0 ∧ ¬ isOp (qC bs 255 p 0).1 = true then 13 else (qC bs 255 p 0).2.2)) := by
    refine Sim.bind (f := fun c => rFields bs (fs c.1) (op0 c.1) c.2.1 (if isOp c.1 then c.2.2 else fl c.2.2 13)) (g := fun c => qFields bs (fs c.1) (op0 c.1) c.2.1 (if c.2.2 = 0 ∧ ¬ isOp c.1 = true then 13 else c.2.2)) hc ?_ ?_ ?_
    · intro z hz
      have : (if isOp z.1 then z.2.2 else fl z.2.2 13) = z.2.2 := by split; rfl; exact fl_ne hz
      simp only [this]; exact rFields_s hz
    · intro z hz
      rw [if_neg (fun h => hz h.1), qFields_s hz]
    · intro h0
      have : (if isOp (rB bs p 0).1 then (rB bs p 0).2.2 else fl (rB bs p 0).2.2 13) = (if (rB bs p 0).2.2 = 0 ∧ ¬ isOp (rB bs p 0).1 = true then 13 else (rB bs p 0).2.2) := by
        rw [h0]
        cases isOp (rB bs p 0).1 <;> simp [fl]
      simp only [this]
      exact sim_Fields hb _ _ _ _ (fs_ltr _) (rB_p hp).2
  unfold rOp qOpr
  simp only
  generalize (rFields bs (fs (rB bs p 0).1) (op0 (rB bs p 0).1) (rB bs p 0).2.1 (if isOp (rB bs p 0).1 then (rB bs p 0).2.2 else fl (rB bs p 0).2.2 13)) = R at key ⊢
  generalize (qFields bs (fs (qC bs 255 p 0).1) (op0 (qC bs 255 p 0).1) (qC bs 255 p 0).2.1 (if (qC bs 255 p 0).2.2 = 0 ∧ ¬ isOp (qC bs 255 p 0).1 = true then 13 else (qC bs 255 p 0).2.2)) = Q at key ⊢
  by_cases h0 : R.2.2 = 0
  · rw [key.2 h0]
  · rw [if_pos h0, if_pos (by rw [key.1]; exact h0), key.1]
theorem nx_eq (hb : B8 bs) (at_ : Int) : rNx bs at_ = qNx bs at_ := by
  unfold rNx qNx
  split
  · rfl
  · rw [op_eq hb (by omega)]

/-! ### answers -/
theorem cnt_bytes (hb : B8 bs) (hp : p ≤ bs.length) : Sim (rBytes bs (rCnt bs p e).1.toNat (rCnt bs p e).2.1 (rCnt bs p e).2.2) (qText bs 18446744073709551615 p e) := by
  have h1 := sim_bytes (bs := bs) (p := p) (e := e) (r := rU bs p e) (rU_p hp).2 (rU_b hb).1 (sim_U hb)
  have h2 : (rBytes bs (rCnt bs p e).1.toNat (rCnt bs p e).2.1 (rCnt bs p e).2.2).2.2 = (rBytes bs (rU bs p e).1.toNat (rU bs p e).2.1 (rU bs p e).2.2).2.2 ∧ ((rBytes bs (rCnt bs p e).1.toNat (rCnt bs p e).2.1 (rCnt bs p e).2.2).2.2 = 0 → rBytes bs (rCnt bs p e).1.toNat (rCnt bs p e).2.1 (rCnt bs p e).2.2 = rBytes bs (rU bs p e).1.toNat (rU bs p e).2.1 (rU bs p e).2.2) := by
    have hn := (rU_b (p := p) (e := e) hb).1
    have hq := (rU_p (e := e) hp).2
    unfold rCnt rLeft
    split
    · rename_i hlt
      by_cases h0 : (rU bs p e).2.2 = 0
      · have e1 : rBytes bs (rU bs p e).1.toNat (rU bs p e).2.1 (rU bs p e).2.2 = ([], (rU bs p e).2.1, 12) := by
          rw [rBytes, if_pos (by omega), h0]; rfl
        have e2 : rBytes bs (Int.toNat 0) (rU bs p e).2.1 (fl (rU bs p e).2.2 12) = ([], (rU bs p e).2.1, 12) := by
          rw [rBytes, if_neg (by simp), if_pos (.inr rfl), h0]; rfl
        simp only [e1, e2]; exact ⟨trivial, fun h => by simp at h⟩
      · have h1 : fl (rU bs p e).2.2 12 = (rU bs p e).2.2 := fl_ne h0
        simp only [h1]
        rw [rBytes_s h0, rBytes_s h0]
        exact ⟨rfl, fun h => absurd h h0⟩
    · exact ⟨rfl, fun _ => rfl⟩
  exact ⟨h1.1.trans h2.1.symm, fun hh => by rw [h2.2 hh]; exact h1.2 (h2.1 ▸ hh)⟩
theorem an19_s {r1 : Int × Nat × Int} {r2 : Int × Nat × Int} {r3 : Int × Nat × Int} {r4 : Bool × Nat × Int} {r5 : Int × Nat × Int} {r6 : Int × Nat × Int} {r7 : Int × Nat × Int} {r8 : Int × Nat × Int} {r9 : Int × Nat × Int} {r10 : Int × Nat × Int} {r11 : Int × Nat × Int} {r13 : List (Int × Int) × Nat × Int} {r15 : List (Int × Int × Int × Int) × Nat × Int} {r17 : List Int × Nat × Int} {r19 : List Int × Nat × Int} (_ : r19.2.2 ≠ 0) : (an19 r1 r2 r3 r4 r5 r6 r7 r8 r9 r10 r11 r13 r15 r17 r19).2.2 = r19.2.2 := by
  rfl
theorem an18_s {r1 : Int × Nat × Int} {r2 : Int × Nat × Int} {r3 : Int × Nat × Int} {r4 : Bool × Nat × Int} {r5 : Int × Nat × Int} {r6 : Int × Nat × Int} {r7 : Int × Nat × Int} {r8 : Int × Nat × Int} {r9 : Int × Nat × Int} {r10 : Int × Nat × Int} {r11 : Int × Nat × Int} {r13 : List (Int × Int) × Nat × Int} {r15 : List (Int × Int × Int × Int) × Nat × Int} {r17 : List Int × Nat × Int} {r18 : Int × Nat × Int} (h : r18.2.2 ≠ 0) : (an18 bs r1 r2 r3 r4 r5 r6 r7 r8 r9 r10 r11 r13 r15 r17 r18).2.2 = r18.2.2 := by
  unfold an18
  rw [an19_s (by rw [rBytes_s h]; exact h), rBytes_s h]
theorem an17_s {r1 : Int × Nat × Int} {r2 : Int × Nat × Int} {r3 : Int × Nat × Int} {r4 : Bool × Nat × Int} {r5 : Int × Nat × Int} {r6 : Int × Nat × Int} {r7 : Int × Nat × Int} {r8 : Int × Nat × Int} {r9 : Int × Nat × Int} {r10 : Int × Nat × Int} {r11 : Int × Nat × Int} {r13 : List (Int × Int) × Nat × Int} {r15 : List (Int × Int × Int × Int) × Nat × Int} {r17 : List Int × Nat × Int} (h : r17.2.2 ≠ 0) : (an17 bs r1 r2 r3 r4 r5 r6 r7 r8 r9 r10 r11 r13 r15 r17).2.2 = r17.2.2 := by
  unfold an17
  rw [an18_s (by rw [rCnt_s h]; exact h), rCnt_s h]
theorem an16_s {r1 : Int × Nat × Int} {r2 : Int × Nat × Int} {r3 : Int × Nat × Int} {r4 : Bool × Nat × Int} {r5 : Int × Nat × Int} {r6 : Int × Nat × Int} {r7 : Int × Nat × Int} {r8 : Int × Nat × Int} {r9 : Int × Nat × Int} {r10 : Int × Nat × Int} {r11 : Int × Nat × Int} {r13 : List (Int × Int) × Nat × Int} {r15 : List (Int × Int × Int × Int) × Nat × Int} {r16 : Int × Nat × Int} (h : r16.2.2 ≠ 0) : (an16 bs r1 r2 r3 r4 r5 r6 r7 r8 r9 r10 r11 r13 r15 r16).2.2 = r16.2.2 := by
  unfold an16
  rw [an17_s (by rw [rInts_0 h]; exact h), rInts_0 h]
theorem an15_s {r1 : Int × Nat × Int} {r2 : Int × Nat × Int} {r3 : Int × Nat × Int} {r4 : Bool × Nat × Int} {r5 : Int × Nat × Int} {r6 : Int × Nat × Int} {r7 : Int × Nat × Int} {r8 : Int × Nat × Int} {r9 : Int × Nat × Int} {r10 : Int × Nat × Int} {r11 : Int × Nat × Int} {r13 : List (Int × Int) × Nat × Int} {r15 : List (Int × Int × Int × Int) × Nat × Int} (h : r15.2.2 ≠ 0) : (an15 bs r1 r2 r3 r4 r5 r6 r7 r8 r9 r10 r11 r13 r15).2.2 = r15.2.2 := by
  unfold an15
  rw [an16_s (by rw [rCnt_s h]; exact h), rCnt_s h]
theorem an14_s {r1 : Int × Nat × Int} {r2 : Int × Nat × Int} {r3 : Int × Nat × Int} {r4 : Bool × Nat × Int} {r5 : Int × Nat × Int} {r6 : Int × Nat × Int} {r7 : Int × Nat × Int} {r8 : Int × Nat × Int} {r9 : Int × Nat × Int} {r10 : Int × Nat × Int} {r11 : Int × Nat × Int} {r13 : List (Int × Int) × Nat × Int} {r14 : Int × Nat × Int} (h : r14.2.2 ≠ 0) : (an14 bs r1 r2 r3 r4 r5 r6 r7 r8 r9 r10 r11 r13 r14).2.2 = r14.2.2 := by
  unfold an14
  rw [an15_s (by rw [rChs_0 h]; exact h), rChs_0 h]
theorem an13_s {r1 : Int × Nat × Int} {r2 : Int × Nat × Int} {r3 : Int × Nat × Int} {r4 : Bool × Nat × Int} {r5 : Int × Nat × Int} {r6 : Int × Nat × Int} {r7 : Int × Nat × Int} {r8 : Int × Nat × Int} {r9 : Int × Nat × Int} {r10 : Int × Nat × Int} {r11 : Int × Nat × Int} {r13 : List (Int × Int) × Nat × Int} (h : r13.2.2 ≠ 0) : (an13 bs r1 r2 r3 r4 r5 r6 r7 r8 r9 r10 r11 r13).2.2 = r13.2.2 := by
  unfold an13
  rw [an14_s (by rw [rCnt_s h]; exact h), rCnt_s h]
theorem an12_s {r1 : Int × Nat × Int} {r2 : Int × Nat × Int} {r3 : Int × Nat × Int} {r4 : Bool × Nat × Int} {r5 : Int × Nat × Int} {r6 : Int × Nat × Int} {r7 : Int × Nat × Int} {r8 : Int × Nat × Int} {r9 : Int × Nat × Int} {r10 : Int × Nat × Int} {r11 : Int × Nat × Int} {r12 : Int × Nat × Int} (h : r12.2.2 ≠ 0) : (an12 bs r1 r2 r3 r4 r5 r6 r7 r8 r9 r10 r11 r12).2.2 = r12.2.2 := by
  unfold an12
  rw [an13_s (by rw [rEnts_0 h]; exact h), rEnts_0 h]
theorem an11_s {r1 : Int × Nat × Int} {r2 : Int × Nat × Int} {r3 : Int × Nat × Int} {r4 : Bool × Nat × Int} {r5 : Int × Nat × Int} {r6 : Int × Nat × Int} {r7 : Int × Nat × Int} {r8 : Int × Nat × Int} {r9 : Int × Nat × Int} {r10 : Int × Nat × Int} {r11 : Int × Nat × Int} (h : r11.2.2 ≠ 0) : (an11 bs r1 r2 r3 r4 r5 r6 r7 r8 r9 r10 r11).2.2 = r11.2.2 := by
  unfold an11
  rw [an12_s (by rw [rCnt_s h]; exact h), rCnt_s h]
theorem an10_s {r1 : Int × Nat × Int} {r2 : Int × Nat × Int} {r3 : Int × Nat × Int} {r4 : Bool × Nat × Int} {r5 : Int × Nat × Int} {r6 : Int × Nat × Int} {r7 : Int × Nat × Int} {r8 : Int × Nat × Int} {r9 : Int × Nat × Int} {r10 : Int × Nat × Int} (h : r10.2.2 ≠ 0) : (an10 bs r1 r2 r3 r4 r5 r6 r7 r8 r9 r10).2.2 = r10.2.2 := by
  unfold an10
  rw [an11_s (by rw [rZ_s h]; exact h), rZ_s h]
theorem an9_s {r1 : Int × Nat × Int} {r2 : Int × Nat × Int} {r3 : Int × Nat × Int} {r4 : Bool × Nat × Int} {r5 : Int × Nat × Int} {r6 : Int × Nat × Int} {r7 : Int × Nat × Int} {r8 : Int × Nat × Int} {r9 : Int × Nat × Int} (h : r9.2.2 ≠ 0) : (an9 bs r1 r2 r3 r4 r5 r6 r7 r8 r9).2.2 = r9.2.2 := by
  unfold an9
  rw [an10_s (by rw [rZ_s h]; exact h), rZ_s h]
theorem an8_s {r1 : Int × Nat × Int} {r2 : Int × Nat × Int} {r3 : Int × Nat × Int} {r4 : Bool × Nat × Int} {r5 : Int × Nat × Int} {r6 : Int × Nat × Int} {r7 : Int × Nat × Int} {r8 : Int × Nat × Int} (h : r8.2.2 ≠ 0) : (an8 bs r1 r2 r3 r4 r5 r6 r7 r8).2.2 = r8.2.2 := by
  unfold an8
  rw [an9_s (by rw [rZ_s h]; exact h), rZ_s h]
theorem an7_s {r1 : Int × Nat × Int} {r2 : Int × Nat × Int} {r3 : Int × Nat × Int} {r4 : Bool × Nat × Int} {r5 : Int × Nat × Int} {r6 : Int × Nat × Int} {r7 : Int × Nat × Int} (h : r7.2.2 ≠ 0) : (an7 bs r1 r2 r3 r4 r5 r6 r7).2.2 = r7.2.2 := by
  unfold an7
  rw [an8_s (by rw [rZ_s h]; exact h), rZ_s h]
theorem an6_s {r1 : Int × Nat × Int} {r2 : Int × Nat × Int} {r3 : Int × Nat × Int} {r4 : Bool × Nat × Int} {r5 : Int × Nat × Int} {r6 : Int × Nat × Int} (h : r6.2.2 ≠ 0) : (an6 bs r1 r2 r3 r4 r5 r6).2.2 = r6.2.2 := by
  unfold an6
  rw [an7_s (by rw [rZ_s h]; exact h), rZ_s h]
theorem an5_s {r1 : Int × Nat × Int} {r2 : Int × Nat × Int} {r3 : Int × Nat × Int} {r4 : Bool × Nat × Int} {r5 : Int × Nat × Int} (h : r5.2.2 ≠ 0) : (an5 bs r1 r2 r3 r4 r5).2.2 = r5.2.2 := by
  unfold an5
  rw [an6_s (by rw [rZ_s h]; exact h), rZ_s h]
theorem an4_s {r1 : Int × Nat × Int} {r2 : Int × Nat × Int} {r3 : Int × Nat × Int} {r4 : Bool × Nat × Int} (h : r4.2.2 ≠ 0) : (an4 bs r1 r2 r3 r4).2.2 = r4.2.2 := by
  unfold an4
  rw [an5_s (by rw [rZ_s h]; exact h), rZ_s h]
theorem an3_s {r1 : Int × Nat × Int} {r2 : Int × Nat × Int} {r3 : Int × Nat × Int} (h : r3.2.2 ≠ 0) : (an3 bs r1 r2 r3).2.2 = r3.2.2 := by
  unfold an3
  rw [an4_s (by rw [rBool_s h]; exact h), rBool_s h]
theorem an2_s {r1 : Int × Nat × Int} {r2 : Int × Nat × Int} (h : r2.2.2 ≠ 0) : (an2 bs r1 r2).2.2 = r2.2.2 := by
  unfold an2
  rw [an3_s (by rw [rZ_s h]; exact h), rZ_s h]
theorem an1_s {r1 : Int × Nat × Int} (h : r1.2.2 ≠ 0) : (an1 bs r1).2.2 = r1.2.2 := by
  unfold an1
  rw [an2_s (by rw [rU_s h]; exact h), rU_s h]
theorem qan18_s {r1 : Int × Nat × Int} {r2 : Int × Nat × Int} {r3 : Int × Nat × Int} {r4 : Int × Nat × Int} {r5 : Int × Nat × Int} {r6 : Int × Nat × Int} {r7 : Int × Nat × Int} {r8 : Int × Nat × Int} {r9 : Int × Nat × Int} {r10 : Int × Nat × Int} {r11 : Int × Nat × Int} {r13 : List (Int × Int) × Nat × Int} {r15 : List (Int × Int × Int × Int) × Nat × Int} {r17 : List Int × Nat × Int} {r18 : List Int × Nat × Int} (_ : r18.2.2 ≠ 0) : (qan18 r1 r2 r3 r4 r5 r6 r7 r8 r9 r10 r11 r13 r15 r17 r18).2.2 = r18.2.2 := by
  rfl
theorem qan17_s {r1 : Int × Nat × Int} {r2 : Int × Nat × Int} {r3 : Int × Nat × Int} {r4 : Int × Nat × Int} {r5 : Int × Nat × Int} {r6 : Int × Nat × Int} {r7 : Int × Nat × Int} {r8 : Int × Nat × Int} {r9 : Int × Nat × Int} {r10 : Int × Nat × Int} {r11 : Int × Nat × Int} {r13 : List (Int × Int) × Nat × Int} {r15 : List (Int × Int × Int × Int) × Nat × Int} {r17 : List Int × Nat × Int} (h : r17.2.2 ≠ 0) : (qan17 bs r1 r2 r3 r4 r5 r6 r7 r8 r9 r10 r11 r13 r15 r17).2.2 = r17.2.2 := by
  unfold qan17
  rw [qan18_s (by rw [qText_s h]; exact h), qText_s h]
theorem qan16_s {r1 : Int × Nat × Int} {r2 : Int × Nat × Int} {r3 : Int × Nat × Int} {r4 : Int × Nat × Int} {r5 : Int × Nat × Int} {r6 : Int × Nat × Int} {r7 : Int × Nat × Int} {r8 : Int × Nat × Int} {r9 : Int × Nat × Int} {r10 : Int × Nat × Int} {r11 : Int × Nat × Int} {r13 : List (Int × Int) × Nat × Int} {r15 : List (Int × Int × Int × Int) × Nat × Int} {r16 : Int × Nat × Int} (h : r16.2.2 ≠ 0) : (qan16 bs r1 r2 r3 r4 r5 r6 r7 r8 r9 r10 r11 r13 r15 r16).2.2 = r16.2.2 := by
  unfold qan16
  rw [qan17_s (by rw [qInts_0 h]; exact h), qInts_0 h]
theorem qan15_s {r1 : Int × Nat × Int} {r2 : Int × Nat × Int} {r3 : Int × Nat × Int} {r4 : Int × Nat × Int} {r5 : Int × Nat × Int} {r6 : Int × Nat × Int} {r7 : Int × Nat × Int} {r8 : Int × Nat × Int} {r9 : Int × Nat × Int} {r10 : Int × Nat × Int} {r11 : Int × Nat × Int} {r13 : List (Int × Int) × Nat × Int} {r15 : List (Int × Int × Int × Int) × Nat × Int} (h : r15.2.2 ≠ 0) : (qan15 bs r1 r2 r3 r4 r5 r6 r7 r8 r9 r10 r11 r13 r15).2.2 = r15.2.2 := by
  unfold qan15
  rw [qan16_s (by rw [qSize_s h]; exact h), qSize_s h]
theorem qan14_s {r1 : Int × Nat × Int} {r2 : Int × Nat × Int} {r3 : Int × Nat × Int} {r4 : Int × Nat × Int} {r5 : Int × Nat × Int} {r6 : Int × Nat × Int} {r7 : Int × Nat × Int} {r8 : Int × Nat × Int} {r9 : Int × Nat × Int} {r10 : Int × Nat × Int} {r11 : Int × Nat × Int} {r13 : List (Int × Int) × Nat × Int} {r14 : Int × Nat × Int} (h : r14.2.2 ≠ 0) : (qan14 bs r1 r2 r3 r4 r5 r6 r7 r8 r9 r10 r11 r13 r14).2.2 = r14.2.2 := by
  unfold qan14
  rw [qan15_s (by rw [qChs_0 h]; exact h), qChs_0 h]
theorem qan13_s {r1 : Int × Nat × Int} {r2 : Int × Nat × Int} {r3 : Int × Nat × Int} {r4 : Int × Nat × Int} {r5 : Int × Nat × Int} {r6 : Int × Nat × Int} {r7 : Int × Nat × Int} {r8 : Int × Nat × Int} {r9 : Int × Nat × Int} {r10 : Int × Nat × Int} {r11 : Int × Nat × Int} {r13 : List (Int × Int) × Nat × Int} (h : r13.2.2 ≠ 0) : (qan13 bs r1 r2 r3 r4 r5 r6 r7 r8 r9 r10 r11 r13).2.2 = r13.2.2 := by
  unfold qan13
  rw [qan14_s (by rw [qSize_s h]; exact h), qSize_s h]
theorem qan12_s {r1 : Int × Nat × Int} {r2 : Int × Nat × Int} {r3 : Int × Nat × Int} {r4 : Int × Nat × Int} {r5 : Int × Nat × Int} {r6 : Int × Nat × Int} {r7 : Int × Nat × Int} {r8 : Int × Nat × Int} {r9 : Int × Nat × Int} {r10 : Int × Nat × Int} {r11 : Int × Nat × Int} {r12 : Int × Nat × Int} (h : r12.2.2 ≠ 0) : (qan12 bs r1 r2 r3 r4 r5 r6 r7 r8 r9 r10 r11 r12).2.2 = r12.2.2 := by
  unfold qan12
  rw [qan13_s (by rw [qEnts_0 h]; exact h), qEnts_0 h]
theorem qan11_s {r1 : Int × Nat × Int} {r2 : Int × Nat × Int} {r3 : Int × Nat × Int} {r4 : Int × Nat × Int} {r5 : Int × Nat × Int} {r6 : Int × Nat × Int} {r7 : Int × Nat × Int} {r8 : Int × Nat × Int} {r9 : Int × Nat × Int} {r10 : Int × Nat × Int} {r11 : Int × Nat × Int} (h : r11.2.2 ≠ 0) : (qan11 bs r1 r2 r3 r4 r5 r6 r7 r8 r9 r10 r11).2.2 = r11.2.2 := by
  unfold qan11
  rw [qan12_s (by rw [qSize_s h]; exact h), qSize_s h]
theorem qan10_s {r1 : Int × Nat × Int} {r2 : Int × Nat × Int} {r3 : Int × Nat × Int} {r4 : Int × Nat × Int} {r5 : Int × Nat × Int} {r6 : Int × Nat × Int} {r7 : Int × Nat × Int} {r8 : Int × Nat × Int} {r9 : Int × Nat × Int} {r10 : Int × Nat × Int} (h : r10.2.2 ≠ 0) : (qan10 bs r1 r2 r3 r4 r5 r6 r7 r8 r9 r10).2.2 = r10.2.2 := by
  unfold qan10
  rw [qan11_s (by rw [qZ_s h]; exact h), qZ_s h]
theorem qan9_s {r1 : Int × Nat × Int} {r2 : Int × Nat × Int} {r3 : Int × Nat × Int} {r4 : Int × Nat × Int} {r5 : Int × Nat × Int} {r6 : Int × Nat × Int} {r7 : Int × Nat × Int} {r8 : Int × Nat × Int} {r9 : Int × Nat × Int} (h : r9.2.2 ≠ 0) : (qan9 bs r1 r2 r3 r4 r5 r6 r7 r8 r9).2.2 = r9.2.2 := by
  unfold qan9
  rw [qan10_s (by rw [qZ_s h]; exact h), qZ_s h]
theorem qan8_s {r1 : Int × Nat × Int} {r2 : Int × Nat × Int} {r3 : Int × Nat × Int} {r4 : Int × Nat × Int} {r5 : Int × Nat × Int} {r6 : Int × Nat × Int} {r7 : Int × Nat × Int} {r8 : Int × Nat × Int} (h : r8.2.2 ≠ 0) : (qan8 bs r1 r2 r3 r4 r5 r6 r7 r8).2.2 = r8.2.2 := by
  unfold qan8
  rw [qan9_s (by rw [qZ_s h]; exact h), qZ_s h]
theorem qan7_s {r1 : Int × Nat × Int} {r2 : Int × Nat × Int} {r3 : Int × Nat × Int} {r4 : Int × Nat × Int} {r5 : Int × Nat × Int} {r6 : Int × Nat × Int} {r7 : Int × Nat × Int} (h : r7.2.2 ≠ 0) : (qan7 bs r1 r2 r3 r4 r5 r6 r7).2.2 = r7.2.2 := by
  unfold qan7
  rw [qan8_s (by rw [qZ_s h]; exact h), qZ_s h]
theorem qan6_s {r1 : Int × Nat × Int} {r2 : Int × Nat × Int} {r3 : Int × Nat × Int} {r4 : Int × Nat × Int} {r5 : Int × Nat × Int} {r6 : Int × Nat × Int} (h : r6.2.2 ≠ 0) : (qan6 bs r1 r2 r3 r4 r5 r6).2.2 = r6.2.2 := by
  unfold qan6
  rw [qan7_s (by rw [qZ_s h]; exact h), qZ_s h]
theorem qan5_s {r1 : Int × Nat × Int} {r2 : Int × Nat × Int} {r3 : Int × Nat × Int} {r4 : Int × Nat × Int} {r5 : Int × Nat × Int} (h : r5.2.2 ≠ 0) : (qan5 bs r1 r2 r3 r4 r5).2.2 = r5.2.2 := by
  unfold qan5
  rw [qan6_s (by rw [qZ_s h]; exact h), qZ_s h]
theorem qan4_s {r1 : Int × Nat × Int} {r2 : Int × Nat × Int} {r3 : Int × Nat × Int} {r4 : Int × Nat × Int} (h : r4.2.2 ≠ 0) : (qan4 bs r1 r2 r3 r4).2.2 = r4.2.2 := by
  unfold qan4
  rw [qan5_s (by rw [qZ_s h]; exact h), qZ_s h]
theorem qan3_s {r1 : Int × Nat × Int} {r2 : Int × Nat × Int} {r3 : Int × Nat × Int} (h : r3.2.2 ≠ 0) : (qan3 bs r1 r2 r3).2.2 = r3.2.2 := by
  unfold qan3
  rw [qan4_s (by rw [qC_s h]; exact h), qC_s h]
theorem qan2_s {r1 : Int × Nat × Int} {r2 : Int × Nat × Int} (h : r2.2.2 ≠ 0) : (qan2 bs r1 r2).2.2 = r2.2.2 := by
  unfold qan2
  rw [qan3_s (by rw [qZ_s h]; exact h), qZ_s h]
theorem qan1_s {r1 : Int × Nat × Int} (h : r1.2.2 ≠ 0) : (qan1 bs r1).2.2 = r1.2.2 := by
  unfold qan1
  rw [qan2_s (by rw [qU_s h]; exact h), qU_s h]
theorem an17_sim (hb : B8 bs) {r1 : Int × Nat × Int} {r2 : Int × Nat × Int} {r3 : Int × Nat × Int} {q4 : Int × Nat × Int} {r5 : Int × Nat × Int} {r6 : Int × Nat × Int} {r7 : Int × Nat × Int} {r8 : Int × Nat × Int} {r9 : Int × Nat × Int} {r10 : Int × Nat × Int} {r11 : Int × Nat × Int} {r13 : List (Int × Int) × Nat × Int} {r15 : List (Int × Int × Int × Int) × Nat × Int} {r17 q17 : List Int × Nat × Int} (h : Sim r17 q17) (hp : r17.2.1 ≤ bs.length) : Sim (an17 bs r1 r2 r3 (decide (q4.1 = 1), q4.2) r5 r6 r7 r8 r9 r10 r11 r13 r15 r17) (qan17 bs r1 r2 r3 q4 r5 r6 r7 r8 r9 r10 r11 r13 r15 q17) := by
  by_cases h0 : r17.2.2 = 0
  · obtain rfl := h.2 h0
    unfold an17 an18 qan17
    have h1 := sim_bytes (bs := bs) (r := rU bs q17.2.1 q17.2.2) (rU_p hp).2 (rU_b hb).1 (sim_U hb)
    have h2 := cnt_bytes (p := q17.2.1) (e := q17.2.2) hb hp
    refine ⟨h2.1, fun hh => ?_⟩
    have h3 := h2.2 hh
    rw [h3]; rfl
  · have h1 : q17.2.2 = r17.2.2 := h.1
    exact ⟨by rw [qan17_s (by rw [h1]; exact h0), an17_s h0, h1], fun hh => absurd (by rw [← an17_s h0]; exact hh) h0⟩
theorem an16_sim (hb : B8 bs) {r1 : Int × Nat × Int} {r2 : Int × Nat × Int} {r3 : Int × Nat × Int} {q4 : Int × Nat × Int} {r5 : Int × Nat × Int} {r6 : Int × Nat × Int} {r7 : Int × Nat × Int} {r8 : Int × Nat × Int} {r9 : Int × Nat × Int} {r10 : Int × Nat × Int} {r11 : Int × Nat × Int} {r13 : List (Int × Int) × Nat × Int} {r15 : List (Int × Int × Int × Int) × Nat × Int} {r16 q16 : Int × Nat × Int} (h : Sim r16 q16) (hp : r16.2.1 ≤ bs.length) : Sim (an16 bs r1 r2 r3 (decide (q4.1 = 1), q4.2) r5 r6 r7 r8 r9 r10 r11 r13 r15 r16) (qan16 bs r1 r2 r3 q4 r5 r6 r7 r8 r9 r10 r11 r13 r15 q16) := by
  by_cases h0 : r16.2.2 = 0
  · obtain rfl := h.2 h0
    unfold an16 qan16
    exact an17_sim hb (sim_Ints hb _ _ _) (rInts_le hp)
  · have h1 : q16.2.2 = r16.2.2 := h.1
    exact ⟨by rw [qan16_s (by rw [h1]; exact h0), an16_s h0, h1], fun hh => absurd (by rw [← an16_s h0]; exact hh) h0⟩
theorem an15_sim (hb : B8 bs) {r1 : Int × Nat × Int} {r2 : Int × Nat × Int} {r3 : Int × Nat × Int} {q4 : Int × Nat × Int} {r5 : Int × Nat × Int} {r6 : Int × Nat × Int} {r7 : Int × Nat × Int} {r8 : Int × Nat × Int} {r9 : Int × Nat × Int} {r10 : Int × Nat × Int} {r11 : Int × Nat × Int} {r13 : List (Int × Int) × Nat × Int} {r15 q15 : List (Int × Int × Int × Int) × Nat × Int} (h : Sim r15 q15) (hp : r15.2.1 ≤ bs.length) : Sim (an15 bs r1 r2 r3 (decide (q4.1 = 1), q4.2) r5 r6 r7 r8 r9 r10 r11 r13 r15) (qan15 bs r1 r2 r3 q4 r5 r6 r7 r8 r9 r10 r11 r13 q15) := by
  by_cases h0 : r15.2.2 = 0
  · obtain rfl := h.2 h0
    unfold an15 qan15
    exact an16_sim hb (sim_Cnt hb) (rCnt_le hp)
  · have h1 : q15.2.2 = r15.2.2 := h.1
    exact ⟨by rw [qan15_s (by rw [h1]; exact h0), an15_s h0, h1], fun hh => absurd (by rw [← an15_s h0]; exact hh) h0⟩
theorem an14_sim (hb : B8 bs) {r1 : Int × Nat × Int} {r2 : Int × Nat × Int} {r3 : Int × Nat × Int} {q4 : Int × Nat × Int} {r5 : Int × Nat × Int} {r6 : Int × Nat × Int} {r7 : Int × Nat × Int} {r8 : Int × Nat × Int} {r9 : Int × Nat × Int} {r10 : Int × Nat × Int} {r11 : Int × Nat × Int} {r13 : List (Int × Int) × Nat × Int} {r14 q14 : Int × Nat × Int} (h : Sim r14 q14) (hp : r14.2.1 ≤ bs.length) : Sim (an14 bs r1 r2 r3 (decide (q4.1 = 1), q4.2) r5 r6 r7 r8 r9 r10 r11 r13 r14) (qan14 bs r1 r2 r3 q4 r5 r6 r7 r8 r9 r10 r11 r13 q14) := by
  by_cases h0 : r14.2.2 = 0
  · obtain rfl := h.2 h0
    unfold an14 qan14
    exact an15_sim hb (sim_Chs hb _ _ _) (rChs_le hp)
  · have h1 : q14.2.2 = r14.2.2 := h.1
    exact ⟨by rw [qan14_s (by rw [h1]; exact h0), an14_s h0, h1], fun hh => absurd (by rw [← an14_s h0]; exact hh) h0⟩
theorem an13_sim (hb : B8 bs) {r1 : Int × Nat × Int} {r2 : Int × Nat × Int} {r3 : Int × Nat × Int} {q4 : Int × Nat × Int} {r5 : Int × Nat × Int} {r6 : Int × Nat × Int} {r7 : Int × Nat × Int} {r8 : Int × Nat × Int} {r9 : Int × Nat × Int} {r10 : Int × Nat × Int} {r11 : Int × Nat × Int} {r13 q13 : List (Int × Int) × Nat × Int} (h : Sim r13 q13) (hp : r13.2.1 ≤ bs.length) : Sim (an13 bs r1 r2 r3 (decide (q4.1 = 1), q4.2) r5 r6 r7 r8 r9 r10 r11 r13) (qan13 bs r1 r2 r3 q4 r5 r6 r7 r8 r9 r10 r11 q13) := by
  by_cases h0 : r13.2.2 = 0
  · obtain rfl := h.2 h0
    unfold an13 qan13
    exact an14_sim hb (sim_Cnt hb) (rCnt_le hp)
  · have h1 : q13.2.2 = r13.2.2 := h.1
    exact ⟨by rw [qan13_s (by rw [h1]; exact h0), an13_s h0, h1], fun hh => absurd (by rw [← an13_s h0]; exact hh) h0⟩
theorem an12_sim (hb : B8 bs) {r1 : Int × Nat × Int} {r2 : Int × Nat × Int} {r3 : Int × Nat × Int} {q4 : Int × Nat × Int} {r5 : Int × Nat × Int} {r6 : Int × Nat × Int} {r7 : Int × Nat × Int} {r8 : Int × Nat × Int} {r9 : Int × Nat × Int} {r10 : Int × Nat × Int} {r11 : Int × Nat × Int} {r12 q12 : Int × Nat × Int} (h : Sim r12 q12) (hp : r12.2.1 ≤ bs.length) : Sim (an12 bs r1 r2 r3 (decide (q4.1 = 1), q4.2) r5 r6 r7 r8 r9 r10 r11 r12) (qan12 bs r1 r2 r3 q4 r5 r6 r7 r8 r9 r10 r11 q12) := by
  by_cases h0 : r12.2.2 = 0
  · obtain rfl := h.2 h0
    unfold an12 qan12
    exact an13_sim hb (sim_Ents hb _ _ _) (rEnts_le hp)
  · have h1 : q12.2.2 = r12.2.2 := h.1
    exact ⟨by rw [qan12_s (by rw [h1]; exact h0), an12_s h0, h1], fun hh => absurd (by rw [← an12_s h0]; exact hh) h0⟩
theorem an11_sim (hb : B8 bs) {r1 : Int × Nat × Int} {r2 : Int × Nat × Int} {r3 : Int × Nat × Int} {q4 : Int × Nat × Int} {r5 : Int × Nat × Int} {r6 : Int × Nat × Int} {r7 : Int × Nat × Int} {r8 : Int × Nat × Int} {r9 : Int × Nat × Int} {r10 : Int × Nat × Int} {r11 q11 : Int × Nat × Int} (h : Sim r11 q11) (hp : r11.2.1 ≤ bs.length) : Sim (an11 bs r1 r2 r3 (decide (q4.1 = 1), q4.2) r5 r6 r7 r8 r9 r10 r11) (qan11 bs r1 r2 r3 q4 r5 r6 r7 r8 r9 r10 q11) := by
  by_cases h0 : r11.2.2 = 0
  · obtain rfl := h.2 h0
    unfold an11 qan11
    exact an12_sim hb (sim_Cnt hb) (rCnt_le hp)
  · have h1 : q11.2.2 = r11.2.2 := h.1
    exact ⟨by rw [qan11_s (by rw [h1]; exact h0), an11_s h0, h1], fun hh => absurd (by rw [← an11_s h0]; exact hh) h0⟩
theorem an10_sim (hb : B8 bs) {r1 : Int × Nat × Int} {r2 : Int × Nat × Int} {r3 : Int × Nat × Int} {q4 : Int × Nat × Int} {r5 : Int × Nat × Int} {r6 : Int × Nat × Int} {r7 : Int × Nat × Int} {r8 : Int × Nat × Int} {r9 : Int × Nat × Int} {r10 q10 : Int × Nat × Int} (h : Sim r10 q10) (hp : r10.2.1 ≤ bs.length) : Sim (an10 bs r1 r2 r3 (decide (q4.1 = 1), q4.2) r5 r6 r7 r8 r9 r10) (qan10 bs r1 r2 r3 q4 r5 r6 r7 r8 r9 q10) := by
  by_cases h0 : r10.2.2 = 0
  · obtain rfl := h.2 h0
    unfold an10 qan10
    exact an11_sim hb (sim_Z hb) (rZ_le hp)
  · have h1 : q10.2.2 = r10.2.2 := h.1
    exact ⟨by rw [qan10_s (by rw [h1]; exact h0), an10_s h0, h1], fun hh => absurd (by rw [← an10_s h0]; exact hh) h0⟩
theorem an9_sim (hb : B8 bs) {r1 : Int × Nat × Int} {r2 : Int × Nat × Int} {r3 : Int × Nat × Int} {q4 : Int × Nat × Int} {r5 : Int × Nat × Int} {r6 : Int × Nat × Int} {r7 : Int × Nat × Int} {r8 : Int × Nat × Int} {r9 q9 : Int × Nat × Int} (h : Sim r9 q9) (hp : r9.2.1 ≤ bs.length) : Sim (an9 bs r1 r2 r3 (decide (q4.1 = 1), q4.2) r5 r6 r7 r8 r9) (qan9 bs r1 r2 r3 q4 r5 r6 r7 r8 q9) := by
  by_cases h0 : r9.2.2 = 0
  · obtain rfl := h.2 h0
    unfold an9 qan9
    exact an10_sim hb (sim_Z hb) (rZ_le hp)
  · have h1 : q9.2.2 = r9.2.2 := h.1
    exact ⟨by rw [qan9_s (by rw [h1]; exact h0), an9_s h0, h1], fun hh => absurd (by rw [← an9_s h0]; exact hh) h0⟩
theorem an8_sim (hb : B8 bs) {r1 : Int × Nat × Int} {r2 : Int × Nat × Int} {r3 : Int × Nat × Int} {q4 : Int × Nat × Int} {r5 : Int × Nat × Int} {r6 : Int × Nat × Int} {r7 : Int × Nat × Int} {r8 q8 : Int × Nat × Int} (h : Sim r8 q8) (hp : r8.2.1 ≤ bs.length) : Sim (an8 bs r1 r2 r3 (decide (q4.1 = 1), q4.2) r5 r6 r7 r8) (qan8 bs r1 r2 r3 q4 r5 r6 r7 q8) := by
  by_cases h0 : r8.2.2 = 0
  · obtain rfl := h.2 h0
    unfold an8 qan8
    exact an9_sim hb (sim_Z hb) (rZ_le hp)
  · have h1 : q8.2.2 = r8.2.2 := h.1
    exact ⟨by rw [qan8_s (by rw [h1]; exact h0), an8_s h0, h1], fun hh => absurd (by rw [← an8_s h0]; exact hh) h0⟩
theorem an7_sim (hb : B8 bs) {r1 : Int × Nat × Int} {r2 : Int × Nat × Int} {r3 : Int × Nat × Int} {q4 : Int × Nat × Int} {r5 : Int × Nat × Int} {r6 : Int × Nat × Int} {r7 q7 : Int × Nat × Int} (h : Sim r7 q7) (hp : r7.2.1 ≤ bs.length) : Sim (an7 bs r1 r2 r3 (decide (q4.1 = 1), q4.2) r5 r6 r7) (qan7 bs r1 r2 r3 q4 r5 r6 q7) := by
  by_cases h0 : r7.2.2 = 0
  · obtain rfl := h.2 h0
    unfold an7 qan7
    exact an8_sim hb (sim_Z hb) (rZ_le hp)
  · have h1 : q7.2.2 = r7.2.2 := h.1
    exact ⟨by rw [qan7_s (by rw [h1]; exact h0), an7_s h0, h1], fun hh => absurd (by rw [← an7_s h0]; exact hh) h0⟩
theorem an6_sim (hb : B8 bs) {r1 : Int × Nat × Int} {r2 : Int × Nat × Int} {r3 : Int × Nat × Int} {q4 : Int × Nat × Int} {r5 : Int × Nat × Int} {r6 q6 : Int × Nat × Int} (h : Sim r6 q6) (hp : r6.2.1 ≤ bs.length) : Sim (an6 bs r1 r2 r3 (decide (q4.1 = 1), q4.2) r5 r6) (qan6 bs r1 r2 r3 q4 r5 q6) := by
  by_cases h0 : r6.2.2 = 0
  · obtain rfl := h.2 h0
    unfold an6 qan6
    exact an7_sim hb (sim_Z hb) (rZ_le hp)
  · have h1 : q6.2.2 = r6.2.2 := h.1
    exact ⟨by rw [qan6_s (by rw [h1]; exact h0), an6_s h0, h1], fun hh => absurd (by rw [← an6_s h0]; exact hh) h0⟩
theorem an5_sim (hb : B8 bs) {r1 : Int × Nat × Int} {r2 : Int × Nat × Int} {r3 : Int × Nat × Int} {q4 : Int × Nat × Int} {r5 q5 : Int × Nat × Int} (h : Sim r5 q5) (hp : r5.2.1 ≤ bs.length) : Sim (an5 bs r1 r2 r3 (decide (q4.1 = 1), q4.2) r5) (qan5 bs r1 r2 r3 q4 q5) := by
  by_cases h0 : r5.2.2 = 0
  · obtain rfl := h.2 h0
    unfold an5 qan5
    exact an6_sim hb (sim_Z hb) (rZ_le hp)
  · have h1 : q5.2.2 = r5.2.2 := h.1
    exact ⟨by rw [qan5_s (by rw [h1]; exact h0), an5_s h0, h1], fun hh => absurd (by rw [← an5_s h0]; exact hh) h0⟩
theorem an4_sim (hb : B8 bs) {r1 : Int × Nat × Int} {r2 : Int × Nat × Int} {r3 : Int × Nat × Int} {r4 : Bool × Nat × Int} {q4 : Int × Nat × Int} (h : Sim r4 (decide (q4.1 = 1), q4.2)) (hp : r4.2.1 ≤ bs.length) : Sim (an4 bs r1 r2 r3 r4) (qan4 bs r1 r2 r3 q4) := by
  by_cases h0 : r4.2.2 = 0
  · obtain rfl := h.2 h0
    unfold an4 qan4
    exact an5_sim hb (sim_Z hb) (rZ_le hp)
  · have h1 : q4.2.2 = r4.2.2 := h.1
    exact ⟨by rw [qan4_s (by rw [h1]; exact h0), an4_s h0, h1], fun hh => absurd (by rw [← an4_s h0]; exact hh) h0⟩
theorem an3_sim (hb : B8 bs) {r1 : Int × Nat × Int} {r2 : Int × Nat × Int} {r3 q3 : Int × Nat × Int} (h : Sim r3 q3) (hp : r3.2.1 ≤ bs.length) : Sim (an3 bs r1 r2 r3) (qan3 bs r1 r2 q3) := by
  by_cases h0 : r3.2.2 = 0
  · obtain rfl := h.2 h0
    unfold an3 qan3
    exact an4_sim hb sim_Bool (rBool_le hp)
  · have h1 : q3.2.2 = r3.2.2 := h.1
    exact ⟨by rw [qan3_s (by rw [h1]; exact h0), an3_s h0, h1], fun hh => absurd (by rw [← an3_s h0]; exact hh) h0⟩
theorem an2_sim (hb : B8 bs) {r1 : Int × Nat × Int} {r2 q2 : Int × Nat × Int} (h : Sim r2 q2) (hp : r2.2.1 ≤ bs.length) : Sim (an2 bs r1 r2) (qan2 bs r1 q2) := by
  by_cases h0 : r2.2.2 = 0
  · obtain rfl := h.2 h0
    unfold an2 qan2
    exact an3_sim hb (sim_Z hb) (rZ_le hp)
  · have h1 : q2.2.2 = r2.2.2 := h.1
    exact ⟨by rw [qan2_s (by rw [h1]; exact h0), an2_s h0, h1], fun hh => absurd (by rw [← an2_s h0]; exact hh) h0⟩
theorem an1_sim (hb : B8 bs) {r1 q1 : Int × Nat × Int} (h : Sim r1 q1) (hp : r1.2.1 ≤ bs.length) : Sim (an1 bs r1) (qan1 bs q1) := by
  by_cases h0 : r1.2.2 = 0
  · obtain rfl := h.2 h0
    unfold an1 qan1
    exact an2_sim hb (sim_U hb) (rU_le hp)
  · have h1 : q1.2.2 = r1.2.2 := h.1
    exact ⟨by rw [qan1_s (by rw [h1]; exact h0), an1_s h0, h1], fun hh => absurd (by rw [← an1_s h0]; exact hh) h0⟩
theorem ans_sim (hb : B8 bs) (hp : p ≤ bs.length) : Sim (rAns bs p) (qAns bs p) := an1_sim hb (sim_Lim (by decide)) (rLim_le hp)
theorem nxa_eq (hb : B8 bs) (at_ : Int) : rNxa bs at_ = qNxa bs at_ := by
  unfold rNxa qNxa
  split
  · rfl
  · have h := ans_sim (p := at_.toNat) hb (by omega)
    by_cases h0 : (rAns bs at_.toNat).2.2 = 0
    · rw [h.2 h0]
    · rw [if_pos h0, if_pos (by rw [h.1]; exact h0), h.1]
end
end Go.V
