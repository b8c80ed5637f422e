/-
  Plain laws: what is written reads back; what reads is what would be written.
  Conditions: the bytes are bytes, the numbers lie in their kinds.
-/
import Derived.Test.YtofnoopjlmdelaaLaw
namespace Go.V
open Go

/-! ### varints -/
theorem uvGo_w : ∀ (w i : Nat) (u : Int) (rest : List Int), (w : Int) * 128 ^ i < 18446744073709551616 → (0 < i → 0 < w) → uvGo i u (varint w ++ rest) = (u + w * 128 ^ i, i + (varint w).length, 0) := by
  intro w
  induction w using Nat.strongRecOn with
  | _ w ih =>
    intro i u rest hw h0
    have p9 : ∀ j, 9 ≤ j → (9223372036854775808 : Int) ≤ 128 ^ j := fun j hj => by
      have h1 : (128 : Int) ^ j = 128 ^ 9 * 128 ^ (j - 9) := by rw [← Int.pow_add]; congr 1; omega
      have h2 : (1 : Int) ≤ 128 ^ (j - 9) := by have : (0 : Int) < 128 ^ (j - 9) := Int.pow_pos (by decide); omega
      rw [h1, p128_9]
      have := Int.mul_le_mul_of_nonneg_left h2 (show (0 : Int) ≤ 9223372036854775808 by decide)
      omega
    by_cases h : w < 128
    · rw [varint_lt h, List.singleton_append, uvGo_end ?_ (by omega)]
      · simp
      · rintro (⟨rfl, h1⟩ | ⟨h1, h2⟩)
        · have := p9 9 (by omega)
          have h3 := Int.mul_le_mul_of_nonneg_left this (show (0 : Int) ≤ (w : Int) by omega)
          omega
        · have := h0 h1; omega
    · have hi : i ≤ 8 := by
        rcases Nat.lt_or_ge i 9 with h1 | h1
        · omega
        · have h2 := p9 i h1
          have h3 := Int.mul_le_mul_of_nonneg_left h2 (show (0 : Int) ≤ (w : Int) by omega)
          omega
      rw [varint_ge h, List.cons_append, uvGo_go (by omega) (by omega)]
      have e1 : u + ((w : Int) % 128 + 128 - 128) * 128 ^ i + ((w / 128 : Nat) : Int) * 128 ^ (i + 1) = u + (w : Int) * 128 ^ i := by
        rw [p128]
        have h5 : (w : Int) = w % 128 + 128 * ((w / 128 : Nat) : Int) := by omega
        have h6 : ((w / 128 : Nat) : Int) * (128 * 128 ^ i) = 128 * ((w / 128 : Nat) : Int) * 128 ^ i := by rw [← Int.mul_assoc, Int.mul_comm ((w / 128 : Nat) : Int) 128]
        rw [h6]
        have h7 : (w : Int) * 128 ^ i = ((w : Int) % 128) * 128 ^ i + 128 * ((w / 128 : Nat) : Int) * 128 ^ i := by
          rw [← Int.add_mul, ← h5]
        rw [h7, show (w : Int) % 128 + 128 - 128 = (w : Int) % 128 by omega, Int.add_assoc]
      have e2 : ((w / 128 : Nat) : Int) * 128 ^ (i + 1) < 18446744073709551616 := by
        have hp : (0 : Int) < 128 ^ i := Int.pow_pos (by decide)
        have h7 : (128 : Int) * ((w / 128 : Nat) : Int) ≤ w := by omega
        have h8 := Int.mul_le_mul_of_nonneg_right h7 (Int.le_of_lt hp)
        rw [p128, ← Int.mul_assoc, Int.mul_comm ((w / 128 : Nat) : Int) 128]
        omega
      rw [ih (w / 128) (by omega) (i + 1) _ rest e2 (fun _ => by omega), e1]
      simp only [List.length_cons]
      congr 2; omega
theorem uv_w {u : Int} (h : 0 ≤ u ∧ u ≤ 18446744073709551615) (rest : List Int) : uv (eU u ++ rest) = (u, (eU u).length, 0) := by
  have h1 : ((u.toNat : Nat) : Int) = u := by omega
  have := uvGo_w u.toNat 0 0 rest (by rw [h1]; simp; omega) (by omega)
  rw [uv, eU, this, h1]; simp
theorem uvGo_c : ∀ (l : List Int) (i : Nat) (u v : Int) (m : Nat), B8 l → UvB i u → uvGo i u l = (v, m, 0) → i < m ∧ ∃ w : Nat, v = u + w * 128 ^ i ∧ (0 < i → 0 < w) ∧ l.take (m - i) = varint w
  | [], _, _, _, _, _, _, h => by simp [uvGo] at h
  | c :: r, i, u, v, m, hb, hu, h => by
    have hc := hb c (List.mem_cons_self ..)
    by_cases hbad : (i = 9 ∧ 1 < c) ∨ (0 < i ∧ c = 0)
    · rw [uvGo_bad hbad] at h; simp at h
    · by_cases hlt : c < 128
      · rw [uvGo_end hbad hlt] at h
        simp only [Prod.mk.injEq] at h
        obtain ⟨rfl, rfl, _⟩ := h
        refine ⟨by omega, c.toNat, by rw [Int.toNat_of_nonneg hc.1], by omega, ?_⟩
        rw [varint_lt (by omega), show i + 1 - i = 1 by omega]
        simp [Int.toNat_of_nonneg hc.1]
      · rw [uvGo_go hbad hlt] at h
        obtain ⟨h1, w, h2, h3, h4⟩ := uvGo_c r (i + 1) _ v m (fun x hx => hb x (List.mem_cons_of_mem _ hx)) (hu.next hbad hlt hc.2) h
        have hw := h3 (by omega)
        refine ⟨by omega, (c - 128).toNat + 128 * w, ?_, fun _ => by omega, ?_⟩
        · rw [h2, p128]
          have e1 : (((c - 128).toNat + 128 * w : Nat) : Int) = (c - 128) + 128 * (w : Int) := by omega
          rw [e1, Int.add_mul, ← Int.mul_assoc, Int.mul_comm (w : Int) 128, Int.add_assoc]
        · rw [varint_ge (by omega), show m - i = (m - (i + 1)) + 1 by omega, List.take_succ_cons, h4]
          have e2 : ((c - 128).toNat + 128 * w) / 128 = w := by omega
          have e3 : (((c - 128).toNat + 128 * w : Nat) : Int) % 128 + 128 = c := by omega
          rw [e2, e3]
theorem uv_c {l : List Int} {v : Int} {m : Nat} (hb : B8 l) (h : uv l = (v, m, 0)) : 0 < m ∧ l.take m = eU v := by
  obtain ⟨h1, w, h2, _, h4⟩ := uvGo_c l 0 0 v m hb UvB.start h
  refine ⟨h1, ?_⟩
  have : v.toNat = w := by simp at h2; omega
  rw [eU, this, ← h4]; simp
/-- with fewer bytes -/
theorem uvGo_t : ∀ (l : List Int) (i : Nat) (u v : Int) (m k : Nat), uvGo i u l = (v, m, 0) → (m ≤ i + k → uvGo i u (l.take k) = (v, m, 0)) ∧ (i + k < m → (uvGo i u (l.take k)).2.2 = 12)
  | [], _, _, _, _, _, h => by simp [uvGo] at h
  | c :: r, i, u, v, m, k, h => by
    by_cases hbad : (i = 9 ∧ 1 < c) ∨ (0 < i ∧ c = 0)
    · rw [uvGo_bad hbad] at h; simp at h
    · cases k with
      | zero =>
        have hm : i < m := (uvGo_len (c :: r) i u (by rw [h])).1 |> fun q => by rw [h] at q; exact q
        exact ⟨fun hk => by omega, fun _ => rfl⟩
      | succ k =>
        by_cases hlt : c < 128
        · rw [uvGo_end hbad hlt] at h
          simp only [Prod.mk.injEq] at h
          obtain ⟨rfl, rfl, _⟩ := h
          exact ⟨fun _ => by rw [List.take_succ_cons, uvGo_end hbad hlt], fun hk => by omega⟩
        · rw [uvGo_go hbad hlt] at h
          obtain ⟨h1, h2⟩ := uvGo_t r (i + 1) _ v m k h
          rw [List.take_succ_cons, uvGo_go hbad hlt]
          exact ⟨fun hk => h1 (by omega), fun hk => h2 (by omega)⟩

/-! ### the bytes from p to q -/
structure Seg (bs : List Int) (p q : Nat) (l : List Int) : Prop where
  lo : p ≤ q
  hi : q ≤ bs.length
  eq : (bs.take q).drop p = l
theorem Seg.app {bs : List Int} {p q r : Nat} {l m : List Int} (h : Seg bs p q l) (k : Seg bs q r m) : Seg bs p r (l ++ m) := by
  have := h.lo; have := h.hi; have := k.lo; have := k.hi
  refine ⟨by omega, by omega, ?_⟩
  rw [← h.eq, ← k.eq]
  have e1 : bs.take r = bs.take q ++ (bs.take r).drop q := by
    have : bs.take q = (bs.take r).take q := by rw [List.take_take]; congr 1; omega
    rw [this, List.take_append_drop]
  rw [e1, List.drop_append_of_le_length (by rw [List.length_take]; omega)]
  congr 1
  rw [← e1]
theorem Seg.nil {bs : List Int} {p : Nat} (h : p ≤ bs.length) : Seg bs p p [] := ⟨Nat.le_refl _, h, by rw [List.drop_eq_nil_of_le]; rw [List.length_take]; omega⟩
theorem Seg.of {bs : List Int} {p n : Nat} {l : List Int} (hp : p + n ≤ bs.length) (h : (bs.drop p).take n = l) : Seg bs p (p + n) l := ⟨by omega, hp, by rw [← h, List.drop_take]; congr 1; omega⟩

section
variable {bs : List Int} {p : Nat}
theorem rU_c (hb : B8 bs) (hp : p ≤ bs.length) (h : (rU bs p 0).2.2 = 0) : p < (rU bs p 0).2.1 ∧ Seg bs p (rU bs p 0).2.1 (eU (rU bs p 0).1) := by
  have hle := (rU_p (e := 0) hp).2
  unfold rU at h hle ⊢
  simp only [ne_eq, not_true_eq_false, if_false] at h hle ⊢
  by_cases h0 : (uv (bs.drop p)).2.2 = 0
  · simp only [h0, if_true] at hle ⊢
    have hu : uv (bs.drop p) = ((uv (bs.drop p)).1, (uv (bs.drop p)).2.1, 0) := by rw [← h0]
    obtain ⟨h1, h2⟩ := uv_c (l := bs.drop p) (fun x hx => hb x (List.mem_of_mem_drop hx)) hu
    exact ⟨by omega, Seg.of hle h2⟩
  · simp only [h0, if_false] at h
theorem rZ_c (hb : B8 bs) (hp : p ≤ bs.length) (h : (rZ bs p 0).2.2 = 0) : p < (rZ bs p 0).2.1 ∧ Seg bs p (rZ bs p 0).2.1 (eZ (rZ bs p 0).1) := by
  have h1 := rU_c hb hp h
  have h2 : eZ (rZ bs p 0).1 = eU (rU bs p 0).1 := by
    unfold eZ rZ eU; simp only; rw [zz_uz (rU_b hb).1]
  rw [h2]; exact h1
theorem rB_c (_ : p ≤ bs.length) (h : (rB bs p 0).2.2 = 0) : p < (rB bs p 0).2.1 ∧ Seg bs p (rB bs p 0).2.1 [(rB bs p 0).1] := by
  unfold rB at h ⊢
  simp only [ne_eq, not_true_eq_false, if_false] at h ⊢
  cases hc : bs[p]? with
  | none => rw [hc] at h; simp at h
  | some c =>
    simp only
    have hlt := (List.getElem?_eq_some_iff.1 hc).1
    refine ⟨by omega, Seg.of (n := 1) (by omega) ?_⟩
    rw [List.drop_eq_getElem_cons hlt, (List.getElem?_eq_some_iff.1 hc).2]; rfl
theorem rBool_c (hb : B8 bs) (hp : p ≤ bs.length) (h : (rBool bs p 0).2.2 = 0) : p < (rBool bs p 0).2.1 ∧ Seg bs p (rBool bs p 0).2.1 (eF (rBool bs p 0).1) := by
  have hbb := rB_b (p := p) (e := 0) hb
  unfold rBool at h ⊢
  simp only at h ⊢
  by_cases h1 : 1 < (rB bs p 0).1
  · rw [if_pos h1] at h
    by_cases h2 : (rB bs p 0).2.2 = 0
    · rw [h2] at h; simp [fl] at h
    · rw [fl_ne h2] at h; exact absurd h h2
  · rw [if_neg h1] at h
    obtain ⟨h2, h3⟩ := rB_c hp h
    refine ⟨h2, ?_⟩
    have e : eF (decide ((rB bs p 0).1 = 1)) = [(rB bs p 0).1] := by
      unfold eF
      by_cases h4 : (rB bs p 0).1 = 1
      · simp [h4]
      · simp [h4]; omega
    rw [e]; exact h3
theorem rLim_0 {lim : Int} (h : (rLim bs lim p 0).2.2 = 0) : rLim bs lim p 0 = rU bs p 0 := by
  unfold rLim at h ⊢
  split
  · rename_i h1
    rw [if_pos h1] at h
    by_cases h2 : (rU bs p 0).2.2 = 0
    · simp only [h2] at h; simp [fl] at h
    · simp only [fl_ne h2] at h; exact absurd h h2
  · rfl
theorem rLeft_0 {r : Int × Nat × Int} (h : (rLeft bs r).2.2 = 0) : rLeft bs r = r ∧ ¬ ((bs.length : Int) - r.2.1 < r.1) := by
  unfold rLeft at h ⊢
  by_cases h1 : (bs.length : Int) - r.2.1 < r.1
  · rw [if_pos h1] at h
    by_cases h2 : r.2.2 = 0
    · simp only [h2] at h; simp [fl] at h
    · simp only [fl_ne h2] at h; exact absurd h h2
  · rw [if_neg h1]; exact ⟨rfl, h1⟩
theorem rBytes_c {n : Nat} (hp : p ≤ bs.length) (h : (rBytes bs n p 0).2.2 = 0) : (rBytes bs n p 0).2.1 = p + n ∧ Seg bs p (rBytes bs n p 0).2.1 (rBytes bs n p 0).1 ∧ (rBytes bs n p 0).1.length = n := by
  unfold rBytes at h ⊢
  by_cases h1 : bs.length - p < n
  · rw [if_pos h1] at h; simp [fl] at h
  · rw [if_neg h1]
    by_cases h2 : n = 0
    · subst h2; simp only [ne_eq, not_true_eq_false, or_true, if_true]
      exact ⟨rfl, Seg.nil hp, rfl⟩
    · simp only [h2, ne_eq, not_true_eq_false, or_self, if_false]
      exact ⟨trivial, Seg.of (by omega) rfl, by simp; omega⟩
theorem rEnts_c (hb : B8 bs) : ∀ (n p : Nat), p ≤ bs.length → (rEnts bs n p 0).2.2 = 0 → Seg bs p (rEnts bs n p 0).2.1 ((rEnts bs n p 0).1.flatMap eEn) ∧ (rEnts bs n p 0).1.length = n
  | 0, p, hp, _ => ⟨Seg.nil hp, rfl⟩
  | n + 1, p, hp, h => by
    unfold rEnts at h ⊢
    simp only [ne_eq, not_true_eq_false, if_false] at h ⊢
    have e1 : (rZ bs p 0).2.2 = 0 := by
      by_cases h1 : (rZ bs p 0).2.2 = 0
      · exact h1
      · rw [rZ_s h1, rEnts_0 h1] at h; exact absurd h h1
    rw [e1] at h ⊢
    have e2 : (rZ bs (rZ bs p 0).2.1 0).2.2 = 0 := by
      by_cases h1 : (rZ bs (rZ bs p 0).2.1 0).2.2 = 0
      · exact h1
      · rw [rEnts_0 h1] at h; exact absurd h h1
    rw [e2] at h ⊢
    have hp1 := (rZ_p (e := 0) hp).2
    have hp2 := (rZ_p (e := 0) hp1).2
    obtain ⟨q1, q2⟩ := rEnts_c hb n _ hp2 h
    refine ⟨?_, by simp only [List.length_cons, q2]⟩
    simp only [List.flatMap_cons, eEn]
    exact ((rZ_c hb hp e1).2.app (rZ_c hb hp1 e2).2).app q1
theorem rChs_c (hb : B8 bs) : ∀ (n p : Nat), p ≤ bs.length → (rChs bs n p 0).2.2 = 0 → Seg bs p (rChs bs n p 0).2.1 ((rChs bs n p 0).1.flatMap eCh) ∧ (rChs bs n p 0).1.length = n
  | 0, p, hp, _ => ⟨Seg.nil hp, rfl⟩
  | n + 1, p, hp, h => by
    unfold rChs at h ⊢
    simp only [ne_eq, not_true_eq_false, if_false] at h ⊢
    have e0 : (rB bs p 0).2.2 = 0 := by
      by_cases h1 : (rB bs p 0).2.2 = 0
      · exact h1
      · rw [rZ_s h1, rZ_s h1, rZ_s h1, rChs_0 h1] at h; exact absurd h h1
    rw [e0] at h ⊢
    have hp0 := (rB_p (e := 0) hp).2
    have e1 : (rZ bs (rB bs p 0).2.1 0).2.2 = 0 := by
      by_cases h1 : (rZ bs (rB bs p 0).2.1 0).2.2 = 0
      · exact h1
      · rw [rZ_s h1, rZ_s h1, rChs_0 h1] at h; exact absurd h h1
    rw [e1] at h ⊢
    have hp1 := (rZ_p (e := 0) hp0).2
    have e2 : (rZ bs (rZ bs (rB bs p 0).2.1 0).2.1 0).2.2 = 0 := by
      by_cases h1 : (rZ bs (rZ bs (rB bs p 0).2.1 0).2.1 0).2.2 = 0
      · exact h1
      · rw [rZ_s h1, rChs_0 h1] at h; exact absurd h h1
    rw [e2] at h ⊢
    have hp2 := (rZ_p (e := 0) hp1).2
    have e3 : (rZ bs (rZ bs (rZ bs (rB bs p 0).2.1 0).2.1 0).2.1 0).2.2 = 0 := by
      by_cases h1 : (rZ bs (rZ bs (rZ bs (rB bs p 0).2.1 0).2.1 0).2.1 0).2.2 = 0
      · exact h1
      · rw [rChs_0 h1] at h; exact absurd h h1
    rw [e3] at h ⊢
    have hp3 := (rZ_p (e := 0) hp2).2
    obtain ⟨q1, q2⟩ := rChs_c hb n _ hp3 h
    refine ⟨?_, by simp only [List.length_cons, q2]⟩
    have hbb := rB_b (p := p) (e := 0) hb
    simp only [List.flatMap_cons, eCh]
    rw [show (rB bs p 0).1 % 256 = (rB bs p 0).1 by omega]
    have hs := ((rB_c hp e0).2.app (((rZ_c hb hp0 e1).2.app (rZ_c hb hp1 e2).2).app (rZ_c hb hp2 e3).2)).app q1
    simpa only [List.append_assoc, List.cons_append, List.nil_append, List.singleton_append] using hs
theorem rField_c (hb : B8 bs) (hp : p ≤ bs.length) {f : Int} (hf : Ltr f) {x : OpM} (h : (rField bs f x p 0).2.2 = 0) : Seg bs p (rField bs f x p 0).2.1 (eField f (rField bs f x p 0).1) := by
  unfold Ltr at hf
  rcases hf with rfl | rfl | rfl | rfl | rfl | rfl | rfl | rfl | rfl | rfl | rfl | rfl
  · rw [rField_A] at h ⊢; exact (rU_c hb hp h).2
  · rw [rField_B] at h ⊢; exact (rU_c hb hp h).2
  · rw [rField_K] at h ⊢; exact (rZ_c hb hp h).2
  · rw [rField_V] at h ⊢; exact (rZ_c hb hp h).2
  · rw [rField_L] at h ⊢; exact (rZ_c hb hp h).2
  · rw [rField_H] at h ⊢; exact (rZ_c hb hp h).2
  · rw [rField_N] at h ⊢; rw [eField_N]; simp only at h ⊢; have hr := rLim_0 h; rw [hr] at h ⊢; exact (rU_c hb hp h).2
  · rw [rField_F] at h ⊢; exact (rBool_c hb hp h).2
  · rw [rField_S] at h ⊢; rw [eField_S]; simp only at h ⊢
    have e1 : (rLim bs 32 p 0).2.2 = 0 := by
      by_cases h1 : (rLim bs 32 p 0).2.2 = 0
      · exact h1
      · rw [rBytes_s h1] at h; exact absurd h h1
    rw [e1] at h ⊢
    have hp1 := (rLim_p (lim := 32) (e := 0) hp).2
    have hn := rLim_b (bs := bs) (p := p) (e := 0) (lim := 32) hb (by decide)
    obtain ⟨_, q2, q3⟩ := rBytes_c hp1 h
    rw [sb_mkS (rBytes_B8 hb), eBytes, q3, Int.toNat_of_nonneg hn.1]
    have hr := rLim_0 e1
    rw [hr] at q2 e1 ⊢
    exact (rU_c hb hp e1).2.app q2
  · rw [rField_Y] at h ⊢; rw [eField_Y]; simp only at h ⊢
    have e1 : (rLim bs 65536 p 0).2.2 = 0 := by
      by_cases h1 : (rLim bs 65536 p 0).2.2 = 0
      · exact h1
      · rw [rBytes_s h1] at h; exact absurd h h1
    rw [e1] at h ⊢
    have hp1 := (rLim_p (lim := 65536) (e := 0) hp).2
    have hn := rLim_b (bs := bs) (p := p) (e := 0) (lim := 65536) hb (by decide)
    obtain ⟨_, q2, q3⟩ := rBytes_c hp1 h
    rw [eBytes, q3, Int.toNat_of_nonneg hn.1]
    have hr := rLim_0 e1
    rw [hr] at q2 e1 ⊢
    exact (rU_c hb hp e1).2.app q2
  · rw [rField_E] at h ⊢; rw [eField_E]; simp only at h ⊢
    have e1 : (rEl bs 1000 p 0).2.2 = 0 := by
      by_cases h1 : (rEl bs 1000 p 0).2.2 = 0
      · exact h1
      · rw [rEnts_0 h1] at h; exact absurd h h1
    rw [e1] at h ⊢
    have hp1 := rEl_le (lim := 1000) (e := 0) hp
    have hn := rEl_lim (bs := bs) (p := p) (e := 0) (lim := 1000) hb (by decide)
    obtain ⟨q2, q3⟩ := rEnts_c hb _ _ hp1 h
    rw [eEnts, q3, Int.toNat_of_nonneg hn.1]
    have e2 := (rLeft_0 (show (rLeft bs (rLim bs 1000 p 0)).2.2 = 0 from e1)).1
    have e3 : rEl bs 1000 p 0 = rU bs p 0 := by
      unfold rEl at e1 ⊢; rw [e2] at e1 ⊢; exact rLim_0 e1
    rw [e3] at q2 e1 ⊢
    exact (rU_c hb hp e1).2.app q2
  · rw [rField_C] at h ⊢; rw [eField_C]; simp only at h ⊢
    have e1 : (rEl bs 1000 p 0).2.2 = 0 := by
      by_cases h1 : (rEl bs 1000 p 0).2.2 = 0
      · exact h1
      · rw [rChs_0 h1] at h; exact absurd h h1
    rw [e1] at h ⊢
    have hp1 := rEl_le (lim := 1000) (e := 0) hp
    have hn := rEl_lim (bs := bs) (p := p) (e := 0) (lim := 1000) hb (by decide)
    obtain ⟨q2, q3⟩ := rChs_c hb _ _ hp1 h
    rw [eChs, q3, Int.toNat_of_nonneg hn.1]
    have e2 := (rLeft_0 (show (rLeft bs (rLim bs 1000 p 0)).2.2 = 0 from e1)).1
    have e3 : rEl bs 1000 p 0 = rU bs p 0 := by
      unfold rEl at e1 ⊢; rw [e2] at e1 ⊢; exact rLim_0 e1
    rw [e3] at q2 e1 ⊢
    exact (rU_c hb hp e1).2.app q2
/-! ### one field at a time -/
theorem setF_set {f : Int} {l : List Int} (hf : f ∉ l) {u v x : OpM} : setF f (setFs l u v) x = setF f v x := by
  by_cases hl : Ltr f
  · unfold Ltr at hl
    rcases hl with rfl | rfl | rfl | rfl | rfl | rfl | rfl | rfl | rfl | rfl | rfl | rfl
    · rw [setF_A, setF_A, setFs_A, if_neg hf]
    · rw [setF_B, setF_B, setFs_B, if_neg hf]
    · rw [setF_K, setF_K, setFs_K, if_neg hf]
    · rw [setF_V, setF_V, setFs_V, if_neg hf]
    · rw [setF_L, setF_L, setFs_L, if_neg hf]
    · rw [setF_H, setF_H, setFs_H, if_neg hf]
    · rw [setF_N, setF_N, setFs_N, if_neg hf]
    · rw [setF_F, setF_F, setFs_F, if_neg hf]
    · rw [setF_S, setF_S, setFs_S, if_neg hf]
    · rw [setF_Y, setF_Y, setFs_Y, if_neg hf]
    · rw [setF_E, setF_E, setFs_E, if_neg hf]
    · rw [setF_C, setF_C, setFs_C, if_neg hf]
  · rw [setF_no hl, setF_no hl]
theorem eField_setFs {f : Int} {l : List Int} (hf : f ∉ l) {u v : OpM} : eField f (setFs l u v) = eField f v := by
  by_cases hl : Ltr f
  · unfold Ltr at hl
    rcases hl with rfl | rfl | rfl | rfl | rfl | rfl | rfl | rfl | rfl | rfl | rfl | rfl
    · rw [eField_A, eField_A, setFs_A, if_neg hf]
    · rw [eField_B, eField_B, setFs_B, if_neg hf]
    · rw [eField_K, eField_K, setFs_K, if_neg hf]
    · rw [eField_V, eField_V, setFs_V, if_neg hf]
    · rw [eField_L, eField_L, setFs_L, if_neg hf]
    · rw [eField_H, eField_H, setFs_H, if_neg hf]
    · rw [eField_N, eField_N, setFs_N, if_neg hf]
    · rw [eField_F, eField_F, setFs_F, if_neg hf]
    · rw [eField_S, eField_S, setFs_S, if_neg hf]
    · rw [eField_Y, eField_Y, setFs_Y, if_neg hf]
    · rw [eField_E, eField_E, setFs_E, if_neg hf]
    · rw [eField_C, eField_C, setFs_C, if_neg hf]
  · rw [eField_no hl, eField_no hl]
theorem rField_set {f : Int} {x : OpM} {e : Int} : (rField bs f x p e).1 = setF f (rField bs f x p e).1 x := by
  by_cases hl : Ltr f
  · unfold Ltr at hl
    rcases hl with rfl | rfl | rfl | rfl | rfl | rfl | rfl | rfl | rfl | rfl | rfl | rfl <;> rfl
  · rw [setF_no hl, rField_no hl]
theorem rFields_set : ∀ (l : List Int) (x : OpM) (p : Nat) (e : Int), l.Nodup → (rFields bs l x p e).1 = setFs l (rFields bs l x p e).1 x
  | [], _, _, _, _ => rfl
  | f :: l, x, p, e, hn => by
    obtain ⟨h1, h2⟩ := List.nodup_cons.1 hn
    have ih := rFields_set l (rField bs f x p e).1 (rField bs f x p e).2.1 (rField bs f x p e).2.2 h2
    rw [rFields, setFs]
    have h3 : setF f (rFields bs l (rField bs f x p e).1 (rField bs f x p e).2.1 (rField bs f x p e).2.2).1 x = (rField bs f x p e).1 := by
      rw [ih, setF_set h1]; exact rField_set.symm
    rw [h3]; exact ih
theorem rFields_c (hb : B8 bs) : ∀ (l : List Int) (x : OpM) (p : Nat), (∀ f ∈ l, Ltr f) → l.Nodup → p ≤ bs.length → (rFields bs l x p 0).2.2 = 0 → Seg bs p (rFields bs l x p 0).2.1 (l.flatMap fun f => eField f (rFields bs l x p 0).1)
  | [], _, _, _, _, hp, _ => Seg.nil hp
  | f :: l, x, p, hl, hn, hp, h => by
    obtain ⟨h1, h2⟩ := List.nodup_cons.1 hn
    rw [rFields] at h ⊢
    have e1 : (rField bs f x p 0).2.2 = 0 := by
      by_cases hh : (rField bs f x p 0).2.2 = 0
      · exact hh
      · rw [rFields_s hh] at h; exact absurd h hh
    rw [e1] at h ⊢
    have q1 := rField_c hb hp (hl f (List.mem_cons_self ..)) e1
    have q2 := rFields_c hb l (rField bs f x p 0).1 (rField bs f x p 0).2.1 (fun g hg => hl g (List.mem_cons_of_mem _ hg)) h2 (rField_le hp) h
    have q3 := rFields_set (bs := bs) l (rField bs f x p 0).1 (rField bs f x p 0).2.1 0 h2
    rw [List.flatMap_cons]
    have q4 : eField f (rFields bs l (rField bs f x p 0).1 (rField bs f x p 0).2.1 0).1 = eField f (rField bs f x p 0).1 := by
      rw [q3, eField_setFs h1]
    rw [q4]
    exact q1.app q2
theorem fs_nd (c : Int) : (fs c).Nodup := fs_all (q := fun l => l.Nodup) (by decide) c
theorem rFields_code : ∀ (l : List Int) (x : OpM) (p : Nat) (e : Int), l.Nodup → (rFields bs l x p e).1.code = x.code := fun l x p e hn => by
  rw [rFields_set l x p e hn, setFs_code]
theorem rOp_c (hb : B8 bs) (hp : p ≤ bs.length) (h : (rOp bs p).2.2 = 0) : okOp (rOp bs p).1 ∧ p < (rOp bs p).2.1 ∧ Seg bs p (rOp bs p).2.1 (eOp (rOp bs p).1) := by
  have hR := rOp_R hb hp
  unfold rOp at h hR ⊢
  simp only at h hR ⊢
  generalize hY : (rFields bs (fs (rB bs p 0).1) (op0 (rB bs p 0).1) (rB bs p 0).2.1 (if isOp (rB bs p 0).1 then (rB bs p 0).2.2 else fl (rB bs p 0).2.2 13)) = Y at h hR ⊢
  by_cases h0 : Y.2.2 = 0
  · rw [if_neg (by simp [h0])] at hR ⊢
    have e1 : (if isOp (rB bs p 0).1 then (rB bs p 0).2.2 else fl (rB bs p 0).2.2 13) = 0 := by
      by_cases hh : (if isOp (rB bs p 0).1 then (rB bs p 0).2.2 else fl (rB bs p 0).2.2 13) = 0
      · exact hh
      · have := rFields_s (bs := bs) (l := fs (rB bs p 0).1) (x := op0 (rB bs p 0).1) (p := (rB bs p 0).2.1) hh
        rw [hY] at this; rw [← this]; exact h0
    have e2 : isOp (rB bs p 0).1 = true ∧ (rB bs p 0).2.2 = 0 := by
      by_cases hi : isOp (rB bs p 0).1 = true
      · rw [if_pos hi] at e1; exact ⟨hi, e1⟩
      · rw [if_neg hi] at e1
        by_cases he : (rB bs p 0).2.2 = 0
        · rw [he] at e1; simp [fl] at e1
        · rw [fl_ne he] at e1; exact absurd e1 he
    rw [if_pos e2.1, e2.2] at hY
    obtain ⟨q1, q2⟩ := rB_c hp e2.2
    have hp1 := (rB_p (e := 0) hp).2
    have hcode : Y.1.code = (rB bs p 0).1 := by rw [← hY, rFields_code _ _ _ _ (fs_nd _)]; rfl
    have hset : Y.1 = only Y.1 := by
      have := rFields_set (bs := bs) (fs (rB bs p 0).1) (op0 (rB bs p 0).1) (rB bs p 0).2.1 0 (fs_nd _)
      rw [hY] at this
      unfold only; rw [hcode]; exact this
    have q3 := rFields_c hb (fs (rB bs p 0).1) (op0 (rB bs p 0).1) (rB bs p 0).2.1 (fs_ltr _) (fs_nd _) hp1 (by rw [hY]; exact h0)
    rw [hY] at q3
    refine ⟨⟨by rw [hcode]; exact e2.1, hR.l, hR.k, (only_iff _).1 hset⟩, by have := q3.lo; omega, ?_⟩
    have hbb := rB_b (p := p) (e := 0) hb
    rw [eOp, hcode, show (rB bs p 0).1 % 256 = (rB bs p 0).1 by omega]
    exact q2.app q3
  · rw [if_pos h0] at h; exact absurd h h0
theorem rNx_at (hp : p ≤ bs.length) : rNx bs (p : Int) = ((rOp bs p).1, ((rOp bs p).2.1 : Int), (rOp bs p).2.2) := by
  rw [rNx, if_neg (by omega), Int.toNat_natCast]
theorem nx_c (hb : B8 bs) (hp : p ≤ bs.length) {N : OpM × Int × Int} (hN : rNx bs (p : Int) = N) (h : N.2.2 = 0) : ∃ q : Nat, N.2.1 = q ∧ okOp N.1 ∧ OpR N.1 ∧ p < q ∧ Seg bs p q (eOp N.1) := by
  subst hN
  rw [rNx_at hp] at h ⊢
  obtain ⟨h1, h2, h3⟩ := rOp_c hb hp h
  exact ⟨_, rfl, h1, rOp_R hb hp, h2, h3⟩
end
end Go.V
