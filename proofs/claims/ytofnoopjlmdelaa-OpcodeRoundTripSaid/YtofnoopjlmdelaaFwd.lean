/-
  Plain law: what was written is read back, and what was cut off is reported as truncated.
  Conditions: none.
-/
import Derived.Test.YtofnoopjlmdelaaRt
import Derived.Test.YtofnoopjlmdelaaAnm
namespace Go.V
open Go

/-- the reader gives x where l stands, and the error 12 where l is cut off -/
def Rdr {α : Type} (bs : List Int) (R : Nat → α × Nat × Int) (l : List Int) (x : α) : Prop :=
  ∀ p, p ≤ bs.length → (l <+: bs.drop p → R p = (x, p + l.length, 0)) ∧ (bs.drop p <+: l → bs.length - p < l.length → (R p).2.2 = 12)
section
variable {α β : Type} {bs : List Int}
theorem Rdr.congr {R Q : Nat → α × Nat × Int} {l : List Int} {x : α} (h : Rdr bs R l x) (e : ∀ p, Q p = R p) : Rdr bs Q l x := by rwa [show Q = R from funext e]
theorem pre_split {l m t : List Int} (h : l ++ m <+: t) : l <+: t ∧ m <+: t.drop l.length := by
  obtain ⟨r, rfl⟩ := h
  exact ⟨⟨m ++ r, by simp⟩, ⟨r, by simp⟩⟩
theorem pre_cut {l m t : List Int} (h : t <+: l ++ m) : (t <+: l ∧ t.length < l.length) ∨ (l <+: t ∧ t.drop l.length <+: m) := by
  obtain ⟨r, hr⟩ := h
  rcases List.append_eq_append_iff.1 hr with ⟨a, h1, h2⟩ | ⟨a, h1, h2⟩
  · by_cases ha : a = []
    · subst ha; refine .inr ⟨⟨[], by simpa using h1⟩, ?_⟩
      rw [show t.drop l.length = [] by rw [List.drop_eq_nil_of_le]; simp [h1]]; exact List.nil_prefix
    · refine .inl ⟨⟨a, h1.symm⟩, ?_⟩
      rw [h1, List.length_append]
      have : 0 < a.length := List.length_pos_iff.2 ha
      omega
  · refine .inr ⟨⟨a, h1.symm⟩, ?_⟩
    rw [h1, List.drop_left]; exact ⟨r, h2.symm⟩
theorem Rdr.bind {R1 : Nat → α × Nat × Int} {R2 : α → Nat → Int → β × Nat × Int} {l1 l2 : List Int} {x1 : α} {x2 : β} (h1 : Rdr bs R1 l1 x1) (h2 : Rdr bs (fun p => R2 x1 p 0) l2 x2) (hs : ∀ v p e, e ≠ 0 → (R2 v p e).2.2 = e) :
    Rdr bs (fun p => R2 (R1 p).1 (R1 p).2.1 (R1 p).2.2) (l1 ++ l2) x2 := fun p hp => by
  refine ⟨fun h => ?_, fun h hlt => ?_⟩
  · obtain ⟨a, b⟩ := pre_split h
    have hl := a.length_le
    rw [List.length_drop] at hl
    rw [List.drop_drop] at b
    simp only [(h1 p hp).1 a]
    have h9 := (h2 (p + l1.length) (by omega)).1 b
    simp only at h9
    rw [h9, List.length_append, Nat.add_assoc]
  · rcases pre_cut h with ⟨a, b⟩ | ⟨a, b⟩
    · rw [List.length_drop] at b
      have := (h1 p hp).2 a b
      rw [hs _ _ _ (by rw [this]; decide), this]
    · have hl := a.length_le
      rw [List.length_drop] at hl
      rw [List.drop_drop] at b
      simp only [(h1 p hp).1 a]
      rw [List.length_append] at hlt
      exact (h2 (p + l1.length) (by omega)).2 b (by omega)
theorem Rdr.map {R : Nat → α × Nat × Int} {l : List Int} {x : α} (g : α → β) (h : Rdr bs R l x) : Rdr bs (fun p => (g (R p).1, (R p).2)) l (g x) := fun p hp =>
  ⟨fun k => by simp only [(h p hp).1 k], fun k hk => (h p hp).2 k hk⟩
theorem Rdr.ret (x : α) : Rdr bs (fun p => (x, p, 0)) [] x := fun _ _ => ⟨fun _ => rfl, fun _ h => absurd h (Nat.not_lt_zero _)⟩
theorem rdr_U {u : Int} (h : 0 ≤ u ∧ u ≤ 18446744073709551615) : Rdr bs (fun p => rU bs p 0) (eU u) u := fun p _ => by
  refine ⟨fun ⟨r, hr⟩ => ?_, fun hpre hlt => ?_⟩
  · have := uv_w h r
    simp only [rU, ← hr, this]; simp
  · have h1 := uv_w h []
    rw [List.append_nil] at h1
    have h2 := (uvGo_t (eU u) 0 0 u _ (bs.drop p).length h1).2 (by rw [List.length_drop]; omega)
    have h3 : (eU u).take (bs.drop p).length = bs.drop p := by obtain ⟨r, hr⟩ := hpre; rw [← hr]; simp
    rw [h3] at h2
    have h4 : (uv (bs.drop p)).2.2 = 12 := h2
    simp only [rU, h4]; simp
theorem rdr_Z {n : Int} (h : I64 n) : Rdr bs (fun p => rZ bs p 0) (eZ n) n := by
  have := (rdr_U (bs := bs) (zz_b h)).map uz
  rw [uz_zz] at this
  exact this
theorem rdr_B {c : Int} : Rdr bs (fun p => rB bs p 0) [c] c := fun p _ => by
  refine ⟨fun ⟨r, hr⟩ => ?_, fun hpre hlt => ?_⟩
  · have : bs[p]? = some c := by rw [← List.head?_drop, ← hr]; rfl
    simp [rB, this]
  · have : bs[p]? = none := List.getElem?_eq_none (by simp at hlt; omega)
    simp [rB, this]
theorem rdr_Bool {b : Bool} : Rdr bs (fun p => rBool bs p 0) (eF b) b := by
  refine Rdr.congr (R := fun p => (fun v q e => ((decide (v = 1), q, if (1 : Int) < v then fl e 13 else e) : Bool × Nat × Int)) (rB bs p 0).1 (rB bs p 0).2.1 (rB bs p 0).2.2) ?_ (fun _ => rfl)
  have := Rdr.bind (R1 := fun p => rB bs p 0) (R2 := fun v q e => ((decide (v = 1), q, if (1 : Int) < v then fl e 13 else e) : Bool × Nat × Int)) (l1 := eF b) (l2 := []) (x1 := if b then 1 else 0) (x2 := b) rdr_B
    (by cases b <;> exact Rdr.ret _) (fun v p e he => by simp only; split <;> simp [fl, he])
  rwa [List.append_nil] at this
theorem rdr_Lim {u lim : Int} (h : 0 ≤ u ∧ u ≤ 18446744073709551615) (hl : u ≤ lim) : Rdr bs (fun p => rLim bs lim p 0) (eU u) u := fun p hp => by
  refine ⟨fun k => ?_, fun k hk => ?_⟩
  · simp only [rLim]
    have := (rdr_U h p hp).1 k
    simp only at this
    rw [this]; rw [if_neg (by simp only; omega)]
  · simp only [rLim]
    have := (rdr_U h p hp).2 k hk
    simp only at this
    split
    · simp [this, fl]
    · exact this
theorem fl_12 : fl 12 12 = 12 := rfl
/-- a number of elements that the rest must hold -/
theorem Rdr.left {R1 : Nat → Int × Nat × Int} {R2 : Int → Nat → Int → β × Nat × Int} {l1 l2 : List Int} {x1 : Int} {x2 : β} (h1 : Rdr bs R1 l1 x1) (h2 : Rdr bs (fun p => R2 x1 p 0) l2 x2) (hs : ∀ v p e, e ≠ 0 → (R2 v p e).2.2 = e) (hn : x1 ≤ l2.length) :
    Rdr bs (fun p => R2 (rLeft bs (R1 p)).1 (rLeft bs (R1 p)).2.1 (rLeft bs (R1 p)).2.2) (l1 ++ l2) x2 := fun p hp => by
  refine ⟨fun h => ?_, fun h hlt => ?_⟩
  · obtain ⟨a, b⟩ := pre_split h
    have hl := a.length_le
    have hl2 := b.length_le
    rw [List.drop_drop] at b hl2
    rw [List.length_drop] at hl hl2
    simp only [(h1 p hp).1 a]
    have : rLeft bs (x1, p + l1.length, 0) = (x1, p + l1.length, 0) := by rw [rLeft, if_neg (by simp only; omega)]
    simp only [this]
    have h9 := (h2 (p + l1.length) (by omega)).1 b
    simp only at h9
    rw [h9, List.length_append, Nat.add_assoc]
  · rcases pre_cut h with ⟨a, b⟩ | ⟨a, b⟩
    · rw [List.length_drop] at b
      have h3 := (h1 p hp).2 a b
      have h4 : (rLeft bs (R1 p)).2.2 = 12 := by
        rw [rLeft]; split
        · simp [h3, fl]
        · exact h3
      rw [hs _ _ _ (by rw [h4]; decide), h4]
    · have hl := a.length_le
      rw [List.length_drop] at hl
      rw [List.drop_drop] at b
      simp only [(h1 p hp).1 a]
      rw [List.length_append] at hlt
      by_cases hc : (bs.length : Int) - ((p + l1.length : Nat) : Int) < x1
      · have : rLeft bs (x1, p + l1.length, 0) = (0, p + l1.length, 12) := by rw [rLeft, if_pos hc]; rfl
        simp only [this]; exact hs _ _ _ (by decide)
      · have : rLeft bs (x1, p + l1.length, 0) = (x1, p + l1.length, 0) := by rw [rLeft, if_neg hc]
        simp only [this]
        exact (h2 (p + l1.length) (by omega)).2 b (by omega)
theorem rdr_bytes {l : List Int} : Rdr bs (fun p => rBytes bs ((l.length : Int)).toNat p 0) l l := fun p hp => by
  rw [Int.toNat_natCast]
  refine ⟨fun h => ?_, fun _ hlt => ?_⟩
  · have hl := h.length_le
    rw [List.length_drop] at hl
    simp only [rBytes]
    rw [if_neg (by omega)]
    by_cases h0 : l.length = 0
    · rw [if_pos (.inr h0), List.length_eq_zero_iff.1 h0]; rfl
    · rw [if_neg (by simp [h0])]
      obtain ⟨r, hr⟩ := h
      rw [← hr, List.take_left]
  · simp only [rBytes]; rw [if_pos (by omega)]; rfl
theorem rdr_ents : ∀ (l : List (Int × Int)), En64 l → Rdr bs (fun p => rEnts bs l.length p 0) (l.flatMap eEn) l
  | [], _ => Rdr.ret []
  | x :: l, h => by
    have hx := h x (List.mem_cons_self ..)
    have ih := rdr_ents l (fun y hy => h y (List.mem_cons_of_mem _ hy))
    have h3 := Rdr.bind (R2 := fun v q e => ((((x.1, v) :: (rEnts bs l.length q e).1, (rEnts bs l.length q e).2)) : List (Int × Int) × Nat × Int)) (rdr_Z (bs := bs) hx.2) (ih.map (fun r => (x.1, x.2) :: r)) (fun v q e he => by simp only; rw [rEnts_0 he])
    have h4 := Rdr.bind (R2 := fun u q e => ((((u, (rZ bs q e).1) :: (rEnts bs l.length (rZ bs q e).2.1 (rZ bs q e).2.2).1, (rEnts bs l.length (rZ bs q e).2.1 (rZ bs q e).2.2).2)) : List (Int × Int) × Nat × Int)) (rdr_Z (bs := bs) hx.1) h3 (fun v q e he => by
      simp only; rw [rZ_s he]; rw [rEnts_0 he])
    rw [List.flatMap_cons, eEn, List.append_assoc]
    refine h4.congr fun p => ?_
    simp [rEnts]
theorem rdr_chs : ∀ (l : List (Int × Int × Int × Int)), Ch64 l → (∀ c ∈ l, 0 ≤ c.1 ∧ c.1 ≤ 255) → Rdr bs (fun p => rChs bs l.length p 0) (l.flatMap eCh) l
  | [], _, _ => Rdr.ret []
  | x :: l, h, hk => by
    have hx := h x (List.mem_cons_self ..)
    have h8 := hk x (List.mem_cons_self ..)
    have ih := rdr_chs l (fun y hy => h y (List.mem_cons_of_mem _ hy)) (fun y hy => hk y (List.mem_cons_of_mem _ hy))
    have h3 := Rdr.bind (R2 := fun v q e => ((((x.1, x.2.1, x.2.2.1, v) :: (rChs bs l.length q e).1, (rChs bs l.length q e).2)) : List (Int × Int × Int × Int) × Nat × Int)) (rdr_Z (bs := bs) hx.2.2.2) (ih.map (fun r => (x.1, x.2.1, x.2.2.1, x.2.2.2) :: r)) (fun v q e he => by simp only; rw [rChs_0 he])
    have h4 := Rdr.bind (R2 := fun u q e => ((((x.1, x.2.1, u, (rZ bs q e).1) :: (rChs bs l.length (rZ bs q e).2.1 (rZ bs q e).2.2).1, (rChs bs l.length (rZ bs q e).2.1 (rZ bs q e).2.2).2)) : List (Int × Int × Int × Int) × Nat × Int)) (rdr_Z (bs := bs) hx.2.2.1) h3 (fun v q e he => by
      simp only; rw [rZ_s he]; rw [rChs_0 he])
    have h5 := Rdr.bind (R2 := fun t q e => ((((x.1, t, (rZ bs q e).1, (rZ bs (rZ bs q e).2.1 (rZ bs q e).2.2).1) :: (rChs bs l.length (rZ bs (rZ bs q e).2.1 (rZ bs q e).2.2).2.1 (rZ bs (rZ bs q e).2.1 (rZ bs q e).2.2).2.2).1, (rChs bs l.length (rZ bs (rZ bs q e).2.1 (rZ bs q e).2.2).2.1 (rZ bs (rZ bs q e).2.1 (rZ bs q e).2.2).2.2).2)) : List (Int × Int × Int × Int) × Nat × Int)) (rdr_Z (bs := bs) hx.2.1) h4 (fun v q e he => by
      simp only; rw [rZ_s he]; simp only; rw [rZ_s he]; simp only; rw [rChs_0 he])
    have h6 := Rdr.bind (R2 := fun s q e => ((((s, (rZ bs q e).1, (rZ bs (rZ bs q e).2.1 (rZ bs q e).2.2).1, (rZ bs (rZ bs (rZ bs q e).2.1 (rZ bs q e).2.2).2.1 (rZ bs (rZ bs q e).2.1 (rZ bs q e).2.2).2.2).1) :: (rChs bs l.length (rZ bs (rZ bs (rZ bs q e).2.1 (rZ bs q e).2.2).2.1 (rZ bs (rZ bs q e).2.1 (rZ bs q e).2.2).2.2).2.1 (rZ bs (rZ bs (rZ bs q e).2.1 (rZ bs q e).2.2).2.1 (rZ bs (rZ bs q e).2.1 (rZ bs q e).2.2).2.2).2.2).1, (rChs bs l.length (rZ bs (rZ bs (rZ bs q e).2.1 (rZ bs q e).2.2).2.1 (rZ bs (rZ bs q e).2.1 (rZ bs q e).2.2).2.2).2.1 (rZ bs (rZ bs (rZ bs q e).2.1 (rZ bs q e).2.2).2.1 (rZ bs (rZ bs q e).2.1 (rZ bs q e).2.2).2.2).2.2).2)) : List (Int × Int × Int × Int) × Nat × Int)) (rdr_B (bs := bs) (c := x.1)) h5 (fun v q e he => by
      simp only; rw [rZ_s he]; simp only; rw [rZ_s he]; simp only; rw [rZ_s he]; simp only; rw [rChs_0 he])
    rw [List.flatMap_cons, eCh, show x.1 % 256 = x.1 by omega]
    simp only [List.append_assoc, List.cons_append]
    refine Rdr.congr (R := _) h6 fun p => ?_
    simp [rChs]
theorem rdr_ints : ∀ (l : List Int), I64s l → Rdr bs (fun p => rInts bs l.length p 0) (l.flatMap eZ) l
  | [], _ => Rdr.ret []
  | x :: l, h => by
    have hx := h x (List.mem_cons_self ..)
    have ih := rdr_ints l (fun y hy => h y (List.mem_cons_of_mem _ hy))
    have h3 := Rdr.bind (R2 := fun v q e => (((v :: (rInts bs l.length q e).1, (rInts bs l.length q e).2)) : List Int × Nat × Int)) (rdr_Z (bs := bs) hx) (ih.map (fun r => x :: r)) (fun v q e he => by simp only; rw [rInts_0 he])
    rw [List.flatMap_cons]
    refine h3.congr fun p => ?_
    simp [rInts]
theorem varint_pos (u : Nat) : 1 ≤ (varint u).length := by
  by_cases h : u < 128
  · rw [varint_lt h]; simp
  · rw [varint_ge h]; simp
theorem toNat_eta {γ : Type} {G : Nat → Nat → γ} {n : Nat} : (fun p => G ((n : Int)).toNat p) = fun p => G n p := by rw [Int.toNat_natCast]
theorem eEn_pos {x : Int × Int} : 1 ≤ (eEn x).length := by
  rw [eEn, List.length_append]; have := varint_pos (zz x.1).toNat; unfold eZ; omega
theorem fm_pos {γ : Type} {f : γ → List Int} : ∀ {l : List γ}, (∀ x ∈ l, 1 ≤ (f x).length) → l.length ≤ (l.flatMap f).length
  | [], _ => Nat.le_refl _
  | x :: l, h => by
    have h1 := h x (List.mem_cons_self ..)
    have h2 := fm_pos (f := f) (l := l) fun y hy => h y (List.mem_cons_of_mem _ hy)
    rw [List.flatMap_cons, List.length_append, List.length_cons]; omega
theorem rEnts_st {n : Nat} {p : Nat} {e : Int} (h : e ≠ 0) : (rEnts bs n p e).2.2 = e := by rw [rEnts_0 h]
theorem rChs_st {n : Nat} {p : Nat} {e : Int} (h : e ≠ 0) : (rChs bs n p e).2.2 = e := by rw [rChs_0 h]
theorem rInts_st {n : Nat} {p : Nat} {e : Int} (h : e ≠ 0) : (rInts bs n p e).2.2 = e := by rw [rInts_0 h]
section
variable {R1 : Nat → Int × Nat × Int}
theorem rdr_eEnts {l : List (Int × Int)} (h : En64 l) (h1 : Rdr bs R1 (eU l.length) l.length) : Rdr bs (fun p => rEnts bs (rLeft bs (R1 p)).1.toNat (rLeft bs (R1 p)).2.1 (rLeft bs (R1 p)).2.2) (eEnts l) l := by
  have h2 := rdr_ents (bs := bs) l h
  exact Rdr.left (R2 := fun v p e => rEnts bs v.toNat p e) h1 (by simp only [Int.toNat_natCast]; exact h2) (fun _ _ _ he => rEnts_st he) (Int.ofNat_le.2 (fm_pos (f := eEn) (l := l) fun x _ => eEn_pos))
theorem rdr_eChs {l : List (Int × Int × Int × Int)} (h : Ch64 l) (hk : ∀ c ∈ l, 0 ≤ c.1 ∧ c.1 ≤ 255) (h1 : Rdr bs R1 (eU l.length) l.length) : Rdr bs (fun p => rChs bs (rLeft bs (R1 p)).1.toNat (rLeft bs (R1 p)).2.1 (rLeft bs (R1 p)).2.2) (eChs l) l := by
  have h2 := rdr_chs (bs := bs) l h hk
  exact Rdr.left (R2 := fun v p e => rChs bs v.toNat p e) h1 (by simp only [Int.toNat_natCast]; exact h2) (fun _ _ _ he => rChs_st he) (Int.ofNat_le.2 (fm_pos (f := eCh) (l := l) fun x _ => (by rw [eCh, List.length_cons]; omega)))
theorem rdr_eInts {l : List Int} (h : I64s l) (h1 : Rdr bs R1 (eU l.length) l.length) : Rdr bs (fun p => rInts bs (rLeft bs (R1 p)).1.toNat (rLeft bs (R1 p)).2.1 (rLeft bs (R1 p)).2.2) (eU l.length ++ l.flatMap eZ) l := by
  have h2 := rdr_ints (bs := bs) l h
  exact Rdr.left (R2 := fun v p e => rInts bs v.toNat p e) h1 (by simp only [Int.toNat_natCast]; exact h2) (fun _ _ _ he => rInts_st he) (Int.ofNat_le.2 (fm_pos (f := eZ) (l := l) fun x _ => varint_pos _))
theorem rdr_lBytes {l : List Int} (h1 : Rdr bs R1 (eU l.length) l.length) : Rdr bs (fun p => rBytes bs (rLeft bs (R1 p)).1.toNat (rLeft bs (R1 p)).2.1 (rLeft bs (R1 p)).2.2) (eBytes l) l :=
  Rdr.left (R2 := fun v p e => rBytes bs v.toNat p e) h1 rdr_bytes (fun _ _ _ he => rBytes_s he) (Int.le_refl _)
theorem rdr_eBytes {l : List Int} (h1 : Rdr bs R1 (eU l.length) l.length) : Rdr bs (fun p => rBytes bs (R1 p).1.toNat (R1 p).2.1 (R1 p).2.2) (eBytes l) l :=
  Rdr.bind (R2 := fun v p e => rBytes bs v.toNat p e) h1 rdr_bytes (fun _ _ _ he => rBytes_s he)
end
theorem rdr_field {f : Int} {x y : OpM} (hw : OpW y) (hl : OpL y) (hk : ∀ c ∈ y.chs, 0 ≤ c.1 ∧ c.1 ≤ 255) : Rdr bs (fun p => rField bs f x p 0) (eField f y) (setF f y x) := by
  by_cases hf : Ltr f
  · unfold Ltr at hf
    have hb := hl.bytes; have he := hl.ents; have hc := hl.chs; have hn := hl.name; have hn2 := hl.n
    rcases hf with rfl | rfl | rfl | rfl | rfl | rfl | rfl | rfl | rfl | rfl | rfl | rfl
    · exact (rdr_U hw.a).map fun v => { x with a := v }
    · exact (rdr_U hw.b).map fun v => { x with b := v }
    · exact (rdr_Z hw.key).map fun v => { x with key := v }
    · exact (rdr_Z hw.val).map fun v => { x with val := v }
    · exact (rdr_Z hw.lo).map fun v => { x with lo := v }
    · exact (rdr_Z hw.hi).map fun v => { x with hi := v }
    · exact (rdr_Lim (by omega) hn2.2).map fun v => { x with n := v }
    · exact rdr_Bool.map fun v => { x with flag := v }
    · have h1 := (rdr_eBytes (bs := bs) (l := sb y.name) (rdr_Lim (lim := 32) (by rw [sb_len]; omega) (by rw [sb_len]; omega))).map fun v => { x with name := mkS v }
      rw [mkS_sb] at h1
      exact h1
    · exact (rdr_eBytes (l := y.bytes) (rdr_Lim (lim := 65536) (by omega) (by omega))).map fun v => { x with bytes := v }
    · exact (rdr_eEnts hw.ents (rdr_Lim (lim := 1000) (by omega) (by omega))).map fun v => { x with ents := v }
    · exact (rdr_eChs hw.chs hk (rdr_Lim (lim := 1000) (by omega) (by omega))).map fun v => { x with chs := v }
  · rw [eField_no hf, setF_no hf]
    exact (Rdr.ret x).congr fun p => rField_no hf
theorem rdr_fields {y : OpM} (hw : OpW y) (hl : OpL y) (hk : ∀ c ∈ y.chs, 0 ≤ c.1 ∧ c.1 ≤ 255) : ∀ (l : List Int) (x : OpM), Rdr bs (fun p => rFields bs l x p 0) (l.flatMap fun f => eField f y) (setFs l y x)
  | [], x => Rdr.ret x
  | f :: l, x => by
    rw [List.flatMap_cons]
    exact Rdr.bind (R2 := fun v p e => rFields bs l v p e) (rdr_field hw hl hk) (rdr_fields hw hl hk l _) (fun _ _ _ he => rFields_s he)
theorem rdr_op {y : OpM} (hw : OpW y) (h : okOp y) : Rdr bs (fun p => rOp bs p) (eOp y) y := by
  obtain ⟨h1, hl, hk, hz⟩ := h
  have hc : 1 ≤ y.code ∧ y.code ≤ 35 := of_decide_eq_true h1
  have h2 := rdr_fields (bs := bs) hw hl hk (fs y.code) (op0 y.code)
  have h3 := Rdr.bind (R1 := fun p => rB bs p 0) (R2 := fun c p e => rFields bs (fs c) (op0 c) p (if isOp c then e else fl e 13)) (rdr_B (bs := bs) (c := y.code)) (by simpa [h1] using h2) (fun v p e he => by
    by_cases hv : isOp v = true
    · rw [if_pos hv]; exact rFields_s he
    · rw [if_neg hv, fl_ne he]; exact rFields_s he)
  rw [eOp, show y.code % 256 = y.code by omega]
  have h4 : setFs (fs y.code) y (op0 y.code) = y := ((only_iff y).2 hz).symm
  rw [h4] at h3
  intro p hp
  have h5 := h3 p hp
  simp only [List.singleton_append] at h5
  refine ⟨fun k => ?_, fun k hk2 => ?_⟩
  · have := h5.1 k
    simp only [rOp, this]; simp
  · have := h5.2 k hk2
    simp only [rOp, this]; simp
theorem nx_f {y : OpM} (hw : OpW y) (h : okOp y) {p : Nat} (hp : p ≤ bs.length) (hpre : eOp y <+: bs.drop p) : rNx bs (p : Int) = (y, ((p + (eOp y).length : Nat) : Int), 0) := by
  have := (rdr_op (bs := bs) hw h p hp).1 hpre
  simp only at this
  rw [rNx_at hp, this]
theorem rOp_0 {p : Nat} (h : (rOp bs p).2.2 ≠ 0) : (rOp bs p).2.1 = 0 := by
  unfold rOp at h ⊢
  simp only at h ⊢
  generalize rFields _ _ _ _ _ = Y at h ⊢
  by_cases h0 : Y.2.2 = 0
  · rw [if_neg (by simp [h0])] at h; exact absurd h0 h
  · rw [if_pos h0]
theorem nx_t {y : OpM} (hw : OpW y) (h : okOp y) {p : Nat} (hp : p ≤ bs.length) (hpre : bs.drop p <+: eOp y) (hl : bs.length - p < (eOp y).length) : (rNx bs (p : Int)).2 = (0, 12) := by
  have := (rdr_op (bs := bs) hw h p hp).2 hpre hl
  simp only at this
  have h2 := rOp_0 (bs := bs) (p := p) (by rw [this]; decide)
  rw [rNx_at hp, this, h2]; rfl
theorem rdr_an {y : AnM} (hw : AnT y) (he : 0 ≤ y.err ∧ y.err ≤ 255) (hk : ∀ c ∈ y.chs, 0 ≤ c.1 ∧ c.1 ≤ 255) (h4 : y.ents.length ≤ 1000000) (h5 : y.chs.length ≤ 1000000) (h6 : y.keys.length ≤ 1000000) (h7 : y.bytes.length ≤ 1000000) {p : Nat} (hp : p ≤ bs.length) (h : eAn y <+: bs.drop p) : rAns bs p = (y, p + (eAn y).length, 0) := by
  unfold eAn at h ⊢
  rw [show y.err % 18446744073709551616 = y.err by omega] at h ⊢
  simp only [List.append_assoc] at h
  have stp : ∀ {l m : List Int} {q : Nat}, l ++ m <+: bs.drop q → l <+: bs.drop q ∧ m <+: bs.drop (q + l.length) := fun k => by
    have := pre_split k; rwa [List.drop_drop] at this
  have lele : ∀ {l : List Int} {q : Nat}, l <+: bs.drop q → q ≤ bs.length → q + l.length ≤ bs.length := fun k hq => by
    have := k.length_le; rw [List.length_drop] at this; omega
  obtain ⟨a1, h⟩ := stp h; have p1 := lele a1 hp; have r1 := (rdr_Lim (lim := 255) (by omega) he.2 _ hp).1 a1
  obtain ⟨a2, h⟩ := stp h; have p2 := lele a2 p1; have r2 := (rdr_U hw.handle _ p1).1 a2
  obtain ⟨a3, h⟩ := stp h; have p3 := lele a3 p2; have r3 := (rdr_Z hw.value _ p2).1 a3
  obtain ⟨a4, h⟩ := stp h; have p4 := lele a4 p3; have r4 := (rdr_Bool _ p3).1 a4
  obtain ⟨a5, h⟩ := stp h; have p5 := lele a5 p4; have r5 := (rdr_Z hw.n _ p4).1 a5
  obtain ⟨a6, h⟩ := stp h; have p6 := lele a6 p5; have r6 := (rdr_Z hw.ekey _ p5).1 a6
  obtain ⟨a7, h⟩ := stp h; have p7 := lele a7 p6; have r7 := (rdr_Z hw.eval _ p6).1 a7
  obtain ⟨a8, h⟩ := stp h; have p8 := lele a8 p7; have r8 := (rdr_Z hw.count _ p7).1 a8
  obtain ⟨a9, h⟩ := stp h; have p9 := lele a9 p8; have r9 := (rdr_Z hw.sum _ p8).1 a9
  obtain ⟨a10, h⟩ := stp h; have p10 := lele a10 p9; have r10 := (rdr_Z hw.mn _ p9).1 a10
  obtain ⟨a11, h⟩ := stp h; have p11 := lele a11 p10; have r11 := (rdr_Z hw.mx _ p10).1 a11
  obtain ⟨a13, h⟩ := stp h; have p13 := lele a13 p11; have r13 := (rdr_eEnts hw.ents (rdr_U (by omega)) _ p11).1 a13
  obtain ⟨a15, h⟩ := stp h; have p15 := lele a15 p13; have r15 := (rdr_eChs hw.chs hk (rdr_U (by omega)) _ p13).1 a15
  rw [← List.append_assoc (eU _)] at h
  obtain ⟨a17, a19⟩ := stp h; have p17 := lele a17 p15; have r17 := (rdr_eInts hw.keys (rdr_U (by omega)) _ p15).1 a17
  have r19 := (rdr_lBytes (rdr_U (by omega)) _ p17).1 a19
  simp only at r1 r2 r3 r4 r5 r6 r7 r8 r9 r10 r11 r13 r15 r17 r19
  simp only [rAns, r1, an1, r2, an2, r3, an3, r4, an4, r5, an5, r6, an6, r7, an7, r8, an8, r9, an9, r10, an10, r11, an11, an12, rCnt, r13, an13, an14, r15, an15, an16, r17, an17, an18, r19, an19]
  simp only [List.length_append, Prod.mk.injEq, and_true, true_and]
  omega
theorem nxa_f {y : AnM} (hw : AnT y) (he : 0 ≤ y.err ∧ y.err ≤ 255) (hk : ∀ c ∈ y.chs, 0 ≤ c.1 ∧ c.1 ≤ 255) (hb : ¬ bigAn y) {p : Nat} (hp : p ≤ bs.length) (h : eAn y <+: bs.drop p) : rNxa bs (p : Int) = (y, ((p + (eAn y).length : Nat) : Int), 0) := by
  unfold bigAn at hb
  have := rdr_an hw he hk (by omega) (by omega) (by omega) (by omega) hp h
  rw [rNxa, if_neg (by omega), Int.toNat_natCast, this]; rfl
end
end Go.V
