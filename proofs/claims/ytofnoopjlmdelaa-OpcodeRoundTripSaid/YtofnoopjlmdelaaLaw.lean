/-
  Plain laws: what the reader gives lies in its kinds and limits; sizes of encodings.
  Conditions: the bytes are bytes.
-/
import Derived.Test.YtofnoopjlmdelaaSim
import Derived.Test.YtofnoopjlmdelaaVdm
namespace Go.V
open Go

section
variable {bs : List Int} {p : Nat} {e : Int}
theorem I64_b {n : Int} (h : 0 ≤ n ∧ n ≤ 255) : I64 n := by unfold I64; omega
theorem rZ_64 (hb : B8 bs) : I64 (rZ bs p e).1 := rZ_b hb
theorem rEnts_64 (hb : B8 bs) : ∀ (n p : Nat) (e : Int), En64 (rEnts bs n p e).1
  | 0, _, _ => fun _ h => by cases h
  | n + 1, p, e => by
    unfold rEnts
    split
    · exact fun _ h => by cases h
    · intro x hx
      rcases List.mem_cons.1 hx with rfl | hx
      · exact ⟨rZ_64 hb, rZ_64 hb⟩
      · exact rEnts_64 hb n _ _ x hx
/-- changes whose kinds are bytes -/
def Ch8 (l : List (Int × Int × Int × Int)) : Prop := ∀ c ∈ l, 0 ≤ c.1 ∧ c.1 ≤ 255
theorem rChs_64 (hb : B8 bs) : ∀ (n p : Nat) (e : Int), Ch64 (rChs bs n p e).1 ∧ Ch8 (rChs bs n p e).1
  | 0, _, _ => ⟨fun _ h => (by cases h), fun _ h => (by cases h)⟩
  | n + 1, p, e => by
    unfold rChs
    split
    · exact ⟨fun _ h => (by cases h), fun _ h => (by cases h)⟩
    · have ih := fun p e => rChs_64 hb n p e
      refine ⟨fun x hx => ?_, fun x hx => ?_⟩
      · rcases List.mem_cons.1 hx with rfl | hx
        · exact ⟨I64_b (rB_b hb), rZ_64 hb, rZ_64 hb, rZ_64 hb⟩
        · exact (ih _ _).1 x hx
      · rcases List.mem_cons.1 hx with rfl | hx
        · exact rB_b hb
        · exact (ih _ _).2 x hx
theorem rInts_64 (hb : B8 bs) : ∀ (n p : Nat) (e : Int), I64s (rInts bs n p e).1
  | 0, _, _ => fun _ h => by cases h
  | n + 1, p, e => by
    unfold rInts
    split
    · exact fun _ h => by cases h
    · intro x hx
      rcases List.mem_cons.1 hx with rfl | hx
      · exact rZ_64 hb
      · exact rInts_64 hb n _ _ x hx
theorem rBytes_n {n : Nat} : (rBytes bs n p e).1.length ≤ n := by
  unfold rBytes
  split
  · exact Nat.zero_le _
  · split
    · exact Nat.zero_le _
    · simp only [List.length_take]; omega
theorem rEl_lim {lim : Int} (hb : B8 bs) (hl : 0 ≤ lim) : 0 ≤ (rEl bs lim p e).1 ∧ (rEl bs lim p e).1 ≤ lim := by
  have h := rLim_b (bs := bs) (p := p) (e := e) hb hl
  unfold rEl rLeft
  split
  · exact ⟨Int.le_refl _, hl⟩
  · exact h
/-- an operation as the reader gives it -/
structure OpR (x : OpM) : Prop where
  t : OpT x
  l : OpL x
  k : Ch8 x.chs
theorem op0_R {c : Int} (h : I64 c) : OpR (op0 c) := ⟨op0_T h, ⟨by simp [op0], Nat.zero_le _, by simp [op0], by simp [op0], by simp [op0]⟩, fun _ h => by cases h⟩
theorem rField_R (hb : B8 bs) (hp : p ≤ bs.length) {f : Int} {x : OpM} (h : OpR x) : OpR (rField bs f x p e).1 := by
  by_cases hf : Ltr f
  · obtain ⟨⟨⟨b1, b2, b3, b4, b5, b6, b7, b8⟩, b9, b10, b11⟩, ⟨c1, c2, c3, c4, c5⟩, d1⟩ := h
    unfold Ltr at hf
    rcases hf with rfl | rfl | rfl | rfl | rfl | rfl | rfl | rfl | rfl | rfl | rfl | rfl
    · rw [rField_A]; exact ⟨⟨⟨rU_b hb, b2, b3, b4, b5, b6, b7, b8⟩, b9, b10, b11⟩, ⟨c1, c2, c3, c4, c5⟩, d1⟩
    · rw [rField_B]; exact ⟨⟨⟨b1, rU_b hb, b3, b4, b5, b6, b7, b8⟩, b9, b10, b11⟩, ⟨c1, c2, c3, c4, c5⟩, d1⟩
    · rw [rField_K]; exact ⟨⟨⟨b1, b2, rZ_64 hb, b4, b5, b6, b7, b8⟩, b9, b10, b11⟩, ⟨c1, c2, c3, c4, c5⟩, d1⟩
    · rw [rField_V]; exact ⟨⟨⟨b1, b2, b3, rZ_64 hb, b5, b6, b7, b8⟩, b9, b10, b11⟩, ⟨c1, c2, c3, c4, c5⟩, d1⟩
    · rw [rField_L]; exact ⟨⟨⟨b1, b2, b3, b4, rZ_64 hb, b6, b7, b8⟩, b9, b10, b11⟩, ⟨c1, c2, c3, c4, c5⟩, d1⟩
    · rw [rField_H]; exact ⟨⟨⟨b1, b2, b3, b4, b5, rZ_64 hb, b7, b8⟩, b9, b10, b11⟩, ⟨c1, c2, c3, c4, c5⟩, d1⟩
    · rw [rField_N]
      have hn := rLim_b (bs := bs) (p := p) (e := e) (lim := 2147483647) hb (by decide)
      exact ⟨⟨⟨b1, b2, b3, b4, b5, b6, b7, b8⟩, b9, by unfold I64; simp only; omega, b11⟩, ⟨hn, c2, c3, c4, c5⟩, d1⟩
    · rw [rField_F]; exact ⟨⟨⟨b1, b2, b3, b4, b5, b6, b7, b8⟩, b9, b10, b11⟩, ⟨c1, c2, c3, c4, c5⟩, d1⟩
    · rw [rField_S]
      have hn := rLim_b (bs := bs) (p := p) (e := e) (lim := 32) hb (by decide)
      refine ⟨⟨⟨b1, b2, b3, b4, b5, b6, b7, b8⟩, b9, b10, b11⟩, ⟨c1, ?_, c3, c4, c5⟩, d1⟩
      simp only [mkS_size]
      have := rBytes_n (bs := bs) (p := (rLim bs 32 p e).2.1) (e := (rLim bs 32 p e).2.2) (n := (rLim bs 32 p e).1.toNat)
      omega
    · rw [rField_Y]
      have hn := rLim_b (bs := bs) (p := p) (e := e) (lim := 65536) hb (by decide)
      refine ⟨⟨⟨b1, b2, b3, b4, b5, b6, b7, b8⟩, b9, b10, rBytes_B8 hb⟩, ⟨c1, c2, ?_, c4, c5⟩, d1⟩
      have := rBytes_n (bs := bs) (p := (rLim bs 65536 p e).2.1) (e := (rLim bs 65536 p e).2.2) (n := (rLim bs 65536 p e).1.toNat)
      simp only; omega
    · rw [rField_E]
      have hn := rEl_lim (bs := bs) (p := p) (e := e) (lim := 1000) hb (by decide)
      refine ⟨⟨⟨b1, b2, b3, b4, b5, b6, rEnts_64 hb _ _ _, b8⟩, b9, b10, b11⟩, ⟨c1, c2, c3, ?_, c5⟩, d1⟩
      have := (rEnts_p (bs := bs) (rEl bs 1000 p e).1.toNat (rEl bs 1000 p e).2.1 (rEl bs 1000 p e).2.2 (rEl_le hp)).2
      simp only; omega
    · rw [rField_C]
      have hn := rEl_lim (bs := bs) (p := p) (e := e) (lim := 1000) hb (by decide)
      have h8 := rChs_64 hb (rEl bs 1000 p e).1.toNat (rEl bs 1000 p e).2.1 (rEl bs 1000 p e).2.2
      refine ⟨⟨⟨b1, b2, b3, b4, b5, b6, b7, h8.1⟩, b9, b10, b11⟩, ⟨c1, c2, c3, c4, ?_⟩, h8.2⟩
      have := (rChs_p (bs := bs) (rEl bs 1000 p e).1.toNat (rEl bs 1000 p e).2.1 (rEl bs 1000 p e).2.2 (rEl_le hp)).2
      simp only; omega
  · rw [rField_no hf]; exact h
theorem rFields_R (hb : B8 bs) : ∀ (l : List Int) (x : OpM) (p : Nat) (e : Int), p ≤ bs.length → OpR x → OpR (rFields bs l x p e).1
  | [], _, _, _, _, h => h
  | _ :: l, _, _, _, hp, h => rFields_R hb l _ _ _ (rField_le hp) (rField_R hb hp h)
theorem rOp_R (hb : B8 bs) (hp : p ≤ bs.length) : OpR (rOp bs p).1 := by
  have key := rFields_R hb (fs (rB bs p 0).1) (op0 (rB bs p 0).1) (rB bs p 0).2.1 (if isOp (rB bs p 0).1 then (rB bs p 0).2.2 else fl (rB bs p 0).2.2 13) (rB_p hp).2 (op0_R (I64_b (rB_b hb)))
  unfold rOp
  simp only
  generalize (rFields bs (fs (rB bs p 0).1) (op0 (rB bs p 0).1) (rB bs p 0).2.1 (if isOp (rB bs p 0).1 then (rB bs p 0).2.2 else fl (rB bs p 0).2.2 13)) = R at key ⊢
  split
  · exact op0_R (c := 0) (by unfold I64; omega)
  · exact key
theorem rNx_R (hb : B8 bs) (at_ : Int) : OpR (rNx bs at_).1 := by
  unfold rNx
  split
  · exact op0_R (c := 0) (by unfold I64; omega)
  · exact rOp_R hb (by omega)
end

/-! ### sizes -/
theorem tidy_L {x : OpM} (hs : smallOp x) : OpL (tidy x) := by
  have h1 := only_small (x := tidy0 x)
  have h2 : (tidy0 x).ents = x.ents := rfl
  have h3 : (tidy0 x).chs.length = x.chs.length := by simp [tidy0, kind256]
  have h4 : (tidy0 x).bytes = x.bytes := rfl
  have h5 : (tidy x).name.size ≤ 32 := by
    unfold tidy only; rw [setFs_S]
    split
    · show (mkS ((sb x.name).take (min x.name.size 32))).size ≤ 32
      rw [mkS_size, List.length_take]; omega
    · exact Nat.zero_le _
  have h6 : 0 ≤ (tidy x).n ∧ (tidy x).n ≤ 2147483647 := by
    unfold tidy only; rw [setFs_N]
    split
    · show 0 ≤ x.n % 2147483648 ∧ x.n % 2147483648 ≤ 2147483647; omega
    · simp [op0]
  unfold smallOp at hs
  rw [h2, h3, h4] at h1
  exact ⟨h6, h5, by unfold tidy; omega, by unfold tidy; omega, by unfold tidy; omega⟩
theorem tidy_small {x : OpM} (hs : smallOp x) : (tidy x).bytes.length ≤ 300 ∧ fewOp (tidy x) := by
  have h1 := only_small (x := tidy0 x)
  have h4 : (tidy0 x).bytes = x.bytes := rfl
  rw [h4] at h1
  exact ⟨by unfold smallOp at hs; unfold tidy; omega, tidy_few hs⟩
theorem eField_small {f : Int} {x : OpM} (h : OpW x) (k : OpL x) (hf : fewOp x) (hb : x.bytes.length ≤ 300) : (eField f x).length ≤ 3200 := by
  have c := k.n; have d := k.name; unfold fewOp at hf
  by_cases hfl : Ltr f
  · unfold Ltr at hfl
    rcases hfl with rfl | rfl | rfl | rfl | rfl | rfl | rfl | rfl | rfl | rfl | rfl | rfl
    · rw [eField_A]; have := eU_len h.a.2; omega
    · rw [eField_B]; have := eU_len h.b.2; omega
    · rw [eField_K]; have := eZ_len h.key; omega
    · rw [eField_V]; have := eZ_len h.val; omega
    · rw [eField_L]; have := eZ_len h.lo; omega
    · rw [eField_H]; have := eZ_len h.hi; omega
    · rw [eField_N]; have := eU_len (u := x.n) (by omega); omega
    · rw [eField_F]; simp [eF]
    · rw [eField_S]; have := eBytes_len (l := sb x.name) (by rw [sb_len]; omega); rw [sb_len] at this; omega
    · rw [eField_Y]; have := eBytes_len (l := x.bytes) (by omega); omega
    · rw [eField_E]; have := eEnts_len h.ents (by omega); omega
    · rw [eField_C]; have := eChs_len h.chs (by omega); omega
  · rw [eField_no hfl]; simp
theorem tidy_len {x : OpM} (h : OpT x) (hs : smallOp x) : 1 ≤ (eOp (tidy x)).length ∧ (eOp (tidy x)).length ≤ 20000 := by
  have h1 := fm_len (f := fun f => eField f (tidy x)) (m := 3200) (l := fs (tidy x).code) (fun f _ => eField_small (tidy_T h).w (tidy_L hs) (tidy_small hs).2 (tidy_small hs).1)
  have h2 := fs_len (tidy x).code
  rw [eOp, List.length_cons]
  omega
/-! ### bytes -/
theorem B8.app {l m : List Int} (h : B8 l) (k : B8 m) : B8 (l ++ m) := fun x hx => by
  rcases List.mem_append.1 hx with hx | hx
  · exact h x hx
  · exact k x hx
theorem B8.take {l : List Int} {k : Nat} (h : B8 l) : B8 (l.take k) := fun x hx => h x (List.mem_of_mem_take hx)
theorem B8.drop {l : List Int} {k : Nat} (h : B8 l) : B8 (l.drop k) := fun x hx => h x (List.mem_of_mem_drop hx)
theorem B8.one {c : Int} (h : 0 ≤ c ∧ c ≤ 255) : B8 [c] := fun x hx => by simp at hx; subst hx; exact h
theorem B8.nil : B8 [] := fun _ h => by cases h
theorem B8.cons {c : Int} {l : List Int} (h : 0 ≤ c ∧ c ≤ 255) (k : B8 l) : B8 (c :: l) := fun x hx => by
  rcases List.mem_cons.1 hx with rfl | hx
  · exact h
  · exact k x hx
theorem fm_B8 {α : Type} {f : α → List Int} {l : List α} (h : ∀ x ∈ l, B8 (f x)) : B8 (l.flatMap f) := fun x hx => by
  obtain ⟨y, hy, hx⟩ := List.mem_flatMap.1 hx
  exact h y hy x hx
theorem eU_B8 (u : Int) : B8 (eU u) := varint_B8 _
theorem eZ_B8 (n : Int) : B8 (eZ n) := varint_B8 _
theorem eBytes_B8 {l : List Int} (h : B8 l) : B8 (eBytes l) := (eU_B8 _).app h
theorem eEnts_B8 (l : List (Int × Int)) : B8 (eEnts l) := (eU_B8 _).app (fm_B8 fun _ _ => (eZ_B8 _).app (eZ_B8 _))
theorem mod_B8 (c : Int) : 0 ≤ c % 256 ∧ c % 256 ≤ 255 := by omega
theorem eChs_B8 (l : List (Int × Int × Int × Int)) : B8 (eChs l) := (eU_B8 _).app (fm_B8 fun _ _ => B8.cons (mod_B8 _) (((eZ_B8 _).app (eZ_B8 _)).app (eZ_B8 _)))
theorem eF_B8 (b : Bool) : B8 (eF b) := by cases b <;> exact B8.one (by decide)
theorem eField_B8 {f : Int} {x : OpM} (h : B8 x.bytes) : B8 (eField f x) := by
  by_cases hfl : Ltr f
  · unfold Ltr at hfl
    rcases hfl with rfl | rfl | rfl | rfl | rfl | rfl | rfl | rfl | rfl | rfl | rfl | rfl
    · exact eU_B8 _
    · exact eU_B8 _
    · exact eZ_B8 _
    · exact eZ_B8 _
    · exact eZ_B8 _
    · exact eZ_B8 _
    · exact eU_B8 _
    · exact eF_B8 _
    · exact eBytes_B8 (sb_B8 _)
    · exact eBytes_B8 h
    · exact eEnts_B8 _
    · exact eChs_B8 _
  · rw [eField_no hfl]; exact B8.nil
theorem eOp_B8 {x : OpM} (h : B8 x.bytes) : B8 (eOp x) := B8.cons (mod_B8 _) (fm_B8 fun _ _ => eField_B8 h)
end Go.V
