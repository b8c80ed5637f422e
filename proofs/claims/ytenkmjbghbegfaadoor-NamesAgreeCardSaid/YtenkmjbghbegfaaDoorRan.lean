/-
  The reference's table of names, in step with the program's: Get, Log, Set of any name.
  Conditions: they are in step.
-/
import Derived.Test.YtenkmjbghbegfaaDoorRst
namespace Go.Proofs.YtenkmjbghbegfaaDoor
open Go Go.V

theorem rget_any {g w : World} {L : List HP} (T : List Row3) (R : List RW) (s : ByteArray) (a : Option Addr) (c : Nat) (hk : Kp T R) (hT : TG T) (hS : St g (Sh 72 3 (enR R) a c :: L) w) :
    Sp Tryd.prog 16 [.agg #[.slice a (List.length (enR R)) c], .string s] w (fun v w' => v = .tuple #[.int .u64 (getH T s), .bool (getB T s)] ∧ St g (Sh 72 3 (enR R) a c :: L) w') := by
  have hl : R.length ≤ 1000000 := by rw [hk.len]; exact Nat.le_trans hT.num (by decide)
  rcases rw_cases R s with ⟨i, r, hr, hn⟩ | hn
  · obtain ⟨h1, h2, _⟩ := hk.get hr hn
    rw [h1, h2]
    exact rget_in R s a c i r hl hr hn hk.uq hS
  · obtain ⟨h1, h2, _⟩ := getH_none (hk.out hn)
    rw [h1, h2]
    exact rget_out R s a c hl hn hS
theorem rlog_any {g w : World} {L : List HP} (T : List Row3) (R : List RW) (s : ByteArray) (a : Option Addr) (c : Nat) (hk : Kp T R) (hT : TG T) (hS : St g (Sh 72 3 (enR R) a c :: Shs rwF R :: L) w) :
    Sp Tryd.prog 19 [.agg #[.slice a (List.length (enR R)) c], .string s] w (fun v w' => ∃ (a2 : Option Addr) (c2 : Nat), v = .slice a2 (List.length (u64s (logM T s))) c2 ∧ St g (Own 31 1 (u64s (logM T s)) a2 c2 :: Sh 72 3 (enR R) a c :: Shs rwF R :: L) w') := by
  have hl : R.length ≤ 1000000 := by rw [hk.len]; exact Nat.le_trans hT.num (by decide)
  rcases rw_cases R s with ⟨i, r, hr, hn⟩ | hn
  · obtain ⟨_, _, h3⟩ := hk.get hr hn
    rw [h3]
    have hg := hT.lgs _ (hk.mem hr)
    exact rlog_in R s a c i r hl hr hn hk.uq (by simp only [rT, List.length_reverse] at hg; omega) hS
  · obtain ⟨_, _, h3⟩ := getH_none (hk.out hn)
    rw [h3]
    refine (rlog_out R s a c hl hn hS).mono fun v w' ⟨hv, hS'⟩ => ⟨none, 0, hv, ?_⟩
    exact hS'.nil_ _ _
theorem rset_any {g w : World} {L : List HP} (T : List Row3) (R : List RW) (s : ByteArray) (x y : Int) (a : Option Addr) (c : Nat) (hk : Kp T R) (hT : TG T) (hS : St g (Sh 72 3 (enR R) a c :: Shs rwF R :: L) w) :
    Sp Tryd.prog 17 [.agg #[.slice a (List.length (enR R)) c], .string s, .int .u64 x, .int .u64 y] w (fun v w' => ∃ (R2 : List RW) (a2 : Option Addr) (c2 : Nat), v = .tuple #[.agg #[.slice a2 (List.length (enR R2)) c2], .int .i64 (setM T s x y).1] ∧ St g (Sh 72 3 (enR R2) a2 c2 :: Shs rwF R2 :: L) w' ∧ (Kp (setM T s x y).2 R2)) := by
  have hl : R.length ≤ 256 := by rw [hk.len]; exact hT.num
  by_cases hb : okName (sb s) ∧ ¬ (x = 0 ∧ y = 0)
  · have hv : okRef (sb s) := (ok_ref _).2 hb.1
    rcases rw_cases R s with ⟨i, r, hr, hn⟩ | hn
    · obtain ⟨h1, h2, _⟩ := hk.get hr hn
      by_cases hh : r.h = x
      · have h0 : x ≠ 0 := hh ▸ hT.nz _ (hk.mem hr)
        have he : setM T s x y = (0, if y = 0 then remM T s else chgM T s x y) := by
          unfold setM
          rw [if_neg (fun h => h hb), h1, if_neg (fun h => h hh), h2, if_pos rfl]
        rw [he]
        have hg := hT.lgs _ (hk.mem hr)
        simp only [rT, List.length_reverse] at hg
        refine (rset_in R s x y a c i r (by omega) hv h0 hr hn hk.uq hh hg hS).mono fun v w' ⟨a2, c2, X, hv, hS', hX⟩ => ⟨_, a2, c2, hv, hS', ?_⟩
        by_cases hy : y = 0
        · subst hy
          rw [if_pos rfl, decide_eq_true rfl, rins_t]
          exact hk.rem s
        · rw [if_neg hy, decide_eq_false hy, rins_f]
          refine hk.chg hr hn ?_
          obtain ⟨h7, h8⟩ := Prod.mk.inj hX
          obtain ⟨h9, h10⟩ := Prod.mk.inj h8
          unfold rT
          rw [h7, h9, h10, lgn_take hg]
      · have he : setM T s x y = (11, T) := by
          unfold setM
          rw [if_neg (fun h => h hb), h1, if_pos hh]
        rw [he]
        exact (rset_staleI R s x y a c i r (by omega) hv hb.2 hr hn hk.uq hh hS).mono fun v w' ⟨hv, hS'⟩ => ⟨_, _, _, hv, hS', hk⟩
    · obtain ⟨h1, h2, _⟩ := getH_none (hk.out hn)
      by_cases hx : x = 0
      · subst hx
        have hy : y ≠ 0 := fun h => hb.2 ⟨rfl, h⟩
        by_cases hl2 : R.length = 256
        · have he : setM T s 0 y = (2, T) := set_fll hb.1 hy (hk.out hn) (by rw [← hk.len]; exact hl2)
          rw [he]
          exact (rset_full R s y a c hl2 hv hy hn hS).mono fun v w' ⟨hv, hS'⟩ => ⟨_, _, _, hv, hS', hk⟩
        · have he : setM T s 0 y = (0, T ++ [(s, y, [])]) := set_new hb.1 hy (hk.out hn) (by rw [← hk.len]; exact hl2)
          rw [he]
          refine (rset_out R s y a c (by omega) ⟨hl2, by omega⟩ hv hy hn hS).mono fun v w' ⟨a2, c2, hv, hS'⟩ => ⟨_, a2, c2, hv, hS', ?_⟩
          rw [decide_eq_false hy, rins_f]
          exact hk.add rfl hn
      · have he : setM T s x y = (11, T) := by
          unfold setM
          rw [if_neg (fun h => h hb), h1, if_pos (fun h => hx h.symm)]
        rw [he]
        exact (rset_staleO R s x y a c (by omega) hv hx hn hS).mono fun v w' ⟨hv, hS'⟩ => ⟨_, _, _, hv, hS', hk⟩
  · have he : setM T s x y = (1, T) := by
      unfold setM
      rw [if_pos hb]
    rw [he]
    exact (rset_bad R s x y a c (fun h => hb ⟨(ok_ref _).1 h.1, h.2⟩) hS).mono fun v w' ⟨hv, hS'⟩ => ⟨_, _, _, hv, hS', hk⟩
end Go.Proofs.YtenkmjbghbegfaaDoor
