/-
  Which names are valid: the reference's answer.
  Conditions: none beyond the arguments' form.
-/
import Derived.Test.YtenkmjbghbegfaaDoorTypes
import Derived.Test.YtenkmjbghbegfaaDoorVnr
namespace Go.Proofs.YtenkmjbghbegfaaDoor
open Go Go.V

theorem letter_spec {g w : World} {L : List HP} (b : Int) (hb : 0 ≤ b ∧ b ≤ 255) (hS : St g (L) w) :
    Sp Tryd.prog 28 [.int .u8 b] w (fun v w' => v = .bool (decide (ini b)) ∧ St g (L) w') := by
  refine Sp.enter Tryd.func28 rfl (by kernel_rfl) (by kernel_rfl) ?_
  have _ := hb
  refine WC.seq ?_
  refine WC.region ?_
  refine WL.r 1 rfl ?_
  refine WL.nil ?_
  refine WC.seq ?_
  refine WC.region ?_
  refine WL.r 2 rfl ?_
  refine WL.rG 13 rfl (fun j => ?_)
  refine WL.prop 16 rfl (bor (band (dd _) (dd _)) (band (dd _) (dd _))) ?_
  refine WL.nil ?_
  refine WC.ret ?_
  refine ⟨[.bool (bif (bif (decide (97 ≤ b)) then (decide (b ≤ 122)) else false) then true else (bif (decide (48 ≤ b)) then (decide (b ≤ 57)) else false))], rfl, ?_⟩
  refine ⟨congrArg Value.bool ?_, hS⟩
  by_cases a1 : 97 ≤ b <;> by_cases a2 : b ≤ 122 <;> by_cases a3 : 48 ≤ b <;> by_cases a4 : b ≤ 57 <;> simp [ini, a1, a2, a3, a4]
theorem inside_spec {g w : World} {L : List HP} (b : Int) (hb : 0 ≤ b ∧ b ≤ 255) (hS : St g (L) w) :
    Sp Tryd.prog 29 [.int .u8 b] w (fun v w' => v = .bool (decide (ins b)) ∧ St g (L) w') := by
  refine Sp.enter Tryd.func29 rfl (by kernel_rfl) (by kernel_rfl) ?_
  have _ := hb
  refine WC.seq ?_
  refine WC.region ?_
  refine WL.r 1 rfl ?_
  refine WL.nil ?_
  refine WC.seq ?_
  refine WC.region ?_
  refine WL.r 1 rfl ?_
  refine WL.call rfl rfl (letter_spec (b := b) (hb := (by omega)) (hS := hS)) rfl ?_
  clear hS; rintro _ w ⟨rfl, hS⟩
  replace hS : St g (L) w := hS
  refine WL.rG 13 rfl (fun j => ?_)
  refine WL.prop 16 rfl (bor (bor (bor (dd _) (dd _)) (dd _)) (dd _)) ?_
  refine WL.nil ?_
  refine WC.ret ?_
  refine ⟨[.bool (bif (bif (bif (decide (ini b)) then true else (decide (b = 45))) then true else (decide (b = 95))) then true else (decide (b = 46)))], rfl, ?_⟩
  refine ⟨congrArg Value.bool ?_, hS⟩
  by_cases a1 : ini b <;> by_cases a2 : b = 45 <;> by_cases a3 : b = 95 <;> by_cases a4 : b = 46 <;> simp [ins, a1, a2, a3, a4]
set_option maxHeartbeats 1000000 in
set_option maxRecDepth 8192 in
theorem rvalidName_spec {g w : World} {L : List HP} (s : ByteArray) (hS : St g (L) w) :
    Sp Tryd.prog 10 [.string s] w (fun v w' => v = .bool (decide (okRef (sb s))) ∧ St g (L) w') := by
  refine Sp.enter Tryd.func10 rfl (by kernel_rfl) (by kernel_rfl) ?_
  refine WC.seq ?_
  refine WC.region ?_
  refine WL.r 1 rfl ?_
  refine WL.nil ?_
  refine WC.seq ?_
  refine WC.seq ?_
  refine WC.region ?_
  have hsl := sb_len s
  refine WL.r 4 rfl ?_
  by_cases cg1 : (ByteArray.size s : Int) < 1
  · refine WL.reb 8 (.bool true) (congrArg Value.bool (decide_eq_true cg1)) ?_
    refine WL.skp rfl rfl rfl rfl ?_
    refine WL.skp rfl rfl rfl rfl ?_
    refine WL.skp rfl rfl rfl rfl ?_
    refine WL.r 2 rfl ?_
    refine WL.skp rfl rfl rfl rfl ?_
    refine WL.skp rfl rfl rfl rfl ?_
    refine WL.skp rfl rfl rfl rfl ?_
    refine WL.skp rfl rfl rfl rfl ?_
    refine WL.skp rfl rfl rfl rfl ?_
    refine WL.skp rfl rfl rfl rfl ?_
    refine WL.r 1 rfl ?_
    refine WL.nil ?_
    refine WC.ifT rfl rfl ?_
    refine WC.seq ?_
    refine WC.region ?_
    refine WL.r 1 rfl ?_
    refine WL.nil ?_
    as_aux_lemma =>
      refine WC.ret ?_
      refine ⟨[.bool false], rfl, ?_⟩
      exact ⟨congrArg Value.bool (decide_eq_false (fun h => by have h1 := h.1; have h2 := h.2.1; rw [hsl] at h2; omega)).symm, hS⟩
  · refine WL.reb 8 (.bool false) (congrArg Value.bool (decide_eq_false cg1)) ?_
    refine WL.ung rfl rfl rfl ?_
    refine WL.r 1 rfl ?_
    refine WL.ung rfl rfl rfl ?_
    refine WL.r 1 rfl ?_
    refine WL.ung rfl rfl rfl ?_
    refine WL.r 3 rfl ?_
    by_cases cg2 : 32 < (ByteArray.size s : Int)
    · refine WL.reb 13 (.bool true) (congrArg Value.bool (decide_eq_true cg2)) ?_
      refine WL.skp rfl rfl rfl rfl ?_
      refine WL.skp rfl rfl rfl rfl ?_
      refine WL.skp rfl rfl rfl rfl ?_
      refine WL.skp rfl rfl rfl rfl ?_
      refine WL.skp rfl rfl rfl rfl ?_
      refine WL.skp rfl rfl rfl rfl ?_
      refine WL.r 1 rfl ?_
      refine WL.nil ?_
      as_aux_lemma =>
        refine WC.ifT rfl rfl ?_
        refine WC.seq ?_
        refine WC.region ?_
        refine WL.r 1 rfl ?_
        refine WL.nil ?_
        refine WC.ret ?_
        refine ⟨[.bool false], rfl, ?_⟩
        exact ⟨congrArg Value.bool (decide_eq_false (fun h => by have h1 := h.1; have h2 := h.2.1; rw [hsl] at h2; omega)).symm, hS⟩
    · refine WL.reb 13 (.bool false) (congrArg Value.bool (decide_eq_false cg2)) ?_
      refine WL.ung rfl rfl rfl ?_
      refine WL.r 1 rfl ?_
      refine WL.ung rfl rfl rfl ?_
      refine WL.r 1 rfl ?_
      refine WL.ung rfl rfl rfl ?_
      refine WL.r 1 rfl ?_
      refine WL.ung rfl rfl rfl ?_
      refine WL.r 1 rfl ?_
      refine WL.nw 17 rfl (w64 (by omega)) ?_
      refine WL.ung rfl rfl rfl ?_
      refine WL.ixs rfl rfl (v := (ByteArray.size s : Int) - 1) (s.size - 1) rfl rfl rfl (by omega) (at_getD (by omega)) ?_
      refine WL.ung rfl rfl rfl ?_
      refine WL.r 2 rfl ?_
      refine WL.nil ?_
      as_aux_lemma =>
        refine WC.ifP rfl (fun cd1 => ?_) (fun cd1 => ?_)
        · refine WC.seq ?_
          refine WC.region ?_
          refine WL.r 1 rfl ?_
          refine WL.nil ?_
          refine WC.ret ?_
          refine ⟨[.bool false], rfl, ?_⟩
          exact ⟨congrArg Value.bool (decide_eq_false (fun h => by have h1 := h.1; have h2 := h.2.1; rw [hsl] at h2; omega)).symm, hS⟩
        · refine WC.skip ?_
          refine WC.seq ?_
          refine WC.seq ?_
          refine WC.region ?_
          refine WL.r 1 rfl ?_
          refine WL.nil ?_
          refine WC.block ?_
          refine WC.loop [0, 3] (fun kM vs w => ∃ (k : Nat), vs = [.string s, .int .i64 (k : Int)] ∧ St g (L) w ∧ (k ≤ s.size) ∧ (∀ q, q < k → chk (sb s) q) ∧ (s.size - k) = kM) (s.size - 0) ⟨0, rfl, hS, (Nat.zero_le _), (fun q h => by omega), rfl⟩ ?_
          clear hS; rintro _ _ w j ⟨k, rfl, hS, hk, hok, rfl⟩
          refine WC.seq ?_
          refine WC.seq ?_
          refine WC.region ?_
          refine WL.r 4 rfl ?_
          refine WL.nil ?_
          refine WC.ifP rfl (fun cd2 => ?_) (fun cd2 => ?_)
          · refine WC.skip ?_
            refine WC.seq ?_
            refine WC.block ?_
            refine WC.seq ?_
            refine WC.region ?_
            have hkb : 0 ≤ (sb s).getD k 0 ∧ (sb s).getD k 0 ≤ 255 := getD_b (sb_B8 s) (by omega)
            refine WL.r 3 rfl ?_
            by_cases cg3 : (k : Int) = 0
            · refine WL.reb 29 (.bool true) (congrArg Value.bool (decide_eq_true cg3)) ?_
              refine WL.skp rfl rfl rfl rfl ?_
              refine WL.skp rfl rfl rfl rfl ?_
              refine WL.skp rfl rfl rfl rfl ?_
              refine WL.skp rfl rfl rfl rfl ?_
              refine WL.skp rfl rfl rfl rfl ?_
              refine WL.r 2 rfl ?_
              refine WL.nil ?_
              as_aux_lemma =>
                refine WC.seq ?_
                refine WC.region ?_
                refine WL.r 2 rfl ?_
                refine WL.ung rfl rfl rfl ?_
                refine WL.r 1 rfl ?_
                refine WL.ung rfl rfl rfl ?_
                refine WL.r 1 rfl ?_
                refine WL.ung rfl rfl rfl ?_
                refine WL.ixs rfl rfl (v := (k : Int)) (k) rfl rfl rfl (by omega) (at_getD (by omega)) ?_
                refine WL.ung rfl rfl rfl ?_
                refine WL.call rfl rfl (letter_spec (b := (sb s).getD k 0) (hb := (by omega)) (hS := hS)) rfl ?_
                clear hS; rintro _ w ⟨rfl, hS⟩
                replace hS : St g (L) w := hS
                refine WL.ung rfl rfl rfl ?_
                refine WL.r 1 rfl ?_
                refine WL.prop 42 rfl (bnot (dd _)) ?_
                refine WL.r 2 rfl ?_
                by_cases cg4 : ¬ (ini ((sb s).getD k 0))
                · refine WL.reb 44 (.bool true) (congrArg Value.bool (decide_eq_true cg4)) ?_
                  refine WL.skp rfl rfl rfl rfl ?_
                  refine WL.skp rfl rfl rfl rfl ?_
                  refine WL.skp rfl rfl rfl rfl ?_
                  refine WL.skU rfl rfl rfl ?_
                  refine WL.skU rfl rfl rfl ?_
                  refine WL.skU rfl rfl rfl ?_
                  refine WL.skU rfl rfl rfl ?_
                  refine WL.skp rfl rfl rfl rfl ?_
                  refine WL.skp rfl rfl rfl rfl ?_
                  refine WL.skU rfl rfl rfl ?_
                  refine WL.skU rfl rfl rfl ?_
                  refine WL.skU rfl rfl rfl ?_
                  refine WL.skU rfl rfl rfl ?_
                  refine WL.skU rfl rfl rfl ?_
                  refine WL.skp rfl rfl rfl rfl ?_
                  refine WL.r 1 rfl ?_
                  refine WL.nil ?_
                  as_aux_lemma =>
                    refine WC.ifT rfl rfl ?_
                    refine WC.seq ?_
                    refine WC.region ?_
                    refine WL.r 1 rfl ?_
                    refine WL.nil ?_
                    refine WC.ret ?_
                    refine ⟨[.bool false], rfl, ?_⟩
                    have hno : ¬ chk (sb s) k := by
                      intro h; unfold chk at h
                      split at h <;> rename_i hc <;> first
                        | exact absurd h (by assumption)
                        | (rcases h with h | h <;> first | exact absurd h (by assumption) | omega)
                        | (exfalso; rcases hc with hc | hc <;> first | omega | exact absurd hc (by assumption))
                        | (exfalso; apply hc; first | (left; omega) | (right; assumption))
                    exact ⟨congrArg Value.bool (decide_eq_false (fun h => hno (h.2.2 k (by omega)))).symm, hS⟩
                · refine WL.reb 44 (.bool false) (congrArg Value.bool (decide_eq_false cg4)) ?_
                  refine WL.ung rfl rfl rfl ?_
                  refine WL.r 1 rfl ?_
                  refine WL.ung rfl rfl rfl ?_
                  refine WL.r 1 rfl ?_
                  refine WL.ung rfl rfl rfl ?_
                  refine WL.r 1 rfl ?_
                  refine WL.skp rfl rfl rfl rfl ?_
                  refine WL.skp rfl rfl rfl rfl ?_
                  refine WL.skp rfl rfl rfl rfl ?_
                  refine WL.skp rfl rfl rfl rfl ?_
                  refine WL.ung rfl rfl rfl ?_
                  refine WL.r 1 rfl ?_
                  refine WL.ung rfl rfl rfl ?_
                  refine WL.r 1 rfl ?_
                  refine WL.skp rfl rfl rfl rfl ?_
                  refine WL.skp rfl rfl rfl rfl ?_
                  refine WL.skp rfl rfl rfl rfl ?_
                  refine WL.skp rfl rfl rfl rfl ?_
                  refine WL.skp rfl rfl rfl rfl ?_
                  refine WL.ung rfl rfl rfl ?_
                  refine WL.r 2 rfl ?_
                  refine WL.nil ?_
                  as_aux_lemma =>
                    refine WC.ifF rfl rfl ?_
                    refine WC.skip ?_
                    refine WC.region ?_
                    refine WL.r 2 rfl ?_
                    refine WL.nw 26 rfl (w64 (by omega)) ?_
                    refine WL.r 1 rfl ?_
                    refine WL.nil ?_
                    exact ⟨_, by omega, k + 1, rfl, hS, (by omega), (by
                    have hck : chk (sb s) k := by
                      unfold chk
                      split <;> rename_i hc <;> first
                        | assumption
                        | exact Classical.not_not.1 (by assumption)
                        | exact .inl (Classical.not_not.1 (by assumption))
                        | exact .inr (Classical.not_not.1 (by assumption))
                        | (exfalso; rcases hc with hc | hc <;> first | omega | exact absurd hc (by assumption))
                        | (exfalso; apply hc; first | (left; omega) | (right; assumption))
                    intro q hq; rcases Nat.lt_succ_iff_lt_or_eq.1 hq with h | rfl
                    · exact hok q h
                    · exact hck), rfl⟩
            · refine WL.reb 29 (.bool false) (congrArg Value.bool (decide_eq_false cg3)) ?_
              refine WL.ung rfl rfl rfl ?_
              refine WL.r 1 rfl ?_
              refine WL.ung rfl rfl rfl ?_
              refine WL.r 1 rfl ?_
              refine WL.ung rfl rfl rfl ?_
              refine WL.r 1 rfl ?_
              refine WL.nw 32 rfl (w64 (by omega)) ?_
              refine WL.ung rfl rfl rfl ?_
              refine WL.ixs rfl rfl (v := (k : Int) - 1) (k - 1) rfl rfl rfl (by omega) (at_getD (by omega)) ?_
              refine WL.ung rfl rfl rfl ?_
              refine WL.r 3 rfl ?_
              refine WL.nil ?_
              as_aux_lemma =>
                refine WC.seq ?_
                refine WC.region ?_
                refine WL.r 2 rfl ?_
                by_cases cg4 : ((sb s).getD (k - 1) 0) = 47
                · refine WL.reb 37 (.bool true) (congrArg Value.bool (decide_eq_true cg4)) ?_
                  refine WL.ung rfl rfl rfl ?_
                  refine WL.r 1 rfl ?_
                  refine WL.ung rfl rfl rfl ?_
                  refine WL.r 1 rfl ?_
                  refine WL.ung rfl rfl rfl ?_
                  refine WL.ixs rfl rfl (v := (k : Int)) (k) rfl rfl rfl (by omega) (at_getD (by omega)) ?_
                  refine WL.ung rfl rfl rfl ?_
                  refine WL.call rfl rfl (letter_spec (b := (sb s).getD k 0) (hb := (by omega)) (hS := hS)) rfl ?_
                  clear hS; rintro _ w ⟨rfl, hS⟩
                  replace hS : St g (L) w := hS
                  refine WL.ung rfl rfl rfl ?_
                  refine WL.r 1 rfl ?_
                  refine WL.prop 42 rfl (bnot (dd _)) ?_
                  refine WL.r 2 rfl ?_
                  by_cases cg5 : ¬ (ini ((sb s).getD k 0))
                  · refine WL.reb 44 (.bool true) (congrArg Value.bool (decide_eq_true cg5)) ?_
                    refine WL.skp rfl rfl rfl rfl ?_
                    refine WL.skp rfl rfl rfl rfl ?_
                    refine WL.skp rfl rfl rfl rfl ?_
                    refine WL.skU rfl rfl rfl ?_
                    refine WL.skU rfl rfl rfl ?_
                    refine WL.skU rfl rfl rfl ?_
                    refine WL.skU rfl rfl rfl ?_
                    refine WL.skp rfl rfl rfl rfl ?_
                    refine WL.skp rfl rfl rfl rfl ?_
                    refine WL.skU rfl rfl rfl ?_
                    refine WL.skU rfl rfl rfl ?_
                    refine WL.skU rfl rfl rfl ?_
                    refine WL.skU rfl rfl rfl ?_
                    refine WL.skU rfl rfl rfl ?_
                    refine WL.skp rfl rfl rfl rfl ?_
                    refine WL.r 1 rfl ?_
                    refine WL.nil ?_
                    as_aux_lemma =>
                      refine WC.ifT rfl rfl ?_
                      refine WC.seq ?_
                      refine WC.region ?_
                      refine WL.r 1 rfl ?_
                      refine WL.nil ?_
                      refine WC.ret ?_
                      refine ⟨[.bool false], rfl, ?_⟩
                      have hno : ¬ chk (sb s) k := by
                        intro h; unfold chk at h
                        split at h <;> rename_i hc <;> first
                          | exact absurd h (by assumption)
                          | (rcases h with h | h <;> first | exact absurd h (by assumption) | omega)
                          | (exfalso; rcases hc with hc | hc <;> first | omega | exact absurd hc (by assumption))
                          | (exfalso; apply hc; first | (left; omega) | (right; assumption))
                      exact ⟨congrArg Value.bool (decide_eq_false (fun h => hno (h.2.2 k (by omega)))).symm, hS⟩
                  · refine WL.reb 44 (.bool false) (congrArg Value.bool (decide_eq_false cg5)) ?_
                    refine WL.ung rfl rfl rfl ?_
                    refine WL.r 1 rfl ?_
                    refine WL.ung rfl rfl rfl ?_
                    refine WL.r 1 rfl ?_
                    refine WL.prop 46 rfl (bnot (dd _)) ?_
                    refine WL.ung rfl rfl rfl ?_
                    refine WL.r 1 rfl ?_
                    by_cases cg6 : ¬ (((sb s).getD (k - 1) 0) = 47)
                    · refine WL.reb 47 (.bool true) (congrArg Value.bool (decide_eq_true cg6)) ?_
                      refine WL.ung rfl rfl rfl ?_
                      refine WL.r 1 rfl ?_
                      refine WL.ung rfl rfl rfl ?_
                      refine WL.r 1 rfl ?_
                      refine WL.ung rfl rfl rfl ?_
                      refine WL.ixs rfl rfl (v := (k : Int)) (k) rfl rfl rfl (by omega) (at_getD (by omega)) ?_
                      refine WL.ung rfl rfl rfl ?_
                      refine WL.r 1 rfl ?_
                      refine WL.ung rfl rfl rfl ?_
                      refine WL.r 1 rfl ?_
                      refine WL.ung rfl rfl rfl ?_
                      refine WL.r 1 rfl ?_
                      by_cases cg7 : ((sb s).getD k 0) ≠ 47
                      · refine WL.reb 53 (.bool true) (congrArg Value.bool (decide_eq_true cg7)) ?_
                        refine WL.ung rfl rfl rfl ?_
                        refine WL.r 1 rfl ?_
                        refine WL.ung rfl rfl rfl ?_
                        refine WL.r 1 rfl ?_
                        refine WL.ung rfl rfl rfl ?_
                        refine WL.ixs rfl rfl (v := (k : Int)) (k) rfl rfl rfl (by omega) (at_getD (by omega)) ?_
                        refine WL.ung rfl rfl rfl ?_
                        refine WL.call rfl rfl (inside_spec (b := (sb s).getD k 0) (hb := (by omega)) (hS := hS)) rfl ?_
                        clear hS; rintro _ w ⟨rfl, hS⟩
                        replace hS : St g (L) w := hS
                        refine WL.ung rfl rfl rfl ?_
                        refine WL.r 1 rfl ?_
                        refine WL.prop 58 rfl (bnot (dd _)) ?_
                        refine WL.ung rfl rfl rfl ?_
                        refine WL.r 2 rfl ?_
                        refine WL.nil ?_
                        as_aux_lemma =>
                          refine WC.ifP rfl (fun cd3 => ?_) (fun cd3 => ?_)
                          · refine WC.seq ?_
                            refine WC.region ?_
                            refine WL.r 1 rfl ?_
                            refine WL.nil ?_
                            refine WC.ret ?_
                            refine ⟨[.bool false], rfl, ?_⟩
                            have hno : ¬ chk (sb s) k := by
                              intro h; unfold chk at h
                              split at h <;> rename_i hc <;> first
                                | exact absurd h (by assumption)
                                | (rcases h with h | h <;> first | exact absurd h (by assumption) | omega)
                                | (exfalso; rcases hc with hc | hc <;> first | omega | exact absurd hc (by assumption))
                                | (exfalso; apply hc; first | (left; omega) | (right; assumption))
                            exact ⟨congrArg Value.bool (decide_eq_false (fun h => hno (h.2.2 k (by omega)))).symm, hS⟩
                          · refine WC.skip ?_
                            refine WC.region ?_
                            refine WL.r 2 rfl ?_
                            refine WL.nw 26 rfl (w64 (by omega)) ?_
                            refine WL.r 1 rfl ?_
                            refine WL.nil ?_
                            exact ⟨_, by omega, k + 1, rfl, hS, (by omega), (by
                            have hck : chk (sb s) k := by
                              unfold chk
                              split <;> rename_i hc <;> first
                                | assumption
                                | exact Classical.not_not.1 (by assumption)
                                | exact .inl (Classical.not_not.1 (by assumption))
                                | exact .inr (Classical.not_not.1 (by assumption))
                                | (exfalso; rcases hc with hc | hc <;> first | omega | exact absurd hc (by assumption))
                                | (exfalso; apply hc; first | (left; omega) | (right; assumption))
                            intro q hq; rcases Nat.lt_succ_iff_lt_or_eq.1 hq with h | rfl
                            · exact hok q h
                            · exact hck), rfl⟩
                      · refine WL.reb 53 (.bool false) (congrArg Value.bool (decide_eq_false cg7)) ?_
                        refine WL.skp rfl rfl rfl rfl ?_
                        refine WL.skp rfl rfl rfl rfl ?_
                        refine WL.skp rfl rfl rfl rfl ?_
                        refine WL.skp rfl rfl rfl rfl ?_
                        refine WL.skp rfl rfl rfl rfl ?_
                        refine WL.ung rfl rfl rfl ?_
                        refine WL.r 2 rfl ?_
                        refine WL.nil ?_
                        as_aux_lemma =>
                          refine WC.ifF rfl rfl ?_
                          refine WC.skip ?_
                          refine WC.region ?_
                          refine WL.r 2 rfl ?_
                          refine WL.nw 26 rfl (w64 (by omega)) ?_
                          refine WL.r 1 rfl ?_
                          refine WL.nil ?_
                          exact ⟨_, by omega, k + 1, rfl, hS, (by omega), (by
                          have hck : chk (sb s) k := by
                            unfold chk
                            split <;> rename_i hc <;> first
                              | assumption
                              | exact Classical.not_not.1 (by assumption)
                              | exact .inl (Classical.not_not.1 (by assumption))
                              | exact .inr (Classical.not_not.1 (by assumption))
                              | (exfalso; rcases hc with hc | hc <;> first | omega | exact absurd hc (by assumption))
                              | (exfalso; apply hc; first | (left; omega) | (right; assumption))
                          intro q hq; rcases Nat.lt_succ_iff_lt_or_eq.1 hq with h | rfl
                          · exact hok q h
                          · exact hck), rfl⟩
                    · refine WL.reb 47 (.bool false) (congrArg Value.bool (decide_eq_false cg6)) ?_
                      refine WL.skp rfl rfl rfl rfl ?_
                      refine WL.skp rfl rfl rfl rfl ?_
                      refine WL.skp rfl rfl rfl rfl ?_
                      refine WL.skp rfl rfl rfl rfl ?_
                      refine WL.ung rfl rfl rfl ?_
                      refine WL.r 1 rfl ?_
                      refine WL.ung rfl rfl rfl ?_
                      refine WL.r 1 rfl ?_
                      refine WL.skp rfl rfl rfl rfl ?_
                      refine WL.skp rfl rfl rfl rfl ?_
                      refine WL.skp rfl rfl rfl rfl ?_
                      refine WL.skp rfl rfl rfl rfl ?_
                      refine WL.skp rfl rfl rfl rfl ?_
                      refine WL.ung rfl rfl rfl ?_
                      refine WL.r 2 rfl ?_
                      refine WL.nil ?_
                      as_aux_lemma =>
                        refine WC.ifF rfl rfl ?_
                        refine WC.skip ?_
                        refine WC.region ?_
                        refine WL.r 2 rfl ?_
                        refine WL.nw 26 rfl (w64 (by omega)) ?_
                        refine WL.r 1 rfl ?_
                        refine WL.nil ?_
                        exact ⟨_, by omega, k + 1, rfl, hS, (by omega), (by
                        have hck : chk (sb s) k := by
                          unfold chk
                          split <;> rename_i hc <;> first
                            | assumption
                            | exact Classical.not_not.1 (by assumption)
                            | exact .inl (Classical.not_not.1 (by assumption))
                            | exact .inr (Classical.not_not.1 (by assumption))
                            | (exfalso; rcases hc with hc | hc <;> first | omega | exact absurd hc (by assumption))
                            | (exfalso; apply hc; first | (left; omega) | (right; assumption))
                        intro q hq; rcases Nat.lt_succ_iff_lt_or_eq.1 hq with h | rfl
                        · exact hok q h
                        · exact hck), rfl⟩
                · refine WL.reb 37 (.bool false) (congrArg Value.bool (decide_eq_false cg4)) ?_
                  refine WL.skp rfl rfl rfl rfl ?_
                  refine WL.skp rfl rfl rfl rfl ?_
                  refine WL.skp rfl rfl rfl rfl ?_
                  refine WL.skp rfl rfl rfl rfl ?_
                  refine WL.skp rfl rfl rfl rfl ?_
                  refine WL.r 2 rfl ?_
                  refine WL.ung rfl rfl rfl ?_
                  refine WL.r 1 rfl ?_
                  refine WL.ung rfl rfl rfl ?_
                  refine WL.r 1 rfl ?_
                  refine WL.prop 46 rfl (bnot (dd _)) ?_
                  refine WL.ung rfl rfl rfl ?_
                  refine WL.r 1 rfl ?_
                  by_cases cg5 : ¬ (((sb s).getD (k - 1) 0) = 47)
                  · refine WL.reb 47 (.bool true) (congrArg Value.bool (decide_eq_true cg5)) ?_
                    refine WL.ung rfl rfl rfl ?_
                    refine WL.r 1 rfl ?_
                    refine WL.ung rfl rfl rfl ?_
                    refine WL.r 1 rfl ?_
                    refine WL.ung rfl rfl rfl ?_
                    refine WL.ixs rfl rfl (v := (k : Int)) (k) rfl rfl rfl (by omega) (at_getD (by omega)) ?_
                    refine WL.ung rfl rfl rfl ?_
                    refine WL.r 1 rfl ?_
                    refine WL.ung rfl rfl rfl ?_
                    refine WL.r 1 rfl ?_
                    refine WL.ung rfl rfl rfl ?_
                    refine WL.r 1 rfl ?_
                    by_cases cg6 : ((sb s).getD k 0) ≠ 47
                    · refine WL.reb 53 (.bool true) (congrArg Value.bool (decide_eq_true cg6)) ?_
                      refine WL.ung rfl rfl rfl ?_
                      refine WL.r 1 rfl ?_
                      refine WL.ung rfl rfl rfl ?_
                      refine WL.r 1 rfl ?_
                      refine WL.ung rfl rfl rfl ?_
                      refine WL.ixs rfl rfl (v := (k : Int)) (k) rfl rfl rfl (by omega) (at_getD (by omega)) ?_
                      refine WL.ung rfl rfl rfl ?_
                      refine WL.call rfl rfl (inside_spec (b := (sb s).getD k 0) (hb := (by omega)) (hS := hS)) rfl ?_
                      clear hS; rintro _ w ⟨rfl, hS⟩
                      replace hS : St g (L) w := hS
                      refine WL.ung rfl rfl rfl ?_
                      refine WL.r 1 rfl ?_
                      refine WL.prop 58 rfl (bnot (dd _)) ?_
                      refine WL.ung rfl rfl rfl ?_
                      refine WL.r 2 rfl ?_
                      refine WL.nil ?_
                      as_aux_lemma =>
                        refine WC.ifP rfl (fun cd3 => ?_) (fun cd3 => ?_)
                        · refine WC.seq ?_
                          refine WC.region ?_
                          refine WL.r 1 rfl ?_
                          refine WL.nil ?_
                          refine WC.ret ?_
                          refine ⟨[.bool false], rfl, ?_⟩
                          have hno : ¬ chk (sb s) k := by
                            intro h; unfold chk at h
                            split at h <;> rename_i hc <;> first
                              | exact absurd h (by assumption)
                              | (rcases h with h | h <;> first | exact absurd h (by assumption) | omega)
                              | (exfalso; rcases hc with hc | hc <;> first | omega | exact absurd hc (by assumption))
                              | (exfalso; apply hc; first | (left; omega) | (right; assumption))
                          exact ⟨congrArg Value.bool (decide_eq_false (fun h => hno (h.2.2 k (by omega)))).symm, hS⟩
                        · refine WC.skip ?_
                          refine WC.region ?_
                          refine WL.r 2 rfl ?_
                          refine WL.nw 26 rfl (w64 (by omega)) ?_
                          refine WL.r 1 rfl ?_
                          refine WL.nil ?_
                          exact ⟨_, by omega, k + 1, rfl, hS, (by omega), (by
                          have hck : chk (sb s) k := by
                            unfold chk
                            split <;> rename_i hc <;> first
                              | assumption
                              | exact Classical.not_not.1 (by assumption)
                              | exact .inl (Classical.not_not.1 (by assumption))
                              | exact .inr (Classical.not_not.1 (by assumption))
                              | (exfalso; rcases hc with hc | hc <;> first | omega | exact absurd hc (by assumption))
                              | (exfalso; apply hc; first | (left; omega) | (right; assumption))
                          intro q hq; rcases Nat.lt_succ_iff_lt_or_eq.1 hq with h | rfl
                          · exact hok q h
                          · exact hck), rfl⟩
                    · refine WL.reb 53 (.bool false) (congrArg Value.bool (decide_eq_false cg6)) ?_
                      refine WL.skp rfl rfl rfl rfl ?_
                      refine WL.skp rfl rfl rfl rfl ?_
                      refine WL.skp rfl rfl rfl rfl ?_
                      refine WL.skp rfl rfl rfl rfl ?_
                      refine WL.skp rfl rfl rfl rfl ?_
                      refine WL.ung rfl rfl rfl ?_
                      refine WL.r 2 rfl ?_
                      refine WL.nil ?_
                      as_aux_lemma =>
                        refine WC.ifF rfl rfl ?_
                        refine WC.skip ?_
                        refine WC.region ?_
                        refine WL.r 2 rfl ?_
                        refine WL.nw 26 rfl (w64 (by omega)) ?_
                        refine WL.r 1 rfl ?_
                        refine WL.nil ?_
                        exact ⟨_, by omega, k + 1, rfl, hS, (by omega), (by
                        have hck : chk (sb s) k := by
                          unfold chk
                          split <;> rename_i hc <;> first
                            | assumption
                            | exact Classical.not_not.1 (by assumption)
                            | exact .inl (Classical.not_not.1 (by assumption))
                            | exact .inr (Classical.not_not.1 (by assumption))
                            | (exfalso; rcases hc with hc | hc <;> first | omega | exact absurd hc (by assumption))
                            | (exfalso; apply hc; first | (left; omega) | (right; assumption))
                        intro q hq; rcases Nat.lt_succ_iff_lt_or_eq.1 hq with h | rfl
                        · exact hok q h
                        · exact hck), rfl⟩
                  · refine WL.reb 47 (.bool false) (congrArg Value.bool (decide_eq_false cg5)) ?_
                    refine WL.skp rfl rfl rfl rfl ?_
                    refine WL.skp rfl rfl rfl rfl ?_
                    refine WL.skp rfl rfl rfl rfl ?_
                    refine WL.skp rfl rfl rfl rfl ?_
                    refine WL.ung rfl rfl rfl ?_
                    refine WL.r 1 rfl ?_
                    refine WL.ung rfl rfl rfl ?_
                    refine WL.r 1 rfl ?_
                    refine WL.skp rfl rfl rfl rfl ?_
                    refine WL.skp rfl rfl rfl rfl ?_
                    refine WL.skp rfl rfl rfl rfl ?_
                    refine WL.skp rfl rfl rfl rfl ?_
                    refine WL.skp rfl rfl rfl rfl ?_
                    refine WL.ung rfl rfl rfl ?_
                    refine WL.r 2 rfl ?_
                    refine WL.nil ?_
                    as_aux_lemma =>
                      refine WC.ifF rfl rfl ?_
                      refine WC.skip ?_
                      refine WC.region ?_
                      refine WL.r 2 rfl ?_
                      refine WL.nw 26 rfl (w64 (by omega)) ?_
                      refine WL.r 1 rfl ?_
                      refine WL.nil ?_
                      exact ⟨_, by omega, k + 1, rfl, hS, (by omega), (by
                      have hck : chk (sb s) k := by
                        unfold chk
                        split <;> rename_i hc <;> first
                          | assumption
                          | exact Classical.not_not.1 (by assumption)
                          | exact .inl (Classical.not_not.1 (by assumption))
                          | exact .inr (Classical.not_not.1 (by assumption))
                          | (exfalso; rcases hc with hc | hc <;> first | omega | exact absurd hc (by assumption))
                          | (exfalso; apply hc; first | (left; omega) | (right; assumption))
                      intro q hq; rcases Nat.lt_succ_iff_lt_or_eq.1 hq with h | rfl
                      · exact hok q h
                      · exact hck), rfl⟩
          · refine WC.exit ?_
            refine WC.seq ?_
            refine WC.region ?_
            refine WL.r 1 rfl ?_
            refine WL.nil ?_
            refine WC.ret ?_
            refine ⟨[.bool true], rfl, ?_⟩
            exact ⟨congrArg Value.bool (decide_eq_true ⟨by omega, fun h => cd1 (by rw [← hsl]; exact h), fun q hq => hok q (by omega)⟩).symm, hS⟩
end Go.Proofs.YtenkmjbghbegfaaDoor
