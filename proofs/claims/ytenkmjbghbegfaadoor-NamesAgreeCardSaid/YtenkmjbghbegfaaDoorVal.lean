/-
  Which names are valid: the program's answer.
  Conditions: none beyond the arguments' form.
-/
import Derived.Test.YtenkmjbghbegfaaDoorSpl2
import Derived.Test.YtenkmjbghbegfaaDoorVnm
namespace Go.Proofs.YtenkmjbghbegfaaDoor
open Go Go.V

theorem initial_spec {g w : World} {L : List HP} (b : Int) (hb : 0 ≤ b ∧ b ≤ 255) (hS : St g (L) w) :
    Sp Tryd.prog 27 [.int .u8 b] w (fun v w' => v = .bool (decide (ini b)) ∧ St g (L) w') := by
  refine Sp.enter Tryd.func27 rfl (by kernel_rfl) (by kernel_rfl) ?_
  have _ := hb
  refine WC.seq ?_
  refine WC.region ?_
  refine WL.r 1 rfl ?_
  refine WL.nil ?_
  refine WC.seq ?_
  refine WC.region ?_
  refine WL.r 2 rfl ?_
  refine WL.rG 13 rfl (fun j => ?_)
  refine WL.prop 16 rfl (bor (band (dd _) (dd _)) (band (dd _) (dd _))) ?_
  refine WL.nil ?_
  refine WC.ret ?_
  refine ⟨[.bool (bif (bif (decide (97 ≤ b)) then (decide (b ≤ 122)) else false) then true else (bif (decide (48 ≤ b)) then (decide (b ≤ 57)) else false))], rfl, ?_⟩
  refine ⟨congrArg Value.bool ?_, hS⟩
  by_cases a1 : 97 ≤ b <;> by_cases a2 : b ≤ 122 <;> by_cases a3 : 48 ≤ b <;> by_cases a4 : b ≤ 57 <;> simp [ini, a1, a2, a3, a4]
set_option maxHeartbeats 1000000 in
set_option maxRecDepth 8192 in
theorem validName_spec {g w : World} {L : List HP} (s : ByteArray) (hS : St g (L) w) :
    Sp Tryd.prog 9 [.string s] w (fun v w' => v = .bool (decide (okName (sb s))) ∧ St g (L) w') := by
  refine Sp.enter Tryd.func9 rfl (by kernel_rfl) (by kernel_rfl) ?_
  refine WC.seq ?_
  refine WC.region ?_
  refine WL.r 1 rfl ?_
  refine WL.nil ?_
  refine WC.seq ?_
  refine WC.seq ?_
  refine WC.region ?_
  have hsl := sb_len s
  refine WL.r 3 rfl ?_
  refine WL.nil ?_
  refine WC.ifP rfl (fun cd1 => ?_) (fun cd1 => ?_)
  · refine WC.seq ?_
    refine WC.region ?_
    refine WL.r 1 rfl ?_
    refine WL.nil ?_
    refine WC.ret ?_
    refine ⟨[.bool false], rfl, ?_⟩
    exact ⟨congrArg Value.bool (decide_eq_false (fun h => by have := h.1; omega)).symm, hS⟩
  · refine WC.skip ?_
    refine WC.seq ?_
    refine WC.seq ?_
    refine WC.region ?_
    have hpl2 := prt_len (sb s); have hcn := List.count_le_length (a := (47 : Int)) (l := sb s); have hpl := strs_len (prt (sb s))
    refine WL.r 1 rfl ?_
    refine WL.call rfl rfl (split_spec (s := s) (hs := (by omega)) (hS := hS)) rfl ?_
    clear hS; rintro _ w ⟨a1, c1, rfl, hS⟩
    replace hS : St g (Own 9 1 (strs (prt (sb s))) a1 c1 :: L) w := hS
    refine WL.r 2 rfl ?_
    refine WL.nil ?_
    refine WC.block ?_
    refine WC.loop [11, 12, 13] (fun kM vs w => ∃ (k : Nat), vs = [.slice a1 (List.length (strs (prt (sb s)))) c1, .int .i64 (List.length (strs (prt (sb s))) : Int), .int .i64 (k : Int)] ∧ St g (Own 9 1 (strs (prt (sb s))) a1 c1 :: L) w ∧ (k ≤ (prt (sb s)).length) ∧ (∀ p ∈ (prt (sb s)).take k, okPart p) ∧ ((prt (sb s)).length - k) = kM) ((List.length (prt (sb s))) - 0) ⟨0, rfl, hS, (Nat.zero_le _), (fun _ h => by cases h), rfl⟩ ?_
    clear hS; rintro _ _ w j ⟨k, rfl, hS, hk, hok, rfl⟩
    refine WC.seq ?_
    refine WC.region ?_
    have hpl2 := prt_len (sb s); have hcn := List.count_le_length (a := (47 : Int)) (l := sb s); have hpl := strs_len (prt (sb s))
    refine WL.r 1 rfl ?_
    refine WL.nil ?_
    as_aux_lemma =>
      refine WC.seq ?_
      refine WC.ifP rfl (fun cd2 => ?_) (fun cd2 => ?_)
      · refine WC.skip ?_
        refine WC.seq ?_
        refine WC.block ?_
        refine WC.seq ?_
        refine WC.region ?_
        obtain ⟨p, hp⟩ : ∃ p, (prt (sb s))[k]? = some p := ⟨_, List.getElem?_eq_getElem (by omega)⟩; obtain ⟨hp8, hpz⟩ := prt_B8 (sb s) (sb_B8 s) p (List.mem_of_getElem? hp); have hps := sb_mkS hp8; have hpn : (mkS p).size = p.length := mkS_size p
        refine WL.ix rfl rfl (i := (k : Int)) (k) el_57 rfl rfl (by omega) (by omega) (hS.rdO 0 rfl (strs_at hp)).1 ?_
        refine WL.run 2 [.string (mkS p)] rfl (by exact (hS.rdO 0 rfl (strs_at hp)).2 0 _ rfl) ?_
        refine WL.nil ?_
        refine WC.seq ?_
        refine WC.seq ?_
        refine WC.region ?_
        refine WL.r 3 rfl ?_
        by_cases cg1 : (mkS p) = ⟨#[]⟩
        · refine WL.reb 19 (.bool true) (congrArg Value.bool (decide_eq_true cg1)) ?_
          refine WL.skp rfl rfl rfl rfl ?_
          refine WL.skp rfl rfl rfl rfl ?_
          refine WL.skp rfl rfl rfl rfl ?_
          refine WL.skp rfl rfl rfl rfl ?_
          refine WL.r 1 rfl ?_
          refine WL.nil ?_
          refine WC.ifT rfl rfl ?_
          refine WC.seq ?_
          refine WC.region ?_
          refine WL.r 1 rfl ?_
          refine WL.nil ?_
          as_aux_lemma =>
            refine WC.ret ?_
            refine ⟨[.bool false], rfl, ?_⟩
            replace hS := (hS.sel 1 [] rfl)
            exact ⟨congrArg Value.bool (decide_eq_false (okName_no hp (okPart_e hps cg1))).symm, hS⟩
        · refine WL.reb 19 (.bool false) (congrArg Value.bool (decide_eq_false cg1)) ?_
          refine WL.ung rfl rfl rfl ?_
          refine WL.r 1 rfl ?_
          refine WL.ung rfl rfl rfl ?_
          have hpne : p ≠ [] := fun e => cg1 (by rw [e]; rfl); obtain ⟨b0, hc⟩ : ∃ b, p[0]? = some b := ⟨_, List.getElem?_eq_getElem (by have := List.length_pos_iff.2 hpne; omega)⟩; have hb0 := hp8 b0 (List.mem_of_getElem? hc)
          refine WL.ixs rfl rfl (v := 0) (0) rfl rfl rfl (by omega) (show (sb (mkS p))[0]? = some b0 by rw [hps]; exact hc) ?_
          refine WL.ung rfl rfl rfl ?_
          refine WL.call rfl rfl (initial_spec (b := b0) (hb := (by omega)) (hS := hS)) rfl ?_
          clear hS; rintro _ w ⟨rfl, hS⟩
          replace hS : St g (Own 9 1 (strs (prt (sb s))) a1 c1 :: L) w := hS
          refine WL.ung rfl rfl rfl ?_
          refine WL.r 1 rfl ?_
          refine WL.prop 23 rfl (bnot (dd _)) ?_
          refine WL.r 1 rfl ?_
          refine WL.nil ?_
          as_aux_lemma =>
            refine WC.ifP rfl (fun cd3 => ?_) (fun cd3 => ?_)
            · refine WC.seq ?_
              refine WC.region ?_
              refine WL.r 1 rfl ?_
              refine WL.nil ?_
              refine WC.ret ?_
              refine ⟨[.bool false], rfl, ?_⟩
              replace hS := (hS.sel 1 [] rfl)
              exact ⟨congrArg Value.bool (decide_eq_false (okName_no hp (fun h => cd3 (okPart_ini hc h)))).symm, hS⟩
            · refine WC.skip ?_
              refine WC.seq ?_
              refine WC.region ?_
              refine WL.r 1 rfl ?_
              refine WL.nil ?_
              refine WC.block ?_
              refine WC.loop [4, 5, 11, 12, 13, 14, 15, 16, 17, 18, 19, 20, 21, 22, 23, 24] (fun kM vs w => ∃ (i : Nat), vs = [.string (mkS p), .int .i64 (i : Int), .slice a1 (List.length (strs (prt (sb s)))) c1, .int .i64 (List.length (strs (prt (sb s))) : Int), .int .i64 (k : Int), .bool (decide ((k : Int) < (List.length (strs (prt (sb s))) : Int))), .pointer (some ⟨bo a1, (oo a1) + (k * 1), none⟩), .string (mkS p), .string (mkS p), .bool (decide ((mkS p) = ⟨#[]⟩)), .bool false, .string (mkS p), .int .u8 b0, .bool (decide (ini b0)), .bool (decide (¬ (ini b0))), .bool (decide (¬ (ini b0)))] ∧ St g (Own 9 1 (strs (prt (sb s))) a1 c1 :: L) w ∧ (1 ≤ i) ∧ (∀ q, 1 ≤ q → q < i → ∀ x, p[q]? = some x → ins x) ∧ (p.length - i) = kM) ((List.length p) - 1) ⟨1, rfl, hS, (Nat.le_refl _), (fun q h1 h2 => by omega), rfl⟩ ?_
              clear hS; rintro _ _ w j ⟨i, rfl, hS, hi, hin, rfl⟩
              refine WC.seq ?_
              refine WC.seq ?_
              refine WC.region ?_
              refine WL.r 4 rfl ?_
              refine WL.nil ?_
              refine WC.ifP rfl (fun cd4 => ?_) (fun cd4 => ?_)
              · refine WC.skip ?_
                refine WC.seq ?_
                refine WC.block ?_
                refine WC.seq ?_
                refine WC.region ?_
                refine WL.r 2 rfl ?_
                obtain ⟨x, hx⟩ : ∃ x, p[i]? = some x := ⟨_, List.getElem?_eq_getElem (by omega)⟩; have hx0 := hp8 x (List.mem_of_getElem? hx)
                refine WL.ixs rfl rfl (v := (i : Int)) (i) rfl rfl rfl (by omega) (show (sb (mkS p))[i]? = some x by rw [hps]; exact hx) ?_
                refine WL.r 1 rfl ?_
                refine WL.nil ?_
                as_aux_lemma =>
                  refine WC.seq ?_
                  refine WC.region ?_
                  refine WL.r 1 rfl ?_
                  refine WL.call rfl rfl (initial_spec (b := x) (hb := (by omega)) (hS := hS)) rfl ?_
                  clear hS; rintro _ w ⟨rfl, hS⟩
                  replace hS : St g (Own 9 1 (strs (prt (sb s))) a1 c1 :: L) w := hS
                  refine WL.r 1 rfl ?_
                  refine WL.prop 36 rfl (bnot (dd _)) ?_
                  refine WL.rG 12 rfl (fun j => ?_)
                  refine WL.prop 48 rfl (band (band (band (dd _) (dd _)) (dd _)) (dd _)) ?_
                  refine WL.nil ?_
                  refine WC.ifP rfl (fun cd5 => ?_) (fun cd5 => ?_)
                  · refine WC.seq ?_
                    refine WC.region ?_
                    refine WL.r 1 rfl ?_
                    refine WL.nil ?_
                    refine WC.ret ?_
                    refine ⟨[.bool false], rfl, ?_⟩
                    replace hS := (hS.sel 1 [] rfl)
                    exact ⟨congrArg Value.bool (decide_eq_false (okName_no hp (fun h => ins_no cd5 (okPart_ins hi hx h)))).symm, hS⟩
                  · refine WC.skip ?_
                    refine WC.region ?_
                    refine WL.r 2 rfl ?_
                    refine WL.nw 30 rfl (w64 (by omega)) ?_
                    refine WL.r 1 rfl ?_
                    refine WL.nil ?_
                    exact ⟨_, by omega, i + 1, rfl, hS, (by omega), (fun q h1 h2 y hy => by
                    by_cases hq : q = i
                    · subst hq; rw [hx] at hy; cases hy; exact ins_yes cd5
                    · exact hin q h1 (by omega) y hy), rfl⟩
              · refine WC.exit ?_
                refine WC.region ?_
                have hpl2 := prt_len (sb s); have hcn := List.count_le_length (a := (47 : Int)) (l := sb s); have hpl := strs_len (prt (sb s))
                refine WL.r 1 rfl ?_
                refine WL.nw 49 rfl (w64 (by omega)) ?_
                refine WL.r 1 rfl ?_
                refine WL.nil ?_
                exact ⟨_, by omega, k + 1, rfl, hS, (by omega), (fun y hy => by
                rw [List.take_add_one, hp] at hy
                rcases List.mem_append.1 hy with hy | hy
                · exact hok y hy
                · simp at hy; subst hy
                  exact okPart_of hc (Classical.not_not.1 cd3) (fun q h1 h2 x hx => hin q h1 (by omega) x hx)), rfl⟩
      · refine WC.exit ?_
        refine WC.seq ?_
        refine WC.region ?_
        refine WL.r 1 rfl ?_
        refine WL.nil ?_
        refine WC.ret ?_
        refine ⟨[.bool true], rfl, ?_⟩
        replace hS := (hS.sel 1 [] rfl)
        exact ⟨congrArg Value.bool (decide_eq_true ⟨by omega, by rwa [List.take_of_length_le (by omega)] at hok⟩).symm, hS⟩
end Go.Proofs.YtenkmjbghbegfaaDoor
