/-
  The law NamesLimit, walked.
  Conditions: the arguments lie in their kinds.
-/
import Derived.Test.YtenkmjbghbegfaaDoorNm3
import Derived.Test.YtenkmjbghbegfaaDoorAny
import Derived.Test.YtenkmjbghbegfaaDoorCn
import Derived.Test.YtenkmjbghbegfaaDoorNml
namespace Go.Proofs.YtenkmjbghbegfaaDoor
open Go Go.V

set_option maxHeartbeats 1000000 in
set_option maxRecDepth 8192 in
theorem law_limit {g w : World} {L : List HP} (n y : Int) (hn : -9223372036854775808 ≤ n ∧ n ≤ 9223372036854775807) (hy : 0 ≤ y ∧ y ≤ 18446744073709551615) (hS : St g (L) w) :
    Sp Tryd.prog 7 [.int .i64 n, .int .u64 y] w (fun v w' => v = .bool true ∧ St g (L) w') := by
  refine Sp.enter Tryd.func7 rfl (by kernel_rfl) (by kernel_rfl) ?_
  have _ := hy
  have _ := hn
  refine WC.seq ?_
  refine WC.region ?_
  refine WL.r 1 rfl ?_
  refine WL.nil ?_
  refine WC.seq ?_
  refine WC.region ?_
  refine WL.call rfl rfl (new_spec   (hS := hS)) rfl ?_
  clear hS; rintro _ w ⟨t1, m1, rfl, hS⟩
  replace hS : St g (cel t1 #[.map (some m1)] 62 :: blk m1 (.map (mE (List.map nbK [])) 0) :: Buns nbF [] :: L) w := hS
  refine WL.r 1 rfl ?_
  refine WL.nil ?_
  refine WC.seq ?_
  refine WC.seq ?_
  refine WC.region ?_
  refine WL.call rfl rfl (awake_spec   (hS := hS)) rfl ?_
  clear hS; rintro _ w ⟨rfl, hS⟩
  replace hS : St g (cel t1 #[.map (some m1)] 62 :: blk m1 (.map (mE (List.map nbK [])) 0) :: Buns nbF [] :: L) w := hS
  refine WL.r 2 rfl ?_
  refine WL.ung rfl rfl rfl ?_
  refine WL.r 1 rfl ?_
  refine WL.ung rfl rfl rfl ?_
  refine WL.r 2 rfl ?_
  refine WL.nil ?_
  refine WC.ifF rfl rfl ?_
  refine WC.skip ?_
  as_aux_lemma =>
    refine WC.seq ?_
    refine WC.region ?_
    refine WL.r 2 rfl ?_
    refine WL.reb 21 (.int .u64 (y % 1000)) (congrArg (Value.int .u64) (Int.tmod_eq_emod_of_nonneg (a := y) (by omega))) ?_
    refine WL.r 1 rfl ?_
    refine WL.nw 22 rfl (wu64 (by omega)) ?_
    refine WL.r 1 rfl ?_
    refine WL.nil ?_
    refine WC.seq ?_
    refine WC.seq ?_
    refine WC.region ?_
    refine WL.r 1 rfl ?_
    refine WL.nil ?_
    refine WC.block ?_
    refine WC.loop [0, 1, 5, 6] (fun kM vs w => ∃ (k : Nat) (xs : List NB) (q : Nat), vs = [.int .i64 n, .int .u64 ((y % 1000) + 1), .pointer (some ⟨t1, 0, none⟩), .int .i64 (k : Int)] ∧ St g (cel t1 #[.map (some m1)] 62 :: blk m1 (.map (mE (List.map nbK xs)) q) :: Buns nbF xs :: L) w ∧ (k ≤ 256) ∧ (TOk xs q) ∧ (List.map ab xs = lmT k (y % 1000 + 1)) ∧ (256 - k) = kM) (256 - 0) ⟨0, [], 0, rfl, hS, (by omega), (TOk.nil), (rfl), rfl⟩ ?_
    clear hS; rintro _ _ w j ⟨k, xs, q, rfl, hS, hk, ht, hx, rfl⟩
    refine WC.seq ?_
    refine WC.seq ?_
    refine WC.region ?_
    refine WL.r 2 rfl ?_
    refine WL.nil ?_
    refine WC.ifP rfl (fun cd1 => ?_) (fun cd1 => ?_)
    · refine WC.skip ?_
      refine WC.seq ?_
      refine WC.block ?_
      refine WC.seq ?_
      refine WC.region ?_
      refine WL.r 2 rfl ?_
      refine WL.nw 28 rfl (w64 (by omega)) ?_
      refine WL.r 1 rfl ?_
      refine WL.nw 29 rfl (w64 (by omega)) ?_
      refine WL.r 1 rfl ?_
      refine WL.reb 30 (.int .i64 ((((k : Int) * 77) + 5) % 256)) (congrArg (Value.int .i64) (Int.tmod_eq_emod_of_nonneg (a := ((k : Int) * 77) + 5) (by omega))) ?_
      refine WL.r 1 rfl ?_
      refine WL.nil ?_
      as_aux_lemma =>
        refine WC.seq ?_
        refine WC.region ?_
        have he := lm_add (h := y % 1000 + 1) (show k < 256 by omega) (by omega); rw [← hx] at he; unfold sg at he
        refine WL.r 2 rfl ?_
        refine WL.call rfl rfl (digits_spec (i := (((k : Int) * 77) + 5) % 256) (hi := (by omega)) (hS := hS)) rfl ?_
        clear hS; rintro _ w ⟨rfl, hS⟩
        replace hS : St g (cel t1 #[.map (some m1)] 62 :: blk m1 (.map (mE (List.map nbK xs)) q) :: Buns nbF xs :: L) w := hS
        refine WL.r 1 rfl ?_
        refine WL.call rfl rfl (set_any (t := t1) (m := m1) (xs := xs) (q := q) (s := dig ((((k : Int) * 77) + 5) % 256)) (x := 0) (y := (y % 1000) + 1) (ht := (by assumption)) (hS := hS)) rfl ?_
        clear hS; rintro _ w ⟨xs1, q1, rfl, hS, f1, f2⟩
        replace hS : St g (cel t1 #[.map (some m1)] 62 :: blk m1 (.map (mE (List.map nbK xs1)) q1) :: Buns nbF xs1 :: L) w := hS
        refine WL.r 1 rfl ?_
        refine WL.nil ?_
        refine WC.ifF rfl (decide_eq_false ((fun h => h (by rw [he])))) ?_
        refine WC.skip ?_
        refine WC.region ?_
        refine WL.r 2 rfl ?_
        refine WL.nw 26 rfl (w64 (by omega)) ?_
        refine WL.r 1 rfl ?_
        refine WL.nil ?_
        exact ⟨_, by omega, k + 1, xs1, q1, rfl, hS, (by omega), (f1), (by rw [f2, he]), rfl⟩
    · refine WC.exit ?_
      refine WC.seq ?_
      refine WC.region ?_
      obtain rfl : k = 256 := by omega
      have hxl : xs.length = 256 := by have := congrArg List.length hx; simpa [lmT] using this
      skip
      refine WL.r 1 rfl ?_
      refine WL.call rfl rfl (list_spec (t := t1) (m := m1) (xs := xs) (q := q) (rs := lmR (y % 1000 + 1)) (ht := (by assumption)) (hp := (lm_perm hx)) (hs := (lmR_srt _)) (hS := hS)) rfl ?_
      clear hS; rintro _ w ⟨a1, c1, rfl, hS⟩
      replace hS : St g (Own 48 2 (nhs (lmR (y % 1000 + 1))) a1 c1 :: cel t1 #[.map (some m1)] 62 :: blk m1 (.map (mE (List.map nbK xs)) q) :: Buns nbF xs :: L) w := hS
      refine WL.r 1 rfl ?_
      refine WL.nil ?_
      as_aux_lemma =>
        refine WC.seq ?_
        refine WC.seq ?_
        refine WC.region ?_
        have hrl := lmR_len (y % 1000 + 1); have hnl := nhs_len (lmR (y % 1000 + 1)); have he2 := set_fll (R := List.map ab xs) (s := more) (y := y % 1000 + 1) more_ok (by omega) (by rw [hx]; exact lm_more _ _) (by rw [List.length_map]; exact hxl)
        refine WL.r 4 rfl ?_
        refine WL.reb 42 (.bool false) (congrArg Value.bool (decide_eq_false ((fun h => h (by omega))))) ?_
        refine WL.ung rfl rfl rfl ?_
        refine WL.r 1 rfl ?_
        refine WL.ung rfl rfl rfl ?_
        refine WL.r 1 rfl ?_
        refine WL.ung rfl rfl rfl ?_
        refine WL.call rfl rfl (set_any (t := t1) (m := m1) (xs := xs) (q := q) (s := ⟨#[109, 111, 114, 101]⟩) (x := 0) (y := (y % 1000) + 1) (ht := (by assumption)) (hS := (hS.sel 4 [1, 1, 1, 0] rfl))) rfl ?_
        clear hS; rintro _ w ⟨xs1, q1, rfl, hS, f1, f2⟩
        replace hS : St g (cel t1 #[.map (some m1)] 62 :: blk m1 (.map (mE (List.map nbK xs1)) q1) :: Buns nbF xs1 :: Own 48 2 (nhs (lmR (y % 1000 + 1))) a1 c1 :: L) w := hS
        refine WL.ung rfl rfl rfl ?_
        refine WL.r 2 rfl ?_
        refine WL.nil ?_
        refine WC.ifF rfl (decide_eq_false ((fun h => h (by show (setM (List.map ab xs) more 0 (y % 1000 + 1)).1 = 2; rw [he2])))) ?_
        refine WC.skip ?_
        refine WC.seq ?_
        refine WC.seq ?_
        refine WC.region ?_
        refine WL.r 1 rfl ?_
        refine WL.nil ?_
        refine WC.block ?_
        refine WC.loop [0, 1, 5, 8, 9] (fun kM vs w => ∃ (k : Nat), vs = [.int .i64 n, .int .u64 ((y % 1000) + 1), .pointer (some ⟨t1, 0, none⟩), .slice a1 (List.length (nhs (lmR (y % 1000 + 1)))) c1, .int .i64 (k : Int)] ∧ St g (cel t1 #[.map (some m1)] 62 :: blk m1 (.map (mE (List.map nbK xs1)) q1) :: Buns nbF xs1 :: Own 48 2 (nhs (lmR (y % 1000 + 1))) a1 c1 :: L) w ∧ (k ≤ 256) ∧ (256 - k) = kM) (256 - 0) ⟨0, rfl, hS, (by omega), rfl⟩ ?_
        clear hS; rintro _ _ w j ⟨k, rfl, hS, hk, rfl⟩
        refine WC.seq ?_
        refine WC.seq ?_
        refine WC.region ?_
        refine WL.r 4 rfl ?_
        refine WL.nil ?_
        as_aux_lemma =>
          refine WC.ifP rfl (fun cd2 => ?_) (fun cd2 => ?_)
          · refine WC.skip ?_
            refine WC.seq ?_
            refine WC.block ?_
            refine WC.seq ?_
            refine WC.plan [([0, 1, 4, 6, 2, 3], some (5, [0, 1, 2, 3, 6])), ([7, 8], none)] (by kernel_rfl) (by kernel_rfl) ?_
            refine WQ.r 4 rfl ?_
            refine WQ.ix rfl rfl (i := (k : Int)) (k) el_49 rfl rfl (by omega) (len_of (nhs_at (lmR_at (show k < 256 by omega)))) (hS.rdO 3 rfl (nhs_at (lmR_at (show k < 256 by omega)))).1 ?_
            refine WQ.ldC rfl rfl [.string (dig (k : Int)), .int .u64 (y % 1000 + 1)] ag_48 rfl (hS.rdO 3 rfl (nhs_at (lmR_at (show k < 256 by omega)))).2 ?_
            refine WQ.nil ?_
            intro m2
            replace hS := hS.drewN m2; generalize hwm2 : World.drewN _ _ = w at *; clear hwm2
            refine WL.call rfl rfl (digits_spec (i := (k : Int)) (hi := (by omega)) (hS := hS)) rfl ?_
            clear hS; rintro _ w ⟨rfl, hS⟩
            replace hS : St g (cel t1 #[.map (some m1)] 62 :: blk m1 (.map (mE (List.map nbK xs1)) q1) :: Buns nbF xs1 :: Own 48 2 (nhs (lmR (y % 1000 + 1))) a1 c1 :: L) w := hS
            refine WL.nil ?_
            refine ⟨by exact ⟨RQ.pure rfl rfl rfl rfl, RQ.pure rfl rfl rfl rfl, RQ.ix rfl rfl (i := (k : Int)) (k) el_49 rfl rfl (by omega) (len_of (nhs_at (lmR_at (show k < 256 by omega)))) (hS.rdO 3 rfl (nhs_at (lmR_at (show k < 256 by omega)))).1 rfl rfl, RQ.ldC rfl rfl [.string (dig (k : Int)), .int .u64 (y % 1000 + 1)] ag_48 rfl (hS.rdO 3 rfl (nhs_at (lmR_at (show k < 256 by omega)))).2 rfl rfl, RQ.pure rfl rfl rfl rfl⟩, ?_⟩
            refine WQ.build rfl rfl (cs := [.string (dig (k : Int)), .int .u64 ((y % 1000) + 1)]) zv_48 rfl rfl ?_
            refine WQ.neS rfl rfl eq_48 (xs := [.string (dig (k : Int)), .int .u64 (y % 1000 + 1)]) (ys := [.string (dig (k : Int)), .int .u64 ((y % 1000) + 1)]) rfl rfl rfl rfl ?_
            refine WQ.prop 62 rfl (bnot (band (dd _) (dd _))) ?_
            refine WQ.nil ?_
            intro m3
            replace hS := hS.drewN m3; generalize hwm3 : World.drewN _ _ = w at *; clear hwm3
            refine WC.ifF rfl (decide_eq_false ((fun h => h ⟨rfl, rfl⟩))) ?_
            refine WC.skip ?_
            as_aux_lemma =>
              refine WC.region ?_
              refine WL.r 2 rfl ?_
              refine WL.nw 53 rfl (w64 (by omega)) ?_
              refine WL.r 1 rfl ?_
              refine WL.nil ?_
              exact ⟨_, by omega, k + 1, rfl, hS, (by omega), rfl⟩
          · refine WC.exit ?_
            refine WC.seq ?_
            refine WC.region ?_
            have hx1 : List.map ab xs1 = lmT 256 (y % 1000 + 1) := by rw [f2]; exact (congrArg Prod.snd he2).trans hx
            obtain ⟨r0, hr0, hr1⟩ := lm_in (h := y % 1000 + 1) (r := n % 256) (by omega)
            have e1 := set_put (R := List.map ab xs1) (s := dig (n % 256)) (x := y % 1000 + 1) (y := y % 1000 + 1 + 1) (dig_ok (by omega)) (by omega) (by rw [hx1]; exact hr0) hr1
            refine WL.r 1 rfl ?_
            refine WL.call rfl rfl (mod_spec (k := n) (n := 256) (hk := (by assumption)) (hn := (by omega)) (hS := hS)) rfl ?_
            clear hS; rintro _ w ⟨rfl, hS⟩
            replace hS : St g (cel t1 #[.map (some m1)] 62 :: blk m1 (.map (mE (List.map nbK xs1)) q1) :: Buns nbF xs1 :: Own 48 2 (nhs (lmR (y % 1000 + 1))) a1 c1 :: L) w := hS
            refine WL.r 1 rfl ?_
            refine WL.nil ?_
            refine WC.seq ?_
            refine WC.region ?_
            refine WL.r 2 rfl ?_
            refine WL.call rfl rfl (digits_spec (i := n % 256) (hi := (by omega)) (hS := hS)) rfl ?_
            clear hS; rintro _ w ⟨rfl, hS⟩
            replace hS : St g (cel t1 #[.map (some m1)] 62 :: blk m1 (.map (mE (List.map nbK xs1)) q1) :: Buns nbF xs1 :: Own 48 2 (nhs (lmR (y % 1000 + 1))) a1 c1 :: L) w := hS
            refine WL.r 3 rfl ?_
            refine WL.nw 70 rfl (wu64 (by omega)) ?_
            refine WL.call rfl rfl (set_any (t := t1) (m := m1) (xs := xs1) (q := q1) (s := dig (n % 256)) (x := (y % 1000) + 1) (y := ((y % 1000) + 1) + 1) (ht := (by assumption)) (hS := hS)) rfl ?_
            clear hS; rintro _ w ⟨xs2, q2, rfl, hS, f3, f4⟩
            replace hS : St g (cel t1 #[.map (some m1)] 62 :: blk m1 (.map (mE (List.map nbK xs2)) q2) :: Buns nbF xs2 :: Own 48 2 (nhs (lmR (y % 1000 + 1))) a1 c1 :: L) w := hS
            refine WL.r 1 rfl ?_
            refine WL.nil ?_
            as_aux_lemma =>
              refine WC.seq ?_
              refine WC.region ?_
              have hx2 : List.map ab xs2 = chgM (List.map ab xs1) (dig (n % 256)) (y % 1000 + 1) (y % 1000 + 1 + 1) := by rw [f4, e1]
              have hr2 : fnd (List.map ab xs2) (dig (n % 256)) = some (r0.1, y % 1000 + 1 + 1, lgn r0.2.2 (y % 1000 + 1)) := by rw [hx2, fnd_chg, hx1, hr0]; rfl
              have e3 := set_rem (R := List.map ab xs2) (s := dig (n % 256)) (x := y % 1000 + 1 + 1) (dig_ok (by omega)) (by omega) hr2 rfl
              refine WL.r 2 rfl ?_
              refine WL.call rfl rfl (digits_spec (i := n % 256) (hi := (by omega)) (hS := hS)) rfl ?_
              clear hS; rintro _ w ⟨rfl, hS⟩
              replace hS : St g (cel t1 #[.map (some m1)] 62 :: blk m1 (.map (mE (List.map nbK xs2)) q2) :: Buns nbF xs2 :: Own 48 2 (nhs (lmR (y % 1000 + 1))) a1 c1 :: L) w := hS
              refine WL.r 2 rfl ?_
              refine WL.nw 76 rfl (wu64 (by omega)) ?_
              refine WL.call rfl rfl (set_any (t := t1) (m := m1) (xs := xs2) (q := q2) (s := dig (n % 256)) (x := ((y % 1000) + 1) + 1) (y := 0) (ht := (by assumption)) (hS := hS)) rfl ?_
              clear hS; rintro _ w ⟨xs3, q3, rfl, hS, f5, f6⟩
              replace hS : St g (cel t1 #[.map (some m1)] 62 :: blk m1 (.map (mE (List.map nbK xs3)) q3) :: Buns nbF xs3 :: Own 48 2 (nhs (lmR (y % 1000 + 1))) a1 c1 :: L) w := hS
              refine WL.r 1 rfl ?_
              refine WL.nil ?_
              refine WC.seq ?_
              refine WC.region ?_
              have hx3 : List.map ab xs3 = remM (List.map ab xs2) (dig (n % 256)) := by rw [f6, e3]
              have hl3 := rem_len f3.uniq hr2
              have hl2 : xs2.length = 256 := by have := congrArg List.length hx2; simpa [chgM, hx1, lmT] using this
              have e4 := set_new (R := List.map ab xs3) (s := more) (y := y % 1000 + 1) more_ok (by omega) (by rw [hx3, hx2, hx1]; exact rem_none (chg_none (lm_more _ _))) (by rw [hx3]; omega)
              refine WL.r 3 rfl ?_
              refine WL.reb 80 (.bool true) (congrArg Value.bool (decide_eq_true ((by rw [e1])))) ?_
              refine WL.ung rfl rfl rfl ?_
              refine WL.r 1 rfl ?_
              refine WL.ung rfl rfl rfl ?_
              refine WL.r 3 rfl ?_
              refine WL.reb 84 (.bool true) (congrArg Value.bool (decide_eq_true ((by rw [e3])))) ?_
              refine WL.ung rfl rfl rfl ?_
              refine WL.r 1 rfl ?_
              refine WL.ung rfl rfl rfl ?_
              refine WL.r 1 rfl ?_
              refine WL.ung rfl rfl rfl ?_
              refine WL.call rfl rfl (set_any (t := t1) (m := m1) (xs := xs3) (q := q3) (s := ⟨#[109, 111, 114, 101]⟩) (x := 0) (y := (y % 1000) + 1) (ht := (by assumption)) (hS := hS)) rfl ?_
              clear hS; rintro _ w ⟨xs4, q4, rfl, hS, f7, f8⟩
              replace hS : St g (cel t1 #[.map (some m1)] 62 :: blk m1 (.map (mE (List.map nbK xs4)) q4) :: Buns nbF xs4 :: Own 48 2 (nhs (lmR (y % 1000 + 1))) a1 c1 :: L) w := hS
              refine WL.ung rfl rfl rfl ?_
              refine WL.r 3 rfl ?_
              refine WL.reb 90 (.bool true) (congrArg Value.bool (decide_eq_true ((congrArg Prod.fst e4)))) ?_
              refine WL.ung rfl rfl rfl ?_
              refine WL.r 1 rfl ?_
              refine WL.ung rfl rfl rfl ?_
              refine WL.call rfl rfl (list_spec (t := t1) (m := m1) (xs := xs4) (q := q4) (rs := Classical.choose (srt_ex (List.map nh xs4))) (ht := (by assumption)) (hp := (Classical.choose_spec (srt_ex (List.map nh xs4))).1) (hs := (Classical.choose_spec (srt_ex (List.map nh xs4))).2) (hS := hS)) rfl ?_
              clear hS; rintro _ w ⟨a2, c2, rfl, hS⟩
              replace hS : St g (Own 48 2 (nhs (Classical.choose (srt_ex (List.map nh xs4)))) a2 c2 :: cel t1 #[.map (some m1)] 62 :: blk m1 (.map (mE (List.map nbK xs4)) q4) :: Buns nbF xs4 :: Own 48 2 (nhs (lmR (y % 1000 + 1))) a1 c1 :: L) w := hS
              refine WL.ung rfl rfl rfl ?_
              refine WL.r 1 rfl ?_
              refine WL.ung rfl rfl rfl ?_
              refine WL.r 3 rfl ?_
              refine WL.nil ?_
              as_aux_lemma =>
                refine WC.ret ?_
                refine ⟨[.bool (decide ((List.length (nhs (Classical.choose (srt_ex (List.map nh xs4)))) : Int) = 256))], rfl, ?_⟩
                replace hS := (hS.sel 5 [] rfl)
                exact ⟨congrArg Value.bool (decide_eq_true (by
                have h9 := congrArg List.length f8
                rw [show setM (List.map ab xs3) ⟨#[109, 111, 114, 101]⟩ 0 (y % 1000 + 1) = _ from e4, List.length_append, hx3, List.length_map] at h9
                simp only [List.length_cons, List.length_nil] at h9
                rw [nhs_len, (Classical.choose_spec (srt_ex (List.map nh xs4))).1.length_eq, List.length_map]; omega)), hS⟩
end Go.Proofs.YtenkmjbghbegfaaDoor
