/-
  The law AncestryNew, walked.
  Conditions: the arguments lie in their kinds.
-/
import Derived.Test.YtjoilgpleaemcaaA6
namespace Go.Proofs.Ytjoilgpleaemcaa
open Go Go.V

set_option maxHeartbeats 1000000 in
set_option maxRecDepth 8192 in
theorem law_new_bad {g w : World} {L : List HP} (cap small : Int) (hc : ¬ (1 ≤ cap ∧ cap ≤ 4096)) (hs : -9223372036854775808 ≤ small ∧ small ≤ 9223372036854775807) (hS : St g (L) w) :
    Sp Try.prog 3 [.int .i64 cap, .int .i64 small] w (fun v w' => v = .bool true ∧ St g (L) w') := by
  refine Sp.enter Try.func3 rfl (by kernel_rfl) (by kernel_rfl) ?_
  have _ := hs
  refine WC.seq ?_
  refine WC.region ?_
  refine WL.r 1 rfl ?_
  refine WL.nil ?_
  refine WC.seq ?_
  refine WC.region ?_
  refine WL.r 1 rfl ?_
  refine WL.call rfl rfl (new_bad (cap := cap) (hc := hc) (hS := hS)) rfl ?_
  clear hS; rintro _ w ⟨rfl, hS⟩
  replace hS : St g (L) w := hS
  refine WL.r 5 rfl ?_
  refine WL.nil ?_
  refine WC.seq ?_
  refine WC.seq ?_
  refine WC.region ?_
  have hb : (bif decide (1 ≤ cap) then decide (cap ≤ 4096) else false) = false := by by_cases h1 : 1 ≤ cap; rw [decide_eq_true h1]; exact decide_eq_false (fun h2 => hc ⟨h1, h2⟩); rw [decide_eq_false h1]; rfl
  refine WL.r 4 rfl ?_
  refine WL.rG 20 rfl (fun j => ?_)
  refine WL.prop 43 rfl (bor (bor (bnot (dv _)) (band (dd _) (dd _))) (bnot (dv _))) ?_
  refine WL.nil ?_
  refine WC.ifF rfl (decide_eq_false ((by rw [hb]; decide))) ?_
  refine WC.skip ?_
  refine WC.seq ?_
  refine WC.region ?_
  refine WL.r 1 rfl ?_
  refine WL.call rfl rfl (mod_spec (k := small) (n := 20) (hk := (by assumption)) (hn := (by omega)) (hS := hS)) rfl ?_
  clear hS; rintro _ w ⟨rfl, hS⟩
  replace hS : St g (L) w := hS
  refine WL.r 1 rfl ?_
  refine WL.nw 46 rfl (w64 (by omega)) ?_
  refine WL.r 1 rfl ?_
  refine WL.nil ?_
  as_aux_lemma =>
    refine WC.seq ?_
    refine WC.region ?_
    refine WL.r 1 rfl ?_
    refine WL.call rfl rfl (new_ok (cap := 1 + (small % 20)) (hc := (by omega)) (hS := hS)) rfl ?_
    clear hS; rintro _ w ⟨p1, m1, rfl, hS⟩
    replace hS : St g (cel p1 #[.int .i64 (1 + (small % 20)), .int .i64 0, .map (some m1)] 60 :: blk m1 (.map (mE (List.map vK [])) 0) :: Shs vF [] :: L) w := hS
    refine WL.r 5 rfl ?_
    refine WL.nil ?_
    refine WC.seq ?_
    refine WC.seq ?_
    refine WC.region ?_
    have hI0 : GI [] 0 (1 + small % 20) 0 := ⟨GOk.nil, fun _ h => (by cases h), by decide, by omega⟩
    refine WL.call rfl rfl (awake_spec   (hS := hS)) rfl ?_
    clear hS; rintro _ w ⟨rfl, hS⟩
    replace hS : St g (cel p1 #[.int .i64 (1 + (small % 20)), .int .i64 0, .map (some m1)] 60 :: blk m1 (.map (mE (List.map vK [])) 0) :: Shs vF [] :: L) w := hS
    refine WL.r 2 rfl ?_
    refine WL.ung rfl rfl rfl ?_
    refine WL.r 1 rfl ?_
    refine WL.ung rfl rfl rfl ?_
    refine WL.r 3 rfl ?_
    refine WL.reb 58 (.bool false) (congrArg Value.bool (decide_eq_false (by decide))) ?_
    refine WL.ung rfl rfl rfl ?_
    refine WL.r 1 rfl ?_
    refine WL.ung rfl rfl rfl ?_
    refine WL.r 3 rfl ?_
    refine WL.ung rfl rfl rfl ?_
    refine WL.r 1 rfl ?_
    refine WL.ung rfl rfl rfl ?_
    refine WL.call rfl rfl (vers_spec (p := p1) (m := m1) (cap := 1 + (small % 20)) (last := 0) (xs := []) (q := 0) (ss := []) (ht := (by first | assumption | exact (GI.ok (by assumption)).toVOk)) (hp := (List.Perm.refl _)) (hs := List.Pairwise.nil) (hS := hS)) rfl ?_
    clear hS; rintro _ w ⟨a1, c1, rfl, hS⟩
    replace hS : St g (Own 3 1 (i64s []) a1 c1 :: cel p1 #[.int .i64 (1 + (small % 20)), .int .i64 0, .map (some m1)] 60 :: blk m1 (.map (mE (List.map vK [])) 0) :: Shs vF [] :: L) w := hS
    refine WL.ung rfl rfl rfl ?_
    refine WL.r 1 rfl ?_
    refine WL.ung rfl rfl rfl ?_
    refine WL.r 2 rfl ?_
    refine WL.nil ?_
    as_aux_lemma =>
      refine WC.ifF rfl (decide_eq_false ((fun h => h rfl))) ?_
      refine WC.skip ?_
      refine WC.seq ?_
      refine WC.seq ?_
      refine WC.region ?_
      refine WL.r 1 rfl ?_
      refine WL.nil ?_
      refine WC.block ?_
      refine WC.loop [7, 8, 10] (fun kM vs w => ∃ (k : Nat) (xs : List VN) (q : Nat) (la : Int), vs = [.int .i64 (1 + (small % 20)), .pointer (some ⟨p1, 0, none⟩), .int .i64 ((k : Int) + 1)] ∧ St g (Own 3 1 (i64s []) a1 c1 :: cel p1 #[.int .i64 (1 + small % 20), .int .i64 la, .map (some m1)] 60 :: blk m1 (.map (mE (List.map vK xs)) q) :: Shs vF xs :: L) w ∧ ((k : Int) ≤ 1 + small % 20) ∧ (la = (k : Int)) ∧ (GI xs q (1 + small % 20) la) ∧ (xs.length = k) ∧ (100 - k) = kM) (100 - 0) ⟨0, [], 0, 0, rfl, hS, (by omega), (rfl), (hI0), (rfl), rfl⟩ ?_
      clear hS; rintro _ _ w j ⟨k, xs, q, la, rfl, hS, hk, hla, hI, hl, rfl⟩
      refine WC.seq ?_
      refine WC.seq ?_
      refine WC.region ?_
      refine WL.r 3 rfl ?_
      refine WL.nil ?_
      refine WC.ifP rfl (fun cd1 => ?_) (fun cd1 => ?_)
      · refine WC.skip ?_
        refine WC.seq ?_
        refine WC.block ?_
        refine WC.seq ?_
        refine WC.region ?_
        have he := addE_ok (xs := xs) (cap := 1 + small % 20) (ps := []) (by decide) (fun _ h => by cases h) (by omega)
        refine WL.r 1 rfl ?_
        replace hS := hS.nilS 3 1
        replace hS : St g (Sh 3 1 (i64s []) none 0 :: Own 3 1 (i64s []) a1 c1 :: cel p1 #[.int .i64 (1 + small % 20), .int .i64 la, .map (some m1)] 60 :: blk m1 (.map (mE (List.map vK xs)) q) :: Shs vF xs :: L) w := hS
        refine WL.call rfl rfl (add_spec (p := p1) (m := m1) (cap := 1 + small % 20) (last := la) (xs := xs) (q := q) (ps := []) (a := none) (c := 0) (hI := (by assumption)) (hla := (by omega)) (hS := (hS.sel 5 [0, 1, 1, 1, 0] rfl))) rfl ?_
        clear hS; rintro _ w ⟨xs1, q1, last1, rfl, hS, f1, f2⟩
        replace hS : St g (Sh 3 1 (i64s []) none 0 :: cel p1 #[.int .i64 (1 + small % 20), .int .i64 last1, .map (some m1)] 60 :: blk m1 (.map (mE (List.map vK xs1)) q1) :: Shs vF xs1 :: Own 3 1 (i64s []) a1 c1 :: L) w := hS
        refine WL.r 5 rfl ?_
        refine WL.nil ?_
        as_aux_lemma =>
          refine WC.seq ?_
          refine WC.region ?_
          refine WL.r 2 rfl ?_
          refine WL.rG 5 rfl (fun j => ?_)
          refine WL.prop 84 rfl (bor (dd _) (dd _)) ?_
          refine WL.nil ?_
          refine WC.ifF rfl (decide_eq_false ((fun h => h.elim (fun h => h he) (fun h => h (by rw [addV, if_pos he, hla]))))) ?_
          refine WC.skip ?_
          refine WC.region ?_
          refine WL.r 2 rfl ?_
          refine WL.nw 72 rfl (w64 (by omega)) ?_
          refine WL.r 1 rfl ?_
          refine WL.nil ?_
          exact ⟨_, by omega, k + 1, xs1, q1, last1, rfl, (hS.sel 5 [4, 1, 1, 1] rfl), (by omega), (by obtain ⟨e9, _, _⟩ := f2.vw hI.le he; omega), (f1), (by obtain ⟨_, l9, _⟩ := f2.vw hI.le he; omega), rfl⟩
      · refine WC.exit ?_
        refine WC.seq ?_
        refine WC.region ?_
        have he2 := addE_full (xs := xs) (cap := 1 + small % 20) (ps := []) (by decide) (fun _ h => by cases h) (by omega)
        refine WL.r 1 rfl ?_
        replace hS := hS.nilS 3 1
        replace hS : St g (Sh 3 1 (i64s []) none 0 :: Own 3 1 (i64s []) a1 c1 :: cel p1 #[.int .i64 (1 + small % 20), .int .i64 la, .map (some m1)] 60 :: blk m1 (.map (mE (List.map vK xs)) q) :: Shs vF xs :: L) w := hS
        refine WL.call rfl rfl (add_spec (p := p1) (m := m1) (cap := 1 + small % 20) (last := la) (xs := xs) (q := q) (ps := []) (a := none) (c := 0) (hI := (by assumption)) (hla := (by omega)) (hS := (hS.sel 5 [0, 1, 1, 1, 0] rfl))) rfl ?_
        clear hS; rintro _ w ⟨xs1, q1, last1, rfl, hS, f1, f2⟩
        replace hS : St g (Sh 3 1 (i64s []) none 0 :: cel p1 #[.int .i64 (1 + small % 20), .int .i64 last1, .map (some m1)] 60 :: blk m1 (.map (mE (List.map vK xs1)) q1) :: Shs vF xs1 :: Own 3 1 (i64s []) a1 c1 :: L) w := hS
        refine WL.r 5 rfl ?_
        refine WL.nil ?_
        as_aux_lemma =>
          refine WC.seq ?_
          refine WC.region ?_
          obtain ⟨ss, hK⟩ := keys_ex f1.ok.uniq; have hxs : xs1 = xs := by rcases f2 with ⟨_, h, _⟩ | ⟨h, _⟩; exact h; rw [he2] at h; cases h
          refine WL.r 3 rfl ?_
          refine WL.reb 92 (.bool true) (congrArg Value.bool (decide_eq_true ((by rw [addV, he2]; rfl)))) ?_
          refine WL.ung rfl rfl rfl ?_
          refine WL.r 1 rfl ?_
          refine WL.ung rfl rfl rfl ?_
          refine WL.r 3 rfl ?_
          refine WL.reb 96 (.bool true) (congrArg Value.bool (decide_eq_true (he2))) ?_
          refine WL.ung rfl rfl rfl ?_
          refine WL.r 1 rfl ?_
          refine WL.ung rfl rfl rfl ?_
          refine WL.call rfl rfl (vers_spec (p := p1) (m := m1) (cap := 1 + small % 20) (last := last1) (xs := xs1) (q := q1) (ss := ss) (ht := (by first | assumption | exact (GI.ok (by assumption)).toVOk)) (hp := hK.perm) (hs := hK.le) (hS := (hS.sel 4 [1, 1, 1, 0] rfl))) rfl ?_
          clear hS; rintro _ w ⟨a2, c2, rfl, hS⟩
          replace hS : St g (Own 3 1 (i64s ss) a2 c2 :: cel p1 #[.int .i64 (1 + small % 20), .int .i64 last1, .map (some m1)] 60 :: blk m1 (.map (mE (List.map vK xs1)) q1) :: Shs vF xs1 :: Sh 3 1 (i64s []) none 0 :: Own 3 1 (i64s []) a1 c1 :: L) w := hS
          refine WL.ung rfl rfl rfl ?_
          refine WL.r 1 rfl ?_
          refine WL.ung rfl rfl rfl ?_
          refine WL.r 1 rfl ?_
          refine WL.ung rfl rfl rfl ?_
          refine WL.r 3 rfl ?_
          refine WL.nil ?_
          refine WC.ret ?_
          refine ⟨[.bool (decide ((List.length (i64s ss) : Int) = (1 + (small % 20))))], rfl, ?_⟩
          replace hS := (hS.sel 6 [] rfl)
          exact ⟨congrArg Value.bool (decide_eq_true (by rw [i64s_len, keys_len hK.perm, hxs]; omega)), hS⟩
set_option maxHeartbeats 1000000 in
set_option maxRecDepth 8192 in
theorem law_new_ok {g w : World} {L : List HP} (cap small : Int) (hc : 1 ≤ cap ∧ cap ≤ 4096) (hs : -9223372036854775808 ≤ small ∧ small ≤ 9223372036854775807) (hS : St g (L) w) :
    Sp Try.prog 3 [.int .i64 cap, .int .i64 small] w (fun v w' => v = .bool true ∧ St g (L) w') := by
  refine Sp.enter Try.func3 rfl (by kernel_rfl) (by kernel_rfl) ?_
  have _ := hs
  refine WC.seq ?_
  refine WC.region ?_
  refine WL.r 1 rfl ?_
  refine WL.nil ?_
  refine WC.seq ?_
  refine WC.region ?_
  refine WL.r 1 rfl ?_
  refine WL.call rfl rfl (new_ok (cap := cap) (hc := hc) (hS := hS)) rfl ?_
  clear hS; rintro _ w ⟨p1, m1, rfl, hS⟩
  replace hS : St g (cel p1 #[.int .i64 cap, .int .i64 0, .map (some m1)] 60 :: blk m1 (.map (mE (List.map vK [])) 0) :: Shs vF [] :: L) w := hS
  refine WL.r 5 rfl ?_
  refine WL.nil ?_
  refine WC.seq ?_
  refine WC.seq ?_
  refine WC.region ?_
  have hb : (bif decide (1 ≤ cap) then decide (cap ≤ 4096) else false) = true := by rw [decide_eq_true hc.1]; exact decide_eq_true hc.2
  refine WL.r 4 rfl ?_
  refine WL.rG 20 rfl (fun j => ?_)
  refine WL.prop 43 rfl (bor (bor (bnot (dv _)) (band (dd _) (dd _))) (bnot (dv _))) ?_
  refine WL.nil ?_
  refine WC.ifF rfl (decide_eq_false ((by rw [hb]; simp))) ?_
  refine WC.skip ?_
  refine WC.seq ?_
  refine WC.region ?_
  refine WL.r 1 rfl ?_
  refine WL.call rfl rfl (mod_spec (k := small) (n := 20) (hk := (by assumption)) (hn := (by omega)) (hS := hS)) rfl ?_
  clear hS; rintro _ w ⟨rfl, hS⟩
  replace hS : St g (cel p1 #[.int .i64 cap, .int .i64 0, .map (some m1)] 60 :: blk m1 (.map (mE (List.map vK [])) 0) :: Shs vF [] :: L) w := hS
  refine WL.r 1 rfl ?_
  refine WL.nw 46 rfl (w64 (by omega)) ?_
  refine WL.r 1 rfl ?_
  refine WL.nil ?_
  as_aux_lemma =>
    refine WC.seq ?_
    refine WC.region ?_
    refine WL.r 1 rfl ?_
    refine WL.call rfl rfl (new_ok (cap := 1 + (small % 20)) (hc := (by omega)) (hS := hS)) rfl ?_
    clear hS; rintro _ w ⟨p2, m2, rfl, hS⟩
    replace hS : St g (cel p2 #[.int .i64 (1 + (small % 20)), .int .i64 0, .map (some m2)] 60 :: blk m2 (.map (mE (List.map vK [])) 0) :: Shs vF [] :: cel p1 #[.int .i64 cap, .int .i64 0, .map (some m1)] 60 :: blk m1 (.map (mE (List.map vK [])) 0) :: Shs vF [] :: L) w := hS
    refine WL.r 5 rfl ?_
    refine WL.nil ?_
    refine WC.seq ?_
    refine WC.seq ?_
    refine WC.region ?_
    have hI0 : GI [] 0 (1 + small % 20) 0 := ⟨GOk.nil, fun _ h => (by cases h), by decide, by omega⟩
    refine WL.call rfl rfl (awake_spec   (hS := hS)) rfl ?_
    clear hS; rintro _ w ⟨rfl, hS⟩
    replace hS : St g (cel p2 #[.int .i64 (1 + (small % 20)), .int .i64 0, .map (some m2)] 60 :: blk m2 (.map (mE (List.map vK [])) 0) :: Shs vF [] :: cel p1 #[.int .i64 cap, .int .i64 0, .map (some m1)] 60 :: blk m1 (.map (mE (List.map vK [])) 0) :: Shs vF [] :: L) w := hS
    refine WL.r 2 rfl ?_
    refine WL.ung rfl rfl rfl ?_
    refine WL.r 1 rfl ?_
    refine WL.ung rfl rfl rfl ?_
    refine WL.r 3 rfl ?_
    refine WL.reb 58 (.bool false) (congrArg Value.bool (decide_eq_false (by decide))) ?_
    refine WL.ung rfl rfl rfl ?_
    refine WL.r 1 rfl ?_
    refine WL.ung rfl rfl rfl ?_
    refine WL.r 3 rfl ?_
    refine WL.ung rfl rfl rfl ?_
    refine WL.r 1 rfl ?_
    refine WL.ung rfl rfl rfl ?_
    refine WL.call rfl rfl (vers_spec (p := p2) (m := m2) (cap := 1 + (small % 20)) (last := 0) (xs := []) (q := 0) (ss := []) (ht := (by first | assumption | exact (GI.ok (by assumption)).toVOk)) (hp := (List.Perm.refl _)) (hs := List.Pairwise.nil) (hS := hS)) rfl ?_
    clear hS; rintro _ w ⟨a1, c1, rfl, hS⟩
    replace hS : St g (Own 3 1 (i64s []) a1 c1 :: cel p2 #[.int .i64 (1 + (small % 20)), .int .i64 0, .map (some m2)] 60 :: blk m2 (.map (mE (List.map vK [])) 0) :: Shs vF [] :: cel p1 #[.int .i64 cap, .int .i64 0, .map (some m1)] 60 :: blk m1 (.map (mE (List.map vK [])) 0) :: Shs vF [] :: L) w := hS
    refine WL.ung rfl rfl rfl ?_
    refine WL.r 1 rfl ?_
    refine WL.ung rfl rfl rfl ?_
    refine WL.r 2 rfl ?_
    refine WL.nil ?_
    as_aux_lemma =>
      refine WC.ifF rfl (decide_eq_false ((fun h => h rfl))) ?_
      refine WC.skip ?_
      refine WC.seq ?_
      refine WC.seq ?_
      refine WC.region ?_
      refine WL.r 1 rfl ?_
      refine WL.nil ?_
      refine WC.block ?_
      refine WC.loop [7, 8, 10] (fun kM vs w => ∃ (k : Nat) (xs : List VN) (q : Nat) (la : Int), vs = [.int .i64 (1 + (small % 20)), .pointer (some ⟨p2, 0, none⟩), .int .i64 ((k : Int) + 1)] ∧ St g (Own 3 1 (i64s []) a1 c1 :: cel p2 #[.int .i64 (1 + small % 20), .int .i64 la, .map (some m2)] 60 :: blk m2 (.map (mE (List.map vK xs)) q) :: Shs vF xs :: cel p1 #[.int .i64 cap, .int .i64 0, .map (some m1)] 60 :: blk m1 (.map (mE (List.map vK [])) 0) :: Shs vF [] :: L) w ∧ ((k : Int) ≤ 1 + small % 20) ∧ (la = (k : Int)) ∧ (GI xs q (1 + small % 20) la) ∧ (xs.length = k) ∧ (100 - k) = kM) (100 - 0) ⟨0, [], 0, 0, rfl, hS, (by omega), (rfl), (hI0), (rfl), rfl⟩ ?_
      clear hS; rintro _ _ w j ⟨k, xs, q, la, rfl, hS, hk, hla, hI, hl, rfl⟩
      refine WC.seq ?_
      refine WC.seq ?_
      refine WC.region ?_
      refine WL.r 3 rfl ?_
      refine WL.nil ?_
      refine WC.ifP rfl (fun cd1 => ?_) (fun cd1 => ?_)
      · refine WC.skip ?_
        refine WC.seq ?_
        refine WC.block ?_
        refine WC.seq ?_
        refine WC.region ?_
        have he := addE_ok (xs := xs) (cap := 1 + small % 20) (ps := []) (by decide) (fun _ h => by cases h) (by omega)
        refine WL.r 1 rfl ?_
        replace hS := hS.nilS 3 1
        replace hS : St g (Sh 3 1 (i64s []) none 0 :: Own 3 1 (i64s []) a1 c1 :: cel p2 #[.int .i64 (1 + small % 20), .int .i64 la, .map (some m2)] 60 :: blk m2 (.map (mE (List.map vK xs)) q) :: Shs vF xs :: cel p1 #[.int .i64 cap, .int .i64 0, .map (some m1)] 60 :: blk m1 (.map (mE (List.map vK [])) 0) :: Shs vF [] :: L) w := hS
        refine WL.call rfl rfl (add_spec (p := p2) (m := m2) (cap := 1 + small % 20) (last := la) (xs := xs) (q := q) (ps := []) (a := none) (c := 0) (hI := (by assumption)) (hla := (by omega)) (hS := (hS.sel 5 [0, 1, 1, 1, 0] rfl))) rfl ?_
        clear hS; rintro _ w ⟨xs1, q1, last1, rfl, hS, f1, f2⟩
        replace hS : St g (Sh 3 1 (i64s []) none 0 :: cel p2 #[.int .i64 (1 + small % 20), .int .i64 last1, .map (some m2)] 60 :: blk m2 (.map (mE (List.map vK xs1)) q1) :: Shs vF xs1 :: Own 3 1 (i64s []) a1 c1 :: cel p1 #[.int .i64 cap, .int .i64 0, .map (some m1)] 60 :: blk m1 (.map (mE (List.map vK [])) 0) :: Shs vF [] :: L) w := hS
        refine WL.r 5 rfl ?_
        refine WL.nil ?_
        as_aux_lemma =>
          refine WC.seq ?_
          refine WC.region ?_
          refine WL.r 2 rfl ?_
          refine WL.rG 5 rfl (fun j => ?_)
          refine WL.prop 84 rfl (bor (dd _) (dd _)) ?_
          refine WL.nil ?_
          refine WC.ifF rfl (decide_eq_false ((fun h => h.elim (fun h => h he) (fun h => h (by rw [addV, if_pos he, hla]))))) ?_
          refine WC.skip ?_
          refine WC.region ?_
          refine WL.r 2 rfl ?_
          refine WL.nw 72 rfl (w64 (by omega)) ?_
          refine WL.r 1 rfl ?_
          refine WL.nil ?_
          exact ⟨_, by omega, k + 1, xs1, q1, last1, rfl, (hS.sel 5 [4, 1, 1, 1] rfl), (by omega), (by obtain ⟨e9, _, _⟩ := f2.vw hI.le he; omega), (f1), (by obtain ⟨_, l9, _⟩ := f2.vw hI.le he; omega), rfl⟩
      · refine WC.exit ?_
        refine WC.seq ?_
        refine WC.region ?_
        have he2 := addE_full (xs := xs) (cap := 1 + small % 20) (ps := []) (by decide) (fun _ h => by cases h) (by omega)
        refine WL.r 1 rfl ?_
        replace hS := hS.nilS 3 1
        replace hS : St g (Sh 3 1 (i64s []) none 0 :: Own 3 1 (i64s []) a1 c1 :: cel p2 #[.int .i64 (1 + small % 20), .int .i64 la, .map (some m2)] 60 :: blk m2 (.map (mE (List.map vK xs)) q) :: Shs vF xs :: cel p1 #[.int .i64 cap, .int .i64 0, .map (some m1)] 60 :: blk m1 (.map (mE (List.map vK [])) 0) :: Shs vF [] :: L) w := hS
        refine WL.call rfl rfl (add_spec (p := p2) (m := m2) (cap := 1 + small % 20) (last := la) (xs := xs) (q := q) (ps := []) (a := none) (c := 0) (hI := (by assumption)) (hla := (by omega)) (hS := (hS.sel 5 [0, 1, 1, 1, 0] rfl))) rfl ?_
        clear hS; rintro _ w ⟨xs1, q1, last1, rfl, hS, f1, f2⟩
        replace hS : St g (Sh 3 1 (i64s []) none 0 :: cel p2 #[.int .i64 (1 + small % 20), .int .i64 last1, .map (some m2)] 60 :: blk m2 (.map (mE (List.map vK xs1)) q1) :: Shs vF xs1 :: Own 3 1 (i64s []) a1 c1 :: cel p1 #[.int .i64 cap, .int .i64 0, .map (some m1)] 60 :: blk m1 (.map (mE (List.map vK [])) 0) :: Shs vF [] :: L) w := hS
        refine WL.r 5 rfl ?_
        refine WL.nil ?_
        as_aux_lemma =>
          refine WC.seq ?_
          refine WC.region ?_
          obtain ⟨ss, hK⟩ := keys_ex f1.ok.uniq; have hxs : xs1 = xs := by rcases f2 with ⟨_, h, _⟩ | ⟨h, _⟩; exact h; rw [he2] at h; cases h
          refine WL.r 3 rfl ?_
          refine WL.reb 92 (.bool true) (congrArg Value.bool (decide_eq_true ((by rw [addV, he2]; rfl)))) ?_
          refine WL.ung rfl rfl rfl ?_
          refine WL.r 1 rfl ?_
          refine WL.ung rfl rfl rfl ?_
          refine WL.r 3 rfl ?_
          refine WL.reb 96 (.bool true) (congrArg Value.bool (decide_eq_true (he2))) ?_
          refine WL.ung rfl rfl rfl ?_
          refine WL.r 1 rfl ?_
          refine WL.ung rfl rfl rfl ?_
          refine WL.call rfl rfl (vers_spec (p := p2) (m := m2) (cap := 1 + small % 20) (last := last1) (xs := xs1) (q := q1) (ss := ss) (ht := (by first | assumption | exact (GI.ok (by assumption)).toVOk)) (hp := hK.perm) (hs := hK.le) (hS := (hS.sel 4 [1, 1, 1, 0] rfl))) rfl ?_
          clear hS; rintro _ w ⟨a2, c2, rfl, hS⟩
          replace hS : St g (Own 3 1 (i64s ss) a2 c2 :: cel p2 #[.int .i64 (1 + small % 20), .int .i64 last1, .map (some m2)] 60 :: blk m2 (.map (mE (List.map vK xs1)) q1) :: Shs vF xs1 :: Sh 3 1 (i64s []) none 0 :: Own 3 1 (i64s []) a1 c1 :: cel p1 #[.int .i64 cap, .int .i64 0, .map (some m1)] 60 :: blk m1 (.map (mE (List.map vK [])) 0) :: Shs vF [] :: L) w := hS
          refine WL.ung rfl rfl rfl ?_
          refine WL.r 1 rfl ?_
          refine WL.ung rfl rfl rfl ?_
          refine WL.r 1 rfl ?_
          refine WL.ung rfl rfl rfl ?_
          refine WL.r 3 rfl ?_
          refine WL.nil ?_
          refine WC.ret ?_
          refine ⟨[.bool (decide ((List.length (i64s ss) : Int) = (1 + (small % 20))))], rfl, ?_⟩
          replace hS := (hS.sel 9 [] rfl)
          exact ⟨congrArg Value.bool (decide_eq_true (by rw [i64s_len, keys_len hK.perm, hxs]; omega)), hS⟩
theorem law_new {g w : World} {L : List HP} (cap small : Int) (hs : -9223372036854775808 ≤ small ∧ small ≤ 9223372036854775807) (hS : St g (L) w) :
    Sp Try.prog 3 [.int .i64 cap, .int .i64 small] w (fun v w' => v = .bool true ∧ St g (L) w') := by
  by_cases hc : 1 ≤ cap ∧ cap ≤ 4096
  · exact law_new_ok cap small hc hs hS
  · exact law_new_bad cap small hc hs hS
end Go.Proofs.Ytjoilgpleaemcaa
