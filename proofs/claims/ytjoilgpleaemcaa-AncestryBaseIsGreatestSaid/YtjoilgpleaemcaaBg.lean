/-
  The law AncestryBaseIsGreatest, walked.
  Conditions: the arguments lie in their kinds.
-/
import Derived.Test.YtjoilgpleaemcaaA7
import Derived.Test.YtjoilgpleaemcaaGx
namespace Go.Proofs.Ytjoilgpleaemcaa
open Go Go.V

set_option maxHeartbeats 2000000 in
set_option maxRecDepth 8192 in
theorem law_bases {g w : World} {L : List HP} (cap : Int) (ls : List Cg) (a : Option Addr) (c : Nat) (x y : Int) (hc : Ir cap) (hls : ∀ z ∈ ls, CgOk z ∧ z.ps.length ≤ maxLen) (hx : Ir x) (hy : Ir y) (hS : St g (Sh 38 3 (enG ls) a c :: Shs cgF ls :: L) w) :
    Sp Try.prog 8 [.int .i64 cap, .slice a (List.length (enG ls)) c, .int .i64 x, .int .i64 y] w (fun v w' => v = .bool true ∧ St g (L) w') := by
  refine Sp.enter Try.func8 rfl (by kernel_rfl) (by kernel_rfl) ?_
  refine WC.seq ?_
  refine WC.region ?_
  refine WL.r 1 rfl ?_
  refine WL.nil ?_
  refine WC.seq ?_
  refine WC.region ?_
  refine WL.r 1 rfl ?_
  refine WL.call rfl rfl (mod_spec (k := cap) (n := 40) (hk := hc) (hn := (by omega)) (hS := hS)) rfl ?_
  clear hS; rintro _ w ⟨rfl, hS⟩
  replace hS : St g (Sh 38 3 (enG ls) a c :: Shs cgF ls :: L) w := hS
  refine WL.r 1 rfl ?_
  refine WL.nw 19 rfl (w64 (by omega)) ?_
  refine WL.r 1 rfl ?_
  refine WL.call rfl rfl (play_spec (n := 1 + (cap % 40)) (ls := ls) (a := a) (c := c) (hn := (by omega)) (hls := hls) (hS := hS)) rfl ?_
  clear hS; rintro _ w ⟨p1, m1, xs1, q1, last1, rfl, hS, f1, f2, f3⟩
  replace hS : St g (cel p1 #[.int .i64 (1 + (cap % 40)), .int .i64 last1, .map (some m1)] 60 :: blk m1 (.map (mE (List.map vK xs1)) q1) :: Shs vF xs1 :: Sh 38 3 (enG ls) a c :: Shs cgF ls :: L) w := hS
  refine WL.r 5 rfl ?_
  refine WL.nil ?_
  refine WC.seq ?_
  refine WC.seq ?_
  refine WC.region ?_
  refine WL.call rfl rfl (awake_spec   (hS := hS)) rfl ?_
  clear hS; rintro _ w ⟨rfl, hS⟩
  replace hS : St g (cel p1 #[.int .i64 (1 + (cap % 40)), .int .i64 last1, .map (some m1)] 60 :: blk m1 (.map (mE (List.map vK xs1)) q1) :: Shs vF xs1 :: Sh 38 3 (enG ls) a c :: Shs cgF ls :: L) w := hS
  refine WL.r 2 rfl ?_
  refine WL.ung rfl rfl rfl ?_
  refine WL.r 1 rfl ?_
  refine WL.ung rfl rfl rfl ?_
  refine WL.r 2 rfl ?_
  refine WL.nil ?_
  as_aux_lemma =>
    refine WC.ifF rfl rfl ?_
    refine WC.skip ?_
    refine WC.seq ?_
    refine WC.region ?_
    have hI := f1; have hG := f1.ok; have hla := f1.la
    have ex := Int.emod_nonneg x (show last1 + 1 ≠ 0 by omega); have ex2 := Int.emod_lt_of_pos x (show 0 < last1 + 1 by omega); have ey := Int.emod_nonneg y (show last1 + 1 ≠ 0 by omega); have ey2 := Int.emod_lt_of_pos y (show 0 < last1 + 1 by omega)
    refine WL.r 3 rfl ?_
    refine WL.nw 32 rfl (w64 (by omega)) ?_
    refine WL.call rfl rfl (mod_spec (k := x) (n := last1 + 1) (hk := hx) (hn := (by omega)) (hS := hS)) rfl ?_
    clear hS; rintro _ w ⟨rfl, hS⟩
    replace hS : St g (cel p1 #[.int .i64 (1 + (cap % 40)), .int .i64 last1, .map (some m1)] 60 :: blk m1 (.map (mE (List.map vK xs1)) q1) :: Shs vF xs1 :: Sh 38 3 (enG ls) a c :: Shs cgF ls :: L) w := hS
    refine WL.r 3 rfl ?_
    refine WL.nw 36 rfl (w64 (by omega)) ?_
    refine WL.call rfl rfl (mod_spec (k := y) (n := last1 + 1) (hk := hy) (hn := (by omega)) (hS := hS)) rfl ?_
    clear hS; rintro _ w ⟨rfl, hS⟩
    replace hS : St g (cel p1 #[.int .i64 (1 + (cap % 40)), .int .i64 last1, .map (some m1)] 60 :: blk m1 (.map (mE (List.map vK xs1)) q1) :: Shs vF xs1 :: Sh 38 3 (enG ls) a c :: Shs cgF ls :: L) w := hS
    refine WL.r 2 rfl ?_
    refine WL.nil ?_
    refine WC.seq ?_
    refine WC.region ?_
    refine WL.r 2 rfl ?_
    refine WL.call rfl rfl (anc_spec (p := p1) (m := m1) (cap := 1 + (cap % 40)) (last := last1) (xs := xs1) (q := q1) (n := x % (last1 + 1)) (hu := (by first | assumption | exact (GI.ok (by assumption)).uniq)) (hl := (Nat.le_trans (hG.lenA _) (by decide))) (hS := hS)) rfl ?_
    clear hS; rintro _ w ⟨a1, c1, rfl, hS⟩
    replace hS : St g (Own 3 1 (i64s (abG xs1 (x % (last1 + 1)))) a1 c1 :: cel p1 #[.int .i64 (1 + (cap % 40)), .int .i64 last1, .map (some m1)] 60 :: blk m1 (.map (mE (List.map vK xs1)) q1) :: Shs vF xs1 :: Sh 38 3 (enG ls) a c :: Shs cgF ls :: L) w := hS
    refine WL.r 2 rfl ?_
    refine WL.call rfl rfl (anc_spec (p := p1) (m := m1) (cap := 1 + (cap % 40)) (last := last1) (xs := xs1) (q := q1) (n := y % (last1 + 1)) (hu := (by first | assumption | exact (GI.ok (by assumption)).uniq)) (hl := (Nat.le_trans (hG.lenA _) (by decide))) (hS := (hS.sel 4 [1, 1, 1, 0] rfl))) rfl ?_
    clear hS; rintro _ w ⟨a2, c2, rfl, hS⟩
    replace hS : St g (Own 3 1 (i64s (abG xs1 (y % (last1 + 1)))) a2 c2 :: cel p1 #[.int .i64 (1 + (cap % 40)), .int .i64 last1, .map (some m1)] 60 :: blk m1 (.map (mE (List.map vK xs1)) q1) :: Shs vF xs1 :: Own 3 1 (i64s (abG xs1 (x % (last1 + 1)))) a1 c1 :: Sh 38 3 (enG ls) a c :: Shs cgF ls :: L) w := hS
    refine WL.r 2 rfl ?_
    refine WL.nil ?_
    as_aux_lemma =>
      refine WC.seq ?_
      refine WC.region ?_
      have hpl := i64s_len (abG xs1 (x % (last1 + 1))); have hql := i64s_len (abG xs1 (y % (last1 + 1))); have hp4 := hG.lenA (x % (last1 + 1)); have hq4 := hG.lenA (y % (last1 + 1))
      replace hS := (hS.at_ 0 rfl).share
      replace hS : St g (Sh 3 1 (i64s (abG xs1 (y % (last1 + 1)))) a2 c2 :: cel p1 #[.int .i64 (1 + (cap % 40)), .int .i64 last1, .map (some m1)] 60 :: blk m1 (.map (mE (List.map vK xs1)) q1) :: Shs vF xs1 :: Own 3 1 (i64s (abG xs1 (x % (last1 + 1)))) a1 c1 :: Sh 38 3 (enG ls) a c :: Shs cgF ls :: L) w := hS
      refine WL.r 1 rfl ?_
      refine WL.nil ?_
      refine WC.seq ?_
      refine WC.seq ?_
      refine WC.region ?_
      refine WL.r 1 rfl ?_
      refine WL.nil ?_
      refine WC.cut [2, 3, 8, 9, 13] (fun vs w => ∃ (we : Int), vs = [.int .i64 (x % (last1 + 1)), .int .i64 (y % (last1 + 1)), .bool false, .pointer (some ⟨p1, 0, none⟩), .int .i64 we] ∧ St g (Sh 3 1 (i64s (abG xs1 (y % (last1 + 1)))) a2 c2 :: cel p1 #[.int .i64 (1 + (cap % 40)), .int .i64 last1, .map (some m1)] 60 :: blk m1 (.map (mE (List.map vK xs1)) q1) :: Shs vF xs1 :: Own 3 1 (i64s (abG xs1 (x % (last1 + 1)))) a1 c1 :: Sh 38 3 (enG ls) a c :: Shs cgF ls :: L) w ∧ (we = baseG xs1 (x % (last1 + 1)) (y % (last1 + 1)))) ?_ ?_
      · refine WC.block ?_
        refine WC.loop [2, 3, 8, 9, 11, 12, 13, 14] (fun kM vs w => ∃ (i : Nat) (wt : Int), vs = [.int .i64 (x % (last1 + 1)), .int .i64 (y % (last1 + 1)), .bool false, .pointer (some ⟨p1, 0, none⟩), .slice a1 (List.length (i64s (abG xs1 (x % (last1 + 1))))) c1, .slice a2 (List.length (i64s (abG xs1 (y % (last1 + 1))))) c2, .int .i64 wt, .int .i64 (i : Int)] ∧ St g (Sh 3 1 (i64s (abG xs1 (y % (last1 + 1)))) a2 c2 :: cel p1 #[.int .i64 (1 + (cap % 40)), .int .i64 last1, .map (some m1)] 60 :: blk m1 (.map (mE (List.map vK xs1)) q1) :: Shs vF xs1 :: Own 3 1 (i64s (abG xs1 (x % (last1 + 1)))) a1 c1 :: Sh 38 3 (enG ls) a c :: Shs cgF ls :: L) w ∧ (i ≤ (abG xs1 (x % (last1 + 1))).length) ∧ (wt = if liveG xs1 (x % (last1 + 1)) = true ∧ liveG xs1 (y % (last1 + 1)) = true then gcm (List.take i (abG xs1 (x % (last1 + 1)))) (abG xs1 (y % (last1 + 1))) else 0) ∧ ((abG xs1 (x % (last1 + 1))).length - i) = kM) ((List.length (abG xs1 (x % (last1 + 1)))) - 0) ⟨0, 0, rfl, hS, (Nat.zero_le _), (by simp [gcm]), rfl⟩ ?_
        clear hS; rintro _ _ w j ⟨i, wt, rfl, hS, hi, hw, rfl⟩
        refine WC.seq ?_
        refine WC.seq ?_
        refine WC.region ?_
        refine WL.r 5 rfl ?_
        by_cases cg1 : (i : Int) < (List.length (i64s (abG xs1 (x % (last1 + 1)))) : Int)
        · refine WL.reb 48 (.bool true) (congrArg Value.bool (decide_eq_true cg1)) ?_
          refine WL.ung rfl rfl rfl ?_
          refine WL.r 1 rfl ?_
          refine WL.ung rfl rfl rfl ?_
          refine WL.r 1 rfl ?_
          refine WL.ung rfl rfl rfl ?_
          refine WL.call rfl rfl (live_spec (p := p1) (m := m1) (cap := 1 + (cap % 40)) (last := last1) (xs := xs1) (q := q1) (n := x % (last1 + 1)) (hu := (by first | assumption | exact (GI.ok (by assumption)).uniq)) (hS := (hS.sel 4 [1, 1, 1, 0] rfl))) rfl ?_
          clear hS; rintro _ w ⟨rfl, hS⟩
          replace hS : St g (cel p1 #[.int .i64 (1 + (cap % 40)), .int .i64 last1, .map (some m1)] 60 :: blk m1 (.map (mE (List.map vK xs1)) q1) :: Shs vF xs1 :: Sh 3 1 (i64s (abG xs1 (y % (last1 + 1)))) a2 c2 :: Own 3 1 (i64s (abG xs1 (x % (last1 + 1)))) a1 c1 :: Sh 38 3 (enG ls) a c :: Shs cgF ls :: L) w := hS
          refine WL.r 2 rfl ?_
          by_cases cg2 : (liveG xs1 (x % (last1 + 1))) = true
          · refine WL.reb 53 (.bool true) (congrArg Value.bool cg2) ?_
            refine WL.ung rfl rfl rfl ?_
            refine WL.r 1 rfl ?_
            refine WL.ung rfl rfl rfl ?_
            refine WL.r 1 rfl ?_
            refine WL.ung rfl rfl rfl ?_
            refine WL.call rfl rfl (live_spec (p := p1) (m := m1) (cap := 1 + (cap % 40)) (last := last1) (xs := xs1) (q := q1) (n := y % (last1 + 1)) (hu := (by first | assumption | exact (GI.ok (by assumption)).uniq)) (hS := hS)) rfl ?_
            clear hS; rintro _ w ⟨rfl, hS⟩
            replace hS : St g (cel p1 #[.int .i64 (1 + (cap % 40)), .int .i64 last1, .map (some m1)] 60 :: blk m1 (.map (mE (List.map vK xs1)) q1) :: Shs vF xs1 :: Sh 3 1 (i64s (abG xs1 (y % (last1 + 1)))) a2 c2 :: Own 3 1 (i64s (abG xs1 (x % (last1 + 1)))) a1 c1 :: Sh 38 3 (enG ls) a c :: Shs cgF ls :: L) w := hS
            refine WL.r 1 rfl ?_
            refine WL.nil ?_
            as_aux_lemma =>
              refine WC.if_ rfl (fun cd1 => ?_) (fun cd1 => ?_)
              · refine WC.skip ?_
                refine WC.seq ?_
                refine WC.block ?_
                refine WC.seq ?_
                refine WC.region ?_
                obtain ⟨u, hu⟩ : ∃ u, (abG xs1 (x % (last1 + 1)))[i]? = some u := ⟨_, List.getElem?_eq_getElem (by omega)⟩
                refine WL.r 3 rfl ?_
                refine WL.ix rfl rfl (i := (i : Int)) (i) el_28 rfl rfl (by omega) (len_of (i64s_at hu)) (hS.rdO 4 rfl (i64s_at hu)).1 ?_
                refine WL.run 1 [.int .i64 u] rfl (by exact (hS.rdO 4 rfl (i64s_at hu)).2 0 _ rfl) ?_
                refine WL.call rfl rfl (in_spec (ls := abG xs1 (y % (last1 + 1))) (a := a2) (c := c2) (n := u) (hl := (by omega)) (hS := (hS.sel 4 [3, 0, 0, 0] rfl))) rfl ?_
                clear hS; rintro _ w ⟨rfl, hS⟩
                replace hS : St g (Sh 3 1 (i64s (abG xs1 (y % (last1 + 1)))) a2 c2 :: cel p1 #[.int .i64 (1 + (cap % 40)), .int .i64 last1, .map (some m1)] 60 :: blk m1 (.map (mE (List.map vK xs1)) q1) :: Shs vF xs1 :: Own 3 1 (i64s (abG xs1 (x % (last1 + 1)))) a1 c1 :: Sh 38 3 (enG ls) a c :: Shs cgF ls :: L) w := hS
                refine WL.nil ?_
                refine WC.ifP rfl (fun cd2 => ?_) (fun cd2 => ?_)
                · refine WC.region ?_
                  refine WL.r 3 rfl ?_
                  refine WL.ix rfl rfl (i := (i : Int)) (i) el_28 rfl rfl (by omega) (len_of (i64s_at hu)) (hS.rdO 4 rfl (i64s_at hu)).1 ?_
                  refine WL.run 3 [.int .i64 u] rfl (by exact (hS.rdO 4 rfl (i64s_at hu)).2 0 _ rfl) ?_
                  refine WL.nil ?_
                  refine WC.region ?_
                  refine WL.r 2 rfl ?_
                  refine WL.nw 59 rfl (w64 (by omega)) ?_
                  refine WL.r 1 rfl ?_
                  refine WL.nil ?_
                  exact ⟨_, by omega, i + 1, max wt u, rfl, hS, (by omega), (by rw [hw, if_pos ⟨cg2, cd1⟩, if_pos ⟨cg2, cd1⟩, gcm_snoc (hG.ascA _) (fun z hz => (abG_pos hG _ z hz).1) hu cd2]), rfl⟩
                · refine WC.skip ?_
                  refine WC.region ?_
                  refine WL.r 2 rfl ?_
                  refine WL.nw 59 rfl (w64 (by omega)) ?_
                  refine WL.r 1 rfl ?_
                  refine WL.nil ?_
                  exact ⟨_, by omega, i + 1, wt, rfl, hS, (by omega), (by rw [hw, if_pos ⟨cg2, cd1⟩, if_pos ⟨cg2, cd1⟩, gcm_skip hu cd2]), rfl⟩
              · refine WC.exit ?_
                exact ⟨wt, rfl, (hS.sel 4 [3, 0, 0, 0] rfl), (by rw [hw, baseG, if_neg (fun h => by rw [cd1] at h; cases h.2), if_neg (fun h => by rw [cd1] at h; cases h.2)])⟩
          · refine WL.reb 53 (.bool false) (congrArg Value.bool (Bool.eq_false_iff.2 cg2)) ?_
            refine WL.skp rfl rfl rfl rfl ?_
            refine WL.skp rfl rfl rfl rfl ?_
            refine WL.skp rfl rfl rfl rfl ?_
            refine WL.r 1 rfl ?_
            refine WL.nil ?_
            as_aux_lemma =>
              refine WC.ifF rfl rfl ?_
              refine WC.exit ?_
              exact ⟨wt, rfl, (hS.sel 4 [3, 0, 0, 0] rfl), (by rw [hw, baseG, if_neg (fun h => cg2 h.1), if_neg (fun h => cg2 h.1)])⟩
        · refine WL.reb 48 (.bool false) (congrArg Value.bool (decide_eq_false cg1)) ?_
          refine WL.skp rfl rfl rfl rfl ?_
          refine WL.skp rfl rfl rfl rfl ?_
          refine WL.skp rfl rfl rfl rfl ?_
          refine WL.r 2 rfl ?_
          refine WL.skp rfl rfl rfl rfl ?_
          refine WL.skp rfl rfl rfl rfl ?_
          refine WL.skp rfl rfl rfl rfl ?_
          refine WL.r 1 rfl ?_
          refine WL.nil ?_
          as_aux_lemma =>
            refine WC.ifF rfl rfl ?_
            refine WC.exit ?_
            exact ⟨wt, rfl, hS, (by rw [hw, List.take_of_length_le (by omega)]; rfl)⟩
      clear hS; rintro _ w j ⟨we, rfl, hS, hwe⟩
      refine WC.seq ?_
      refine WC.region ?_
      refine WL.r 3 rfl ?_
      refine WL.call rfl rfl (base_spec (p := p1) (m := m1) (cap := 1 + (cap % 40)) (last := last1) (xs := xs1) (q := q1) (n1 := x % (last1 + 1)) (n2 := y % (last1 + 1)) (hG := (by first | assumption | exact GI.ok (by assumption))) (hS := (hS.sel 4 [1, 1, 1, 0] rfl))) rfl ?_
      clear hS; rintro _ w ⟨rfl, hS⟩
      replace hS : St g (cel p1 #[.int .i64 (1 + (cap % 40)), .int .i64 last1, .map (some m1)] 60 :: blk m1 (.map (mE (List.map vK xs1)) q1) :: Shs vF xs1 :: Sh 3 1 (i64s (abG xs1 (y % (last1 + 1)))) a2 c2 :: Own 3 1 (i64s (abG xs1 (x % (last1 + 1)))) a1 c1 :: Sh 38 3 (enG ls) a c :: Shs cgF ls :: L) w := hS
      refine WL.r 1 rfl ?_
      refine WL.nil ?_
      refine WC.seq ?_
      refine WC.region ?_
      refine WL.r 4 rfl ?_
      refine WL.reb 79 (.bool true) (congrArg Value.bool (decide_eq_true (hwe.symm))) ?_
      refine WL.ung rfl rfl rfl ?_
      refine WL.r 1 rfl ?_
      refine WL.ung rfl rfl rfl ?_
      refine WL.r 1 rfl ?_
      refine WL.ung rfl rfl rfl ?_
      refine WL.r 1 rfl ?_
      refine WL.ung rfl rfl rfl ?_
      refine WL.call rfl rfl (base_spec (p := p1) (m := m1) (cap := 1 + (cap % 40)) (last := last1) (xs := xs1) (q := q1) (n1 := y % (last1 + 1)) (n2 := x % (last1 + 1)) (hG := (by first | assumption | exact GI.ok (by assumption))) (hS := hS)) rfl ?_
      clear hS; rintro _ w ⟨rfl, hS⟩
      replace hS : St g (cel p1 #[.int .i64 (1 + (cap % 40)), .int .i64 last1, .map (some m1)] 60 :: blk m1 (.map (mE (List.map vK xs1)) q1) :: Shs vF xs1 :: Sh 3 1 (i64s (abG xs1 (y % (last1 + 1)))) a2 c2 :: Own 3 1 (i64s (abG xs1 (x % (last1 + 1)))) a1 c1 :: Sh 38 3 (enG ls) a c :: Shs cgF ls :: L) w := hS
      refine WL.ung rfl rfl rfl ?_
      refine WL.r 1 rfl ?_
      refine WL.ung rfl rfl rfl ?_
      refine WL.r 3 rfl ?_
      refine WL.reb 87 (.bool true) (congrArg Value.bool (decide_eq_true ((by rw [base_comm hG, hwe])))) ?_
      refine WL.ung rfl rfl rfl ?_
      refine WL.r 1 rfl ?_
      refine WL.ung rfl rfl rfl ?_
      refine WL.r 1 rfl ?_
      refine WL.ung rfl rfl rfl ?_
      refine WL.r 1 rfl ?_
      by_cases cg1 : (baseG xs1 (x % (last1 + 1)) (y % (last1 + 1))) = 0
      · refine WL.reb 90 (.bool true) (congrArg Value.bool (decide_eq_true cg1)) ?_
        refine WL.skp rfl rfl rfl rfl ?_
        refine WL.skp rfl rfl rfl rfl ?_
        refine WL.skp rfl rfl rfl rfl ?_
        refine WL.ung rfl rfl rfl ?_
        refine WL.r 3 rfl ?_
        refine WL.ung rfl rfl rfl ?_
        refine WL.r 1 rfl ?_
        refine WL.ung rfl rfl rfl ?_
        refine WL.r 1 rfl ?_
        refine WL.ung rfl rfl rfl ?_
        refine WL.call rfl rfl (live_spec (p := p1) (m := m1) (cap := 1 + (cap % 40)) (last := last1) (xs := xs1) (q := q1) (n := x % (last1 + 1)) (hu := (by first | assumption | exact (GI.ok (by assumption)).uniq)) (hS := hS)) rfl ?_
        clear hS; rintro _ w ⟨rfl, hS⟩
        replace hS : St g (cel p1 #[.int .i64 (1 + (cap % 40)), .int .i64 last1, .map (some m1)] 60 :: blk m1 (.map (mE (List.map vK xs1)) q1) :: Shs vF xs1 :: Sh 3 1 (i64s (abG xs1 (y % (last1 + 1)))) a2 c2 :: Own 3 1 (i64s (abG xs1 (x % (last1 + 1)))) a1 c1 :: Sh 38 3 (enG ls) a c :: Shs cgF ls :: L) w := hS
        refine WL.ung rfl rfl rfl ?_
        refine WL.r 1 rfl ?_
        refine WL.ung rfl rfl rfl ?_
        refine WL.r 1 rfl ?_
        by_cases cg2 : (! (liveG xs1 (x % (last1 + 1)))) = true
        · refine WL.reb 101 (.bool true) (congrArg Value.bool cg2) ?_
          refine WL.skp rfl rfl rfl rfl ?_
          refine WL.skp rfl rfl rfl rfl ?_
          refine WL.skp rfl rfl rfl rfl ?_
          refine WL.skp rfl rfl rfl rfl ?_
          refine WL.skp rfl rfl rfl rfl ?_
          refine WL.skp rfl rfl rfl rfl ?_
          refine WL.ung rfl rfl rfl ?_
          refine WL.r 3 rfl ?_
          refine WL.nil ?_
          as_aux_lemma =>
            refine WC.ret ?_
            refine ⟨[.bool true], rfl, ?_⟩
            replace hS := (hS.sel 7 [] rfl)
            first | exact ⟨rfl, hS⟩ | exact ⟨congrArg Value.bool (decide_eq_true (base_self hG (by simpa using NONE))), hS⟩
        · refine WL.reb 101 (.bool false) (congrArg Value.bool (Bool.eq_false_iff.2 cg2)) ?_
          refine WL.ung rfl rfl rfl ?_
          refine WL.r 1 rfl ?_
          refine WL.ung rfl rfl rfl ?_
          refine WL.r 1 rfl ?_
          refine WL.ung rfl rfl rfl ?_
          refine WL.r 1 rfl ?_
          refine WL.ung rfl rfl rfl ?_
          refine WL.call rfl rfl (base_spec (p := p1) (m := m1) (cap := 1 + (cap % 40)) (last := last1) (xs := xs1) (q := q1) (n1 := x % (last1 + 1)) (n2 := x % (last1 + 1)) (hG := (by first | assumption | exact GI.ok (by assumption))) (hS := hS)) rfl ?_
          clear hS; rintro _ w ⟨rfl, hS⟩
          replace hS : St g (cel p1 #[.int .i64 (1 + (cap % 40)), .int .i64 last1, .map (some m1)] 60 :: blk m1 (.map (mE (List.map vK xs1)) q1) :: Shs vF xs1 :: Sh 3 1 (i64s (abG xs1 (y % (last1 + 1)))) a2 c2 :: Own 3 1 (i64s (abG xs1 (x % (last1 + 1)))) a1 c1 :: Sh 38 3 (enG ls) a c :: Shs cgF ls :: L) w := hS
          refine WL.ung rfl rfl rfl ?_
          refine WL.r 1 rfl ?_
          refine WL.ung rfl rfl rfl ?_
          refine WL.r 1 rfl ?_
          refine WL.ung rfl rfl rfl ?_
          refine WL.r 3 rfl ?_
          refine WL.nil ?_
          as_aux_lemma =>
            refine WC.ret ?_
            refine ⟨[.bool (decide ((baseG xs1 (x % (last1 + 1)) (x % (last1 + 1))) = (x % (last1 + 1))))], rfl, ?_⟩
            replace hS := (hS.sel 7 [] rfl)
            first | exact ⟨rfl, hS⟩ | exact ⟨congrArg Value.bool (decide_eq_true (base_self hG (by simpa using cg2))), hS⟩
      · refine WL.reb 90 (.bool false) (congrArg Value.bool (decide_eq_false cg1)) ?_
        refine WL.ung rfl rfl rfl ?_
        refine WL.r 1 rfl ?_
        refine WL.ung rfl rfl rfl ?_
        refine WL.r 1 rfl ?_
        refine WL.ung rfl rfl rfl ?_
        refine WL.call rfl rfl (pre_spec (p := p1) (m := m1) (cap := 1 + (cap % 40)) (last := last1) (xs := xs1) (q := q1) (n := baseG xs1 (x % (last1 + 1)) (y % (last1 + 1))) (hu := (by first | assumption | exact (GI.ok (by assumption)).uniq)) (hS := hS)) rfl ?_
        clear hS; rintro _ w ⟨rfl, hS⟩
        replace hS : St g (cel p1 #[.int .i64 (1 + (cap % 40)), .int .i64 last1, .map (some m1)] 60 :: blk m1 (.map (mE (List.map vK xs1)) q1) :: Shs vF xs1 :: Sh 3 1 (i64s (abG xs1 (y % (last1 + 1)))) a2 c2 :: Own 3 1 (i64s (abG xs1 (x % (last1 + 1)))) a1 c1 :: Sh 38 3 (enG ls) a c :: Shs cgF ls :: L) w := hS
        refine WL.ung rfl rfl rfl ?_
        refine WL.r 3 rfl ?_
        refine WL.reb 96 (.bool true) (congrArg Value.bool ((base_pre hG cg1))) ?_
        refine WL.ung rfl rfl rfl ?_
        refine WL.r 1 rfl ?_
        refine WL.ung rfl rfl rfl ?_
        refine WL.r 1 rfl ?_
        refine WL.ung rfl rfl rfl ?_
        refine WL.call rfl rfl (live_spec (p := p1) (m := m1) (cap := 1 + (cap % 40)) (last := last1) (xs := xs1) (q := q1) (n := x % (last1 + 1)) (hu := (by first | assumption | exact (GI.ok (by assumption)).uniq)) (hS := hS)) rfl ?_
        clear hS; rintro _ w ⟨rfl, hS⟩
        replace hS : St g (cel p1 #[.int .i64 (1 + (cap % 40)), .int .i64 last1, .map (some m1)] 60 :: blk m1 (.map (mE (List.map vK xs1)) q1) :: Shs vF xs1 :: Sh 3 1 (i64s (abG xs1 (y % (last1 + 1)))) a2 c2 :: Own 3 1 (i64s (abG xs1 (x % (last1 + 1)))) a1 c1 :: Sh 38 3 (enG ls) a c :: Shs cgF ls :: L) w := hS
        refine WL.ung rfl rfl rfl ?_
        refine WL.r 1 rfl ?_
        refine WL.ung rfl rfl rfl ?_
        refine WL.r 1 rfl ?_
        by_cases cg2 : (! (liveG xs1 (x % (last1 + 1)))) = true
        · refine WL.reb 101 (.bool true) (congrArg Value.bool cg2) ?_
          refine WL.skp rfl rfl rfl rfl ?_
          refine WL.skp rfl rfl rfl rfl ?_
          refine WL.skp rfl rfl rfl rfl ?_
          refine WL.skp rfl rfl rfl rfl ?_
          refine WL.skp rfl rfl rfl rfl ?_
          refine WL.skp rfl rfl rfl rfl ?_
          refine WL.ung rfl rfl rfl ?_
          refine WL.r 3 rfl ?_
          refine WL.nil ?_
          as_aux_lemma =>
            refine WC.ret ?_
            refine ⟨[.bool true], rfl, ?_⟩
            replace hS := (hS.sel 7 [] rfl)
            first | exact ⟨rfl, hS⟩ | exact ⟨congrArg Value.bool (decide_eq_true (base_self hG (by simpa using cg1))), hS⟩
        · refine WL.reb 101 (.bool false) (congrArg Value.bool (Bool.eq_false_iff.2 cg2)) ?_
          refine WL.ung rfl rfl rfl ?_
          refine WL.r 1 rfl ?_
          refine WL.ung rfl rfl rfl ?_
          refine WL.r 1 rfl ?_
          refine WL.ung rfl rfl rfl ?_
          refine WL.r 1 rfl ?_
          refine WL.ung rfl rfl rfl ?_
          refine WL.call rfl rfl (base_spec (p := p1) (m := m1) (cap := 1 + (cap % 40)) (last := last1) (xs := xs1) (q := q1) (n1 := x % (last1 + 1)) (n2 := x % (last1 + 1)) (hG := (by first | assumption | exact GI.ok (by assumption))) (hS := hS)) rfl ?_
          clear hS; rintro _ w ⟨rfl, hS⟩
          replace hS : St g (cel p1 #[.int .i64 (1 + (cap % 40)), .int .i64 last1, .map (some m1)] 60 :: blk m1 (.map (mE (List.map vK xs1)) q1) :: Shs vF xs1 :: Sh 3 1 (i64s (abG xs1 (y % (last1 + 1)))) a2 c2 :: Own 3 1 (i64s (abG xs1 (x % (last1 + 1)))) a1 c1 :: Sh 38 3 (enG ls) a c :: Shs cgF ls :: L) w := hS
          refine WL.ung rfl rfl rfl ?_
          refine WL.r 1 rfl ?_
          refine WL.ung rfl rfl rfl ?_
          refine WL.r 1 rfl ?_
          refine WL.ung rfl rfl rfl ?_
          refine WL.r 3 rfl ?_
          refine WL.nil ?_
          as_aux_lemma =>
            refine WC.ret ?_
            refine ⟨[.bool (decide ((baseG xs1 (x % (last1 + 1)) (x % (last1 + 1))) = (x % (last1 + 1))))], rfl, ?_⟩
            replace hS := (hS.sel 7 [] rfl)
            first | exact ⟨rfl, hS⟩ | exact ⟨congrArg Value.bool (decide_eq_true (base_self hG (by simpa using cg2))), hS⟩
end Go.Proofs.Ytjoilgpleaemcaa
