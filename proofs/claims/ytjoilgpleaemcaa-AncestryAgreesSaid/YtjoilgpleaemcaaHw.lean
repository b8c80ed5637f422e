/-
  The reference's history: Live, above, numbers, common, present.
  Conditions: parents are smaller.
-/
import Derived.Test.YtjoilgpleaemcaaA7
import Derived.Test.YtjoilgpleaemcaaHr
namespace Go.Proofs.Ytjoilgpleaemcaa
open Go Go.V

theorem rlive_spec {g w : World} {L : List HP} (cap : Int) (P : List PR) (a : Option Addr) (c : Nat) (B : List Bool) (b : Option Addr) (d : Nat) (n : Int) (hB : B.length ≤ 1000) (hS : St g (Sh 4 1 (bos B) b d :: L) w) :
    Sp Try.prog 36 [.agg #[.int .i64 cap, .slice a (List.length (enP P)) c, .slice b (List.length (bos B)) d], .int .i64 n] w (fun v w' => v = .bool (liveR B n) ∧ St g (Sh 4 1 (bos B) b d :: L) w') := by
  refine Sp.enter Try.func36 rfl (by kernel_rfl) (by kernel_rfl) ?_
  have _ := hB
  refine WC.seq ?_
  refine WC.region ?_
  have hbl := bos_len B
  refine WL.box rfl rfl #[.int .i64 cap, .slice a (List.length (enP P)) c, .slice b (List.length (bos B)) d] hS rfl rfl (fun b1 w hS => ?_)
  refine WL.r 1 rfl ?_
  refine WL.nil ?_
  refine WC.seq ?_
  refine WC.region ?_
  refine WL.r 3 rfl ?_
  by_cases cg1 : 1 ≤ n
  · refine WL.reb 7 (.bool true) (congrArg Value.bool (decide_eq_true cg1)) ?_
    refine WL.ung rfl rfl rfl ?_
    refine WL.r 1 rfl ?_
    refine WL.ung rfl rfl rfl ?_
    refine WL.r 1 rfl ?_
    refine WL.ung rfl rfl rfl ?_
    refine WL.run 1 [.slice b (List.length (bos B)) d] rfl (by exact hS.ld 0 rfl rfl) ?_
    refine WL.ung rfl rfl rfl ?_
    refine WL.r 1 rfl ?_
    refine WL.ung rfl rfl rfl ?_
    refine WL.r 3 rfl ?_
    by_cases cg2 : n ≤ (List.length (bos B) : Int)
    · refine WL.reb 14 (.bool true) (congrArg Value.bool (decide_eq_true cg2)) ?_
      refine WL.ung rfl rfl rfl ?_
      refine WL.r 1 rfl ?_
      refine WL.ung rfl rfl rfl ?_
      refine WL.run 1 [.slice b (List.length (bos B)) d] rfl (by exact hS.ld 0 rfl rfl) ?_
      refine WL.ung rfl rfl rfl ?_
      refine WL.r 1 rfl ?_
      refine WL.ung rfl rfl rfl ?_
      refine WL.r 1 rfl ?_
      refine WL.nw 18 rfl (w64 (by omega)) ?_
      refine WL.ung rfl rfl rfl ?_
      obtain ⟨x, hx⟩ : ∃ x, B[(n - 1).toNat]? = some x := ⟨_, List.getElem?_eq_getElem (by omega)⟩
      refine WL.ix rfl rfl (i := n - 1) ((n - 1).toNat) el_47 rfl rfl (by omega) (by omega) (hS.rdS 1 rfl (bos_at hx)).1 ?_
      refine WL.ung rfl rfl rfl ?_
      refine WL.run 3 [.bool x] rfl (by exact (hS.rdS 1 rfl (bos_at hx)).2 0 _ rfl) ?_
      refine WL.nil ?_
      as_aux_lemma =>
        refine WC.ret ?_
        refine ⟨[.bool x], rfl, ?_⟩
        replace hS := (hS.sel 1 [] rfl)
        first | exact ⟨congrArg Value.bool (liveR_at (by omega) hx).symm, hS⟩ | exact ⟨congrArg Value.bool (liveR_no (by omega)).symm, hS⟩
    · refine WL.reb 14 (.bool false) (congrArg Value.bool (decide_eq_false cg2)) ?_
      refine WL.skp rfl rfl rfl rfl ?_
      refine WL.skp rfl rfl rfl rfl ?_
      refine WL.skp rfl rfl rfl rfl ?_
      refine WL.skp rfl rfl rfl rfl ?_
      refine WL.skp rfl rfl rfl rfl ?_
      refine WL.skp rfl rfl rfl rfl ?_
      refine WL.r 2 rfl ?_
      refine WL.nil ?_
      as_aux_lemma =>
        refine WC.ret ?_
        refine ⟨[.bool false], rfl, ?_⟩
        replace hS := (hS.sel 1 [] rfl)
        first | exact ⟨congrArg Value.bool (liveR_at (by omega) hx).symm, hS⟩ | exact ⟨congrArg Value.bool (liveR_no (by omega)).symm, hS⟩
  · refine WL.reb 7 (.bool false) (congrArg Value.bool (decide_eq_false cg1)) ?_
    refine WL.skp rfl rfl rfl rfl ?_
    refine WL.skp rfl rfl rfl rfl ?_
    refine WL.skp rfl rfl rfl rfl ?_
    refine WL.skp rfl rfl rfl rfl ?_
    refine WL.skp rfl rfl rfl rfl ?_
    refine WL.r 2 rfl ?_
    refine WL.skp rfl rfl rfl rfl ?_
    refine WL.skp rfl rfl rfl rfl ?_
    refine WL.skp rfl rfl rfl rfl ?_
    refine WL.skp rfl rfl rfl rfl ?_
    refine WL.skp rfl rfl rfl rfl ?_
    refine WL.skp rfl rfl rfl rfl ?_
    refine WL.r 2 rfl ?_
    refine WL.nil ?_
    as_aux_lemma =>
      refine WC.ret ?_
      refine ⟨[.bool false], rfl, ?_⟩
      replace hS := (hS.sel 1 [] rfl)
      first | exact ⟨congrArg Value.bool (liveR_at (by omega) hx).symm, hS⟩ | exact ⟨congrArg Value.bool (liveR_no (by omega)).symm, hS⟩
theorem above_spec {g w : World} {L : List HP} (cap : Int) (P : List PR) (a : Option Addr) (c : Nat) (B : List Bool) (b : Option Addr) (d : Nat) (n : Int) (hP : POk P) (hl : P.length ≤ 1000) (hS : St g (Sh 28 1 (enP P) a c :: Shs prF P :: L) w) :
    Sp Try.prog 49 [.agg #[.int .i64 cap, .slice a (List.length (enP P)) c, .slice b (List.length (bos B)) d], .int .i64 n] w (fun v w' => ∃ (a2 : Option Addr) (c2 : Nat), v = .slice a2 (List.length (bos (up P n))) c2 ∧ St g (Own 4 1 (bos (up P n)) a2 c2 :: Sh 28 1 (enP P) a c :: Shs prF P :: L) w') := by
  refine Sp.enter Try.func49 rfl (by kernel_rfl) (by kernel_rfl) ?_
  have _ := hl
  refine WC.seq ?_
  refine WC.region ?_
  refine WL.box rfl rfl #[.int .i64 cap, .slice a (List.length (enP P)) c, .slice b (List.length (bos B)) d] hS rfl rfl (fun b1 w hS => ?_)
  refine WL.r 1 rfl ?_
  refine WL.nil ?_
  refine WC.seq ?_
  refine WC.region ?_
  have hel := enP_len P
  refine WL.run 3 [.slice a (List.length (enP P)) c] rfl (by exact hS.ld 0 rfl rfl) ?_
  refine WL.make rfl rfl (v := (List.length (enP P) : Int)) (v' := (List.length (enP P) : Int)) (P.length) (P.length) el_47 hS rfl (by omega) rfl (by omega) (by omega) (Rm.of (by omega) (by decide)) (fun b2 w hS => ?_)
  replace hS : St g (Own 4 1 (List.replicate (List.length P) [.bool false]) (some ⟨b2, 0, none⟩) (List.length P) :: cel b1 #[.int .i64 cap, .slice a (List.length (enP P)) c, .slice b (List.length (bos B)) d] 49 :: Sh 28 1 (enP P) a c :: Shs prF P :: L) w := hS
  refine WL.r 1 rfl ?_
  refine WL.nil ?_
  refine WC.seq ?_
  refine WC.seq ?_
  refine WC.region ?_
  rw [bos_rep] at hS
  replace hS : St g (Own 4 1 (bos (List.replicate (List.length P) false)) (some ⟨b2, 0, none⟩) (List.length P) :: cel b1 #[.int .i64 cap, .slice a (List.length (enP P)) c, .slice b (List.length (bos B)) d] 49 :: Sh 28 1 (enP P) a c :: Shs prF P :: L) w := hS
  refine WL.r 2 rfl ?_
  refine WL.rG 6 rfl (fun j => ?_)
  refine WL.prop 19 rfl (band (dd _) (dd _)) ?_
  refine WL.nil ?_
  refine WC.cut [2, 4, 5] (fun vs w => ∃ (bs : List Bool), vs = [.pointer (some ⟨b1, 0, none⟩), .slice none 0 0, .slice (some ⟨b2, 0, none⟩) (List.length P) (List.length P)] ∧ St g (Own 4 1 (bos bs) (some ⟨b2, 0, none⟩) (List.length P) :: cel b1 #[.int .i64 cap, .slice a (List.length (enP P)) c, .slice b (List.length (bos B)) d] 49 :: Sh 28 1 (enP P) a c :: Shs prF P :: L) w ∧ (Abv P n (P.length - 1) [] bs)) ?_ ?_
  · refine WC.ifP rfl (fun cd1 => ?_) (fun cd1 => ?_)
    · refine WC.region ?_
      refine WL.r 3 rfl ?_
      refine WL.nw 22 rfl (w64 (by omega)) ?_
      have h0 : (List.replicate P.length false)[(n - 1).toNat]? = some false := by rw [List.getElem?_replicate, if_pos (by omega)]
      refine WL.ix rfl rfl (i := n - 1) ((n - 1).toNat) el_47 rfl rfl (by omega) (by omega) (hS.rdO 0 rfl (bos_at h0)).1 ?_
      refine WL.stE rfl rfl rfl 0 ((n - 1).toNat) 0 [.bool false] (bos ((List.replicate P.length false).set (n - 1).toNat true)) hS rfl (bos_at h0) rfl rfl rfl rfl rfl (bos_set _ _ _) (fun w hS => ?_)
      replace hS : St g (Own 4 1 (bos ((List.replicate (List.length P) false).set (n - 1).toNat true)) (some ⟨b2, 0, none⟩) (List.length P) :: cel b1 #[.int .i64 cap, .slice a (List.length (enP P)) c, .slice b (List.length (bos B)) d] 49 :: Sh 28 1 (enP P) a c :: Shs prF P :: L) w := hS
      refine WL.nil ?_
      exact ⟨(List.replicate P.length false).set (n - 1).toNat true, rfl, hS, (abv_1 cd1)⟩
    · refine WC.skip ?_
      exact ⟨List.replicate P.length false, rfl, hS, (abv_0 cd1)⟩
  clear hS; rintro _ w j ⟨bs, rfl, hS, hA⟩
  as_aux_lemma =>
    refine WC.seq ?_
    refine WC.seq ?_
    refine WC.region ?_
    refine WL.r 3 rfl ?_
    refine WL.nw 26 rfl (w64 (by omega)) ?_
    refine WL.r 1 rfl ?_
    refine WL.nil ?_
    refine WC.block ?_
    refine WC.loop [2, 4, 5, 6] (fun kM vs w => ∃ (i : Int) (bs : List Bool), vs = [.pointer (some ⟨b1, 0, none⟩), .slice none 0 0, .slice (some ⟨b2, 0, none⟩) (List.length P) (List.length P), .int .i64 i] ∧ St g (Own 4 1 (bos bs) (some ⟨b2, 0, none⟩) (List.length P) :: cel b1 #[.int .i64 cap, .slice a (List.length (enP P)) c, .slice b (List.length (bos B)) d] 49 :: Sh 28 1 (enP P) a c :: Shs prF P :: L) w ∧ (-1 ≤ i ∧ i < P.length) ∧ (Abv P n i [] bs) ∧ ((i + 1).toNat) = kM) ((((List.length P : Int) - 1) + 1).toNat) ⟨(P.length : Int) - 1, bs, rfl, hS, (by omega), (hA), rfl⟩ ?_
    clear hS; rintro _ _ w j ⟨i, bs, rfl, hS, hi, hA, rfl⟩
    refine WC.seq ?_
    refine WC.seq ?_
    refine WC.region ?_
    refine WL.r 2 rfl ?_
    refine WL.nil ?_
    refine WC.ifP rfl (fun cd1 => ?_) (fun cd1 => ?_)
    · refine WC.skip ?_
      refine WC.seq ?_
      refine WC.cut [2, 4, 5, 6, 27, 28] (fun vs w => ∃ (bt : List Bool), vs = [.pointer (some ⟨b1, 0, none⟩), .slice none 0 0, .slice (some ⟨b2, 0, none⟩) (List.length P) (List.length P), .int .i64 i, .int .i64 i, .bool (decide (0 ≤ i))] ∧ St g (Own 4 1 (bos bt) (some ⟨b2, 0, none⟩) (List.length P) :: cel b1 #[.int .i64 cap, .slice a (List.length (enP P)) c, .slice b (List.length (bos B)) d] 49 :: Sh 28 1 (enP P) a c :: Shs prF P :: L) w ∧ (Abv P n (i - 1) [] bt)) ?_ ?_
      · refine WC.block ?_
        refine WC.seq ?_
        refine WC.region ?_
        obtain ⟨k, hk⟩ : ∃ k : Nat, i = (k : Int) := ⟨i.toNat, by omega⟩; obtain ⟨r, hr⟩ : ∃ r, P[k]? = some r := ⟨_, List.getElem?_eq_getElem (by omega)⟩; have hrl := (hP k r hr).1; have hru := (hP k r hr).2; have hrp := i64s_len r.ps
        refine WL.r 1 rfl ?_
        refine WL.nil ?_
        as_aux_lemma =>
          refine WC.block ?_
          refine WC.loop [2, 4, 5, 6, 7, 27, 28] (fun kM vs w => ∃ (m : Nat) (bt : List Bool), vs = [.pointer (some ⟨b1, 0, none⟩), .slice none 0 0, .slice (some ⟨b2, 0, none⟩) (List.length P) (List.length P), .int .i64 i, .int .i64 (m : Int), .int .i64 i, .bool (decide (0 ≤ i))] ∧ St g (Own 4 1 (bos bt) (some ⟨b2, 0, none⟩) (List.length P) :: cel b1 #[.int .i64 cap, .slice a (List.length (enP P)) c, .slice b (List.length (bos B)) d] 49 :: Sh 28 1 (enP P) a c :: Shs prF P :: L) w ∧ (m ≤ r.ps.length) ∧ (Abv P n i (r.ps.take m) bt) ∧ (r.ps.length - m) = kM) ((List.length r.ps) - 0) ⟨0, bs, rfl, hS, (Nat.zero_le _), (hA), rfl⟩ ?_
          clear hS; rintro _ _ w j ⟨m, bt, rfl, hS, hm, hB, rfl⟩
          refine WC.seq ?_
          refine WC.seq ?_
          refine WC.region ?_
          refine WL.r 2 rfl ?_
          have hbl := hB.1; have hbo := bos_len bt; obtain ⟨x, hx⟩ : ∃ x, bt[k]? = some x := ⟨_, List.getElem?_eq_getElem (by omega)⟩
          refine WL.ix rfl rfl (i := i) (k) el_47 rfl rfl (by omega) (by omega) (hS.rdO 0 rfl (bos_at hx)).1 ?_
          refine WL.run 2 [.bool x] rfl (by exact (hS.rdO 0 rfl (bos_at hx)).2 0 _ rfl) ?_
          by_cases cg1 : x = true
          · refine WL.reb 35 (.bool true) (congrArg Value.bool cg1) ?_
            refine WL.ung rfl rfl rfl ?_
            refine WL.r 1 rfl ?_
            refine WL.ung rfl rfl rfl ?_
            refine WL.r 1 rfl ?_
            refine WL.ung rfl rfl rfl ?_
            refine WL.run 1 [.slice a (List.length (enP P)) c] rfl (by exact hS.ld 1 rfl rfl) ?_
            refine WL.ung rfl rfl rfl ?_
            refine WL.r 1 rfl ?_
            refine WL.ung rfl rfl rfl ?_
            refine WL.ix rfl rfl (i := i) (k) el_46 rfl rfl (by omega) (by omega) (hS.rdS 2 rfl (enP_at hr)).1 ?_
            refine WL.ung rfl rfl rfl ?_
            refine WL.run 1 [.slice r.a (List.length (i64s r.ps)) r.c] rfl (by exact (hS.rdS 2 rfl (enP_at hr)).2 0 _ rfl) ?_
            refine WL.ung rfl rfl rfl ?_
            refine WL.r 1 rfl ?_
            refine WL.ung rfl rfl rfl ?_
            refine WL.r 2 rfl ?_
            refine WL.nil ?_
            as_aux_lemma =>
              refine WC.ifP rfl (fun cd2 => ?_) (fun cd2 => ?_)
              · refine WC.skip ?_
                refine WC.seq ?_
                refine WC.block ?_
                refine WC.region ?_
                replace hS : St g (Sh 3 1 (i64s r.ps) r.a r.c :: Own 4 1 (bos bt) (some ⟨b2, 0, none⟩) (List.length P) :: cel b1 #[.int .i64 cap, .slice a (List.length (enP P)) c, .slice b (List.length (bos B)) d] 49 :: Sh 28 1 (enP P) a c :: Shs prF P :: L) w := hS.shsGet 3 rfl (List.mem_of_getElem? hr)
                refine WL.run 4 [.slice a (List.length (enP P)) c] rfl (by exact hS.ld 2 rfl rfl) ?_
                refine WL.ix rfl rfl (i := i) (k) el_46 rfl rfl (by omega) (by omega) (hS.rdS 3 rfl (enP_at hr)).1 ?_
                refine WL.run 2 [.slice r.a (List.length (i64s r.ps)) r.c] rfl (by exact (hS.rdS 3 rfl (enP_at hr)).2 0 _ rfl) ?_
                obtain ⟨u, hu⟩ : ∃ u, r.ps[m]? = some u := ⟨_, List.getElem?_eq_getElem (by omega)⟩; have hub := hru u (List.mem_of_getElem? hu); obtain ⟨y, hy⟩ : ∃ y, bt[(u - 1).toNat]? = some y := ⟨_, List.getElem?_eq_getElem (by omega)⟩
                refine WL.ix rfl rfl (i := (m : Int)) (m) el_28 rfl rfl (by omega) (by omega) (hS.rdS 0 rfl (i64s_at hu)).1 ?_
                refine WL.run 2 [.int .i64 u] rfl (by exact (hS.rdS 0 rfl (i64s_at hu)).2 0 _ rfl) ?_
                refine WL.nw 56 rfl (w64 (by omega)) ?_
                refine WL.ix rfl rfl (i := u - 1) ((u - 1).toNat) el_47 rfl rfl (by omega) (by omega) (hS.rdO 1 rfl (bos_at hy)).1 ?_
                refine WL.stE rfl rfl rfl 1 ((u - 1).toNat) 0 [.bool y] (bos (bt.set (u - 1).toNat true)) hS rfl (bos_at hy) rfl rfl rfl rfl rfl (bos_set _ _ _) (fun w hS => ?_)
                replace hS : St g (Sh 3 1 (i64s r.ps) r.a r.c :: Own 4 1 (bos (bt.set (u - 1).toNat true)) (some ⟨b2, 0, none⟩) (List.length P) :: cel b1 #[.int .i64 cap, .slice a (List.length (enP P)) c, .slice b (List.length (bos B)) d] 49 :: Sh 28 1 (enP P) a c :: Shs prF P :: L) w := hS
                refine WL.nil ?_
                refine WC.region ?_
                refine WL.r 2 rfl ?_
                refine WL.nw 46 rfl (w64 (by omega)) ?_
                refine WL.r 1 rfl ?_
                refine WL.nil ?_
                exact ⟨_, by omega, m + 1, bt.set (u - 1).toNat true, rfl, (hS.sel 1 [] rfl), (by omega), (abv_set' hk hP hB hr ((abv_i' hk hP hB hr hx).1 (by simpa using cg1)) hu), rfl⟩
              · refine WC.exit ?_
                exact ⟨bt, rfl, hS, (abv_next' hk hB hr (.inl (List.take_of_length_le (by omega))))⟩
          · refine WL.reb 35 (.bool false) (congrArg Value.bool (Bool.eq_false_iff.2 cg1)) ?_
            refine WL.skp rfl rfl rfl rfl ?_
            refine WL.skp rfl rfl rfl rfl ?_
            refine WL.skp rfl rfl rfl rfl ?_
            refine WL.skp rfl rfl rfl rfl ?_
            refine WL.skp rfl rfl rfl rfl ?_
            refine WL.skp rfl rfl rfl rfl ?_
            refine WL.skp rfl rfl rfl rfl ?_
            refine WL.skp rfl rfl rfl rfl ?_
            refine WL.r 1 rfl ?_
            refine WL.nil ?_
            refine WC.ifF rfl rfl ?_
            refine WC.exit ?_
            exact ⟨bt, rfl, hS, (abv_next' hk hB hr (.inr (fun h => cg1 ((abv_i' hk hP hB hr hx).2 h))))⟩
      clear hS; rintro _ w j ⟨bt, rfl, hS, hB⟩
      refine WC.region ?_
      refine WL.r 2 rfl ?_
      refine WL.nw 30 rfl (w64 (by omega)) ?_
      refine WL.r 1 rfl ?_
      refine WL.nil ?_
      exact ⟨_, by omega, i - 1, bt, rfl, hS, (by omega), (hB), rfl⟩
    · refine WC.exit ?_
      refine WC.seq ?_
      refine WC.region ?_
      have e1 := abv_end (i := i) (by omega) hA; subst e1; have hul := up_len P n; have hbl := bos_len (up P n)
      refine WL.reb 5 (.slice (some ⟨b2, 0, none⟩) (bos (up P n)).length P.length) (congrArg (fun m => Value.slice (some ⟨b2, 0, none⟩) m P.length) (by omega)) ?_
      refine WL.r 2 rfl ?_
      refine WL.nil ?_
      refine WC.ret ?_
      refine ⟨[.slice (some ⟨b2, 0, none⟩) (List.length (bos (up P n))) (List.length P)], rfl, ?_⟩
      replace hS := (hS.sel 2 [0] rfl)
      exact ⟨_, _, rfl, hS⟩
theorem numbers_spec {g w : World} {L : List HP} (bs : List Bool) (a : Option Addr) (c : Nat) (hl : bs.length ≤ 1000000) (hS : St g (Sh 4 1 (bos bs) a c :: L) w) :
    Sp Try.prog 47 [.slice a (List.length (bos bs)) c] w (fun v w' => ∃ (a2 : Option Addr) (c2 : Nat), v = .slice a2 (List.length (i64s (numL bs))) c2 ∧ St g (Own 3 1 (i64s (numL bs)) a2 c2 :: Sh 4 1 (bos bs) a c :: L) w') := by
  refine Sp.enter Try.func47 rfl (by kernel_rfl) (by kernel_rfl) ?_
  have _ := hl
  refine WC.seq ?_
  refine WC.region ?_
  refine WL.r 1 rfl ?_
  refine WL.nil ?_
  refine WC.seq ?_
  refine WC.region ?_
  refine WL.r 1 rfl ?_
  refine WL.nil ?_
  refine WC.seq ?_
  refine WC.seq ?_
  refine WC.region ?_
  have hbl := bos_len bs
  refine WL.r 1 rfl ?_
  refine WL.nil ?_
  refine WC.block ?_
  replace hS := hS.nil_ 3 1
  refine WC.loop [0, 2, 3, 4] (fun kM vs w => ∃ (k : Nat) (out : List Int) (u : Option Addr) (d : Nat), vs = [.slice a (List.length (bos bs)) c, .slice none 0 0, .slice u (List.length (i64s out)) d, .int .i64 (k : Int)] ∧ St g (Own 3 1 (i64s out) u d :: Sh 4 1 (bos bs) a c :: L) w ∧ (k ≤ bs.length) ∧ (out = numL (bs.take k)) ∧ (out.length ≤ k) ∧ (bs.length - k) = kM) ((List.length bs) - 0) ⟨0, [], none, 0, rfl, hS, (Nat.zero_le _), (rfl), (Nat.le_refl _), rfl⟩ ?_
  clear hS; rintro _ _ w j ⟨k, out, u, d, rfl, hS, hk, ho, hol, rfl⟩
  refine WC.seq ?_
  refine WC.seq ?_
  refine WC.region ?_
  have hbl := bos_len bs
  refine WL.r 4 rfl ?_
  refine WL.nil ?_
  as_aux_lemma =>
    refine WC.ifP rfl (fun cd1 => ?_) (fun cd1 => ?_)
    · refine WC.skip ?_
      refine WC.seq ?_
      refine WC.block ?_
      refine WC.seq ?_
      refine WC.region ?_
      refine WL.r 2 rfl ?_
      obtain ⟨x, hx⟩ : ∃ x, bs[k]? = some x := ⟨_, List.getElem?_eq_getElem (by omega)⟩; have hol2 := i64s_len out
      refine WL.ix rfl rfl (i := (k : Int)) (k) el_47 rfl rfl (by omega) (by omega) (hS.rdS 1 rfl (bos_at hx)).1 ?_
      refine WL.run 1 [.bool x] rfl (by exact (hS.rdS 1 rfl (bos_at hx)).2 0 _ rfl) ?_
      refine WL.nil ?_
      refine WC.if_ rfl (fun cd2 => ?_) (fun cd2 => ?_)
      · refine WC.region ?_
        refine WL.r 3 rfl ?_
        refine WL.nw 17 rfl (w64 (by omega)) ?_
        refine WL.lit rfl rfl (i64s [(k : Int) + 1]) el_28 hS (by exact ⟨rfl, rfl⟩) (i64s_ok _) rfl (by decide) (fun b1 w hS => ?_)
        refine WL.app rfl rfl 1 (i64s (out ++ [(k : Int) + 1])) el_28 hS rfl (hS.srcO 0 rfl) (i64s_app _ _).symm (Rm.of (by first | omega | (simp <;> omega)) (by decide)) rfl rfl (fun a1 c1 w hS => ?_)
        replace hS : St g (Own 3 1 (i64s [(k : Int) + 1]) (some ⟨b1, 0, none⟩) (List.length (i64s [(k : Int) + 1])) :: Own 3 1 (i64s (out ++ [(k : Int) + 1])) a1 c1 :: Sh 4 1 (bos bs) a c :: L) w := hS
        refine WL.r 1 rfl ?_
        refine WL.nil ?_
        refine WC.region ?_
        refine WL.r 2 rfl ?_
        refine WL.nw 10 rfl (w64 (by omega)) ?_
        refine WL.r 1 rfl ?_
        refine WL.nil ?_
        exact ⟨_, by omega, k + 1, out ++ [(k : Int) + 1], a1, c1, rfl, (hS.sel 1 [] rfl), (by omega), (by rw [ho, numL_snoc hx, if_pos cd2]), (by simp; omega), rfl⟩
      · refine WC.skip ?_
        refine WC.region ?_
        refine WL.r 2 rfl ?_
        refine WL.nw 10 rfl (w64 (by omega)) ?_
        refine WL.r 1 rfl ?_
        refine WL.nil ?_
        exact ⟨_, by omega, k + 1, out, u, d, rfl, hS, (by omega), (by rw [ho, numL_snoc hx, if_neg (by rw [cd2]; decide), List.append_nil]), (by omega), rfl⟩
    · refine WC.exit ?_
      refine WC.seq ?_
      refine WC.region ?_
      refine WL.r 2 rfl ?_
      refine WL.nil ?_
      refine WC.ret ?_
      refine ⟨[.slice u (List.length (i64s out)) d], rfl, ?_⟩
      have e1 := ho.trans (congrArg numL (List.take_of_length_le (i := k) (l := bs) (by omega))); subst e1; exact ⟨_, _, rfl, hS⟩
theorem common_spec {g w : World} {L : List HP} (cap : Int) (P : List PR) (a : Option Addr) (c : Nat) (B : List Bool) (b : Option Addr) (d : Nat) (x y : Int) (hP : POk P) (hl : P.length ≤ 1000) (hS : St g (Sh 28 1 (enP P) a c :: Shs prF P :: L) w) :
    Sp Try.prog 50 [.agg #[.int .i64 cap, .slice a (List.length (enP P)) c, .slice b (List.length (bos B)) d], .int .i64 x, .int .i64 y] w (fun v w' => v = .int .i64 (comR P x y) ∧ St g (Sh 28 1 (enP P) a c :: Shs prF P :: L) w') := by
  refine Sp.enter Try.func50 rfl (by kernel_rfl) (by kernel_rfl) ?_
  have _ := hl
  have _ := hP
  refine WC.seq ?_
  refine WC.region ?_
  refine WL.box rfl rfl #[.int .i64 cap, .slice a (List.length (enP P)) c, .slice b (List.length (bos B)) d] hS rfl rfl (fun b1 w hS => ?_)
  refine WL.r 1 rfl ?_
  refine WL.nil ?_
  refine WC.seq ?_
  refine WC.plan [([0, 1, 3, 4], some (2, [3, 4])), ([], some (5, [])), ([6, 7], none)] (by kernel_rfl) (by kernel_rfl) ?_
  refine WQ.ldF rfl rfl 0 hS rfl rfl ag_49 ?_
  refine WQ.r 1 rfl ?_
  refine WQ.ldF rfl rfl 0 hS rfl rfl ag_49 ?_
  refine WQ.r 1 rfl ?_
  refine WQ.nil ?_
  intro m1
  replace hS := hS.drewN m1; generalize hwm1 : World.drewN _ _ = w at *; clear hwm1
  refine WL.call rfl rfl (above_spec (cap := cap) (P := P) (a := a) (c := c) (B := B) (b := b) (d := d) (n := x) (hP := (by assumption)) (hl := (by omega)) (hS := (hS.sel 3 [1, 1, 0] rfl))) rfl ?_
  clear hS; rintro _ w ⟨a1, c1, rfl, hS⟩
  replace hS : St g (Own 4 1 (bos (up P x)) a1 c1 :: Sh 28 1 (enP P) a c :: Shs prF P :: cel b1 #[.int .i64 cap, .slice a (List.length (enP P)) c, .slice b (List.length (bos B)) d] 49 :: L) w := hS
  refine WL.nil ?_
  refine ⟨by exact ⟨RQ.ldF rfl rfl 3 hS rfl rfl ag_49 rfl rfl, RQ.pure rfl rfl rfl rfl⟩, ?_⟩
  refine WQ.nil ?_
  intro m2
  replace hS := hS.drewN m2; generalize hwm2 : World.drewN _ _ = w at *; clear hwm2
  refine WL.call rfl rfl (above_spec (cap := cap) (P := P) (a := a) (c := c) (B := B) (b := b) (d := d) (n := y) (hP := (by assumption)) (hl := (by omega)) (hS := (hS.sel 3 [1, 1, 0] rfl))) rfl ?_
  clear hS; rintro _ w ⟨a2, c2, rfl, hS⟩
  replace hS : St g (Own 4 1 (bos (up P y)) a2 c2 :: Sh 28 1 (enP P) a c :: Shs prF P :: Own 4 1 (bos (up P x)) a1 c1 :: cel b1 #[.int .i64 cap, .slice a (List.length (enP P)) c, .slice b (List.length (bos B)) d] 49 :: L) w := hS
  refine WL.nil ?_
  refine ⟨by exact trivial, ?_⟩
  refine WQ.r 2 rfl ?_
  refine WQ.nil ?_
  intro m3
  replace hS := hS.drewN m3; generalize hwm3 : World.drewN _ _ = w at *; clear hwm3
  as_aux_lemma =>
    refine WC.seq ?_
    refine WC.seq ?_
    refine WC.region ?_
    have hu1 := up_len P x; have hu2 := up_len P y; have hb1 := bos_len (up P x); have hb2 := bos_len (up P y)
    refine WL.r 3 rfl ?_
    refine WL.nw 18 rfl (w64 (by omega)) ?_
    refine WL.r 1 rfl ?_
    refine WL.nil ?_
    refine WC.block ?_
    refine WC.loop [7, 8, 9] (fun kM vs w => ∃ (i : Int), vs = [.slice a1 (List.length (bos (up P x))) c1, .slice a2 (List.length (bos (up P y))) c2, .int .i64 i] ∧ St g (Own 4 1 (bos (up P y)) a2 c2 :: Sh 28 1 (enP P) a c :: Shs prF P :: Own 4 1 (bos (up P x)) a1 c1 :: cel b1 #[.int .i64 cap, .slice a (List.length (enP P)) c, .slice b (List.length (bos B)) d] 49 :: L) w ∧ (-1 ≤ i ∧ i < P.length) ∧ (∀ j : Nat, i < j → (up P x)[j]? = some true → (up P y)[j]? = some true → False) ∧ ((i + 1).toNat) = kM) ((((List.length (bos (up P x)) : Int) - 1) + 1).toNat) ⟨((bos (up P x)).length : Int) - 1, rfl, hS, (by omega), (fun j hj h1 _ => by have := (List.getElem?_eq_some_iff.1 h1).1; omega), rfl⟩ ?_
    clear hS; rintro _ _ w j ⟨i, rfl, hS, hi, hn, rfl⟩
    refine WC.seq ?_
    refine WC.seq ?_
    refine WC.region ?_
    have hu1 := up_len P x; have hu2 := up_len P y; have hb1 := bos_len (up P x); have hb2 := bos_len (up P y)
    refine WL.r 2 rfl ?_
    refine WL.nil ?_
    refine WC.ifP rfl (fun cd1 => ?_) (fun cd1 => ?_)
    · refine WC.skip ?_
      refine WC.seq ?_
      refine WC.block ?_
      refine WC.seq ?_
      refine WC.region ?_
      obtain ⟨k, hk⟩ : ∃ k : Nat, i = (k : Int) := ⟨i.toNat, by omega⟩; obtain ⟨u, hu⟩ : ∃ u, (up P x)[k]? = some u := ⟨_, List.getElem?_eq_getElem (by omega)⟩; obtain ⟨v, hv⟩ : ∃ v, (up P y)[k]? = some v := ⟨_, List.getElem?_eq_getElem (by omega)⟩
      refine WL.r 2 rfl ?_
      refine WL.ix rfl rfl (i := i) (k) el_47 rfl rfl (by omega) (by omega) (hS.rdO 3 rfl (bos_at hu)).1 ?_
      refine WL.run 2 [.bool u] rfl (by exact (hS.rdO 3 rfl (bos_at hu)).2 0 _ rfl) ?_
      by_cases cg1 : u = true
      · refine WL.reb 27 (.bool true) (congrArg Value.bool cg1) ?_
        refine WL.ung rfl rfl rfl ?_
        refine WL.r 1 rfl ?_
        refine WL.ung rfl rfl rfl ?_
        refine WL.r 1 rfl ?_
        refine WL.ung rfl rfl rfl ?_
        refine WL.ix rfl rfl (i := i) (k) el_47 rfl rfl (by omega) (by omega) (hS.rdO 0 rfl (bos_at hv)).1 ?_
        refine WL.ung rfl rfl rfl ?_
        refine WL.run 2 [.bool v] rfl (by exact (hS.rdO 0 rfl (bos_at hv)).2 0 _ rfl) ?_
        refine WL.nil ?_
        as_aux_lemma =>
          refine WC.if_ rfl (fun cd2 => ?_) (fun cd2 => ?_)
          · refine WC.seq ?_
            refine WC.region ?_
            refine WL.r 2 rfl ?_
            refine WL.nw 34 rfl (w64 (by omega)) ?_
            refine WL.r 1 rfl ?_
            refine WL.nil ?_
            refine WC.ret ?_
            refine ⟨[.int .i64 (i + 1)], rfl, ?_⟩
            replace hS := (hS.sel 5 [1, 1] rfl)
            exact ⟨congrArg (Value.int .i64) ((com_at (i := k) (by rw [hu, cg1]) (by rw [hv, cd2]) (fun j hj => hn j (by omega))).trans (by omega)).symm, hS⟩
          · refine WC.skip ?_
            refine WC.region ?_
            refine WL.r 2 rfl ?_
            refine WL.nw 22 rfl (w64 (by omega)) ?_
            refine WL.r 1 rfl ?_
            refine WL.nil ?_
            exact ⟨_, by omega, i - 1, rfl, hS, (by omega), (fun j hj h1 h2 => by
              rcases Int.lt_or_le i j with h | h
              · exact hn j h h1 h2
              · have : j = k := by omega
                subst this
                rw [hu] at h1; rw [hv] at h2; cases h1; cases h2
                first | exact absurd cd2 (by decide) | exact cg1 rfl), rfl⟩
      · refine WL.reb 27 (.bool false) (congrArg Value.bool (Bool.eq_false_iff.2 cg1)) ?_
        refine WL.skp rfl rfl rfl rfl ?_
        refine WL.skp rfl rfl rfl rfl ?_
        refine WL.skp rfl rfl rfl rfl ?_
        refine WL.skp rfl rfl rfl rfl ?_
        refine WL.r 1 rfl ?_
        refine WL.nil ?_
        as_aux_lemma =>
          refine WC.ifF rfl rfl ?_
          refine WC.skip ?_
          refine WC.region ?_
          refine WL.r 2 rfl ?_
          refine WL.nw 22 rfl (w64 (by omega)) ?_
          refine WL.r 1 rfl ?_
          refine WL.nil ?_
          exact ⟨_, by omega, i - 1, rfl, hS, (by omega), (fun j hj h1 h2 => by
            rcases Int.lt_or_le i j with h | h
            · exact hn j h h1 h2
            · have : j = k := by omega
              subst this
              rw [hu] at h1; rw [hv] at h2; cases h1; cases h2
              first | exact absurd cd2 (by decide) | exact cg1 rfl), rfl⟩
    · refine WC.exit ?_
      refine WC.seq ?_
      refine WC.region ?_
      refine WL.r 1 rfl ?_
      refine WL.nil ?_
      refine WC.ret ?_
      refine ⟨[.int .i64 0], rfl, ?_⟩
      replace hS := (hS.sel 5 [1, 1] rfl)
      exact ⟨congrArg (Value.int .i64) (com_no (fun j => hn j (by omega))).symm, hS⟩
theorem present_spec {g w : World} {L : List HP} (cap : Int) (P : List PR) (a : Option Addr) (c : Nat) (B : List Bool) (b : Option Addr) (d : Nat) (hP : POk P) (hl : P.length ≤ 1000) (hB : B.length = P.length) (hS : St g (Sh 28 1 (enP P) a c :: Shs prF P :: Sh 4 1 (bos B) b d :: L) w) :
    Sp Try.prog 48 [.agg #[.int .i64 cap, .slice a (List.length (enP P)) c, .slice b (List.length (bos B)) d]] w (fun v w' => ∃ (a2 : Option Addr) (c2 : Nat), v = .slice a2 (List.length (bos (pres P B))) c2 ∧ St g (Own 4 1 (bos (pres P B)) a2 c2 :: Sh 28 1 (enP P) a c :: Shs prF P :: Sh 4 1 (bos B) b d :: L) w') := by
  refine Sp.enter Try.func48 rfl (by kernel_rfl) (by kernel_rfl) ?_
  have _ := hB
  have _ := hl
  refine WC.seq ?_
  refine WC.region ?_
  refine WL.box rfl rfl #[.int .i64 cap, .slice a (List.length (enP P)) c, .slice b (List.length (bos B)) d] hS rfl rfl (fun b1 w hS => ?_)
  refine WL.r 1 rfl ?_
  refine WL.nil ?_
  refine WC.seq ?_
  refine WC.region ?_
  have hel := enP_len P; have hbB := bos_len B
  refine WL.run 3 [.slice a (List.length (enP P)) c] rfl (by exact hS.ld 0 rfl rfl) ?_
  refine WL.make rfl rfl (v := (List.length (enP P) : Int)) (v' := (List.length (enP P) : Int)) (P.length) (P.length) el_47 hS rfl (by omega) rfl (by omega) (by omega) (Rm.of (by omega) (by decide)) (fun b2 w hS => ?_)
  replace hS : St g (Own 4 1 (List.replicate (List.length P) [.bool false]) (some ⟨b2, 0, none⟩) (List.length P) :: cel b1 #[.int .i64 cap, .slice a (List.length (enP P)) c, .slice b (List.length (bos B)) d] 49 :: Sh 28 1 (enP P) a c :: Shs prF P :: Sh 4 1 (bos B) b d :: L) w := hS
  refine WL.r 1 rfl ?_
  refine WL.nil ?_
  refine WC.seq ?_
  refine WC.seq ?_
  refine WC.region ?_
  refine WL.r 1 rfl ?_
  refine WL.nil ?_
  refine WC.block ?_
  rw [bos_rep] at hS
  replace hS : St g (Own 4 1 (bos (List.replicate (List.length P) false)) (some ⟨b2, 0, none⟩) (List.length P) :: cel b1 #[.int .i64 cap, .slice a (List.length (enP P)) c, .slice b (List.length (bos B)) d] 49 :: Sh 28 1 (enP P) a c :: Shs prF P :: Sh 4 1 (bos B) b d :: L) w := hS
  refine WC.loop [1, 2, 3, 4] (fun kM vs w => ∃ (x : Int) (bs : List Bool), vs = [.pointer (some ⟨b1, 0, none⟩), .slice none 0 0, .slice (some ⟨b2, 0, none⟩) (List.length P) (List.length P), .int .i64 x] ∧ St g (Own 4 1 (bos bs) (some ⟨b2, 0, none⟩) (List.length P) :: cel b1 #[.int .i64 cap, .slice a (List.length (enP P)) c, .slice b (List.length (bos B)) d] 49 :: Sh 28 1 (enP P) a c :: Shs prF P :: Sh 4 1 (bos B) b d :: L) w ∧ (1 ≤ x ∧ x ≤ P.length + 1) ∧ (Prs P B x x bs) ∧ (((P.length : Int) + 1 - x).toNat) = kM) (((List.length P : Int) + 1 - 1).toNat) ⟨1, List.replicate P.length false, rfl, hS, (by omega), (prs_0), rfl⟩ ?_
  clear hS; rintro _ _ w j ⟨x, bs, rfl, hS, hx, hA, rfl⟩
  refine WC.seq ?_
  refine WC.seq ?_
  refine WC.region ?_
  refine WL.r 4 rfl ?_
  refine WL.nil ?_
  as_aux_lemma =>
    refine WC.ifP rfl (fun cd1 => ?_) (fun cd1 => ?_)
    · refine WC.skip ?_
      refine WC.seq ?_
      refine WC.cut [1, 2, 3, 4, 11, 12, 13, 14] (fun vs w => ∃ (bt : List Bool), vs = [.pointer (some ⟨b1, 0, none⟩), .slice none 0 0, .slice (some ⟨b2, 0, none⟩) (List.length P) (List.length P), .int .i64 x, .int .i64 x, .slice (some ⟨b2, 0, none⟩) (List.length P) (List.length P), .int .i64 (List.length P : Int), .bool (decide (x ≤ (List.length P : Int)))] ∧ St g (Own 4 1 (bos bt) (some ⟨b2, 0, none⟩) (List.length P) :: cel b1 #[.int .i64 cap, .slice a (List.length (enP P)) c, .slice b (List.length (bos B)) d] 49 :: Sh 28 1 (enP P) a c :: Shs prF P :: Sh 4 1 (bos B) b d :: L) w ∧ (Prs P B (x + 1) (x + 1) bt)) ?_ ?_
      · refine WC.block ?_
        refine WC.seq ?_
        refine WC.region ?_
        refine WL.r 2 rfl ?_
        refine WL.nil ?_
        refine WC.block ?_
        refine WC.loop [1, 2, 3, 4, 5, 11, 12, 13, 14, 17] (fun kM vs w => ∃ (y : Int) (bt : List Bool), vs = [.pointer (some ⟨b1, 0, none⟩), .slice none 0 0, .slice (some ⟨b2, 0, none⟩) (List.length P) (List.length P), .int .i64 x, .int .i64 y, .int .i64 x, .slice (some ⟨b2, 0, none⟩) (List.length P) (List.length P), .int .i64 (List.length P : Int), .bool (decide (x ≤ (List.length P : Int))), .int .i64 x] ∧ St g (Own 4 1 (bos bt) (some ⟨b2, 0, none⟩) (List.length P) :: cel b1 #[.int .i64 cap, .slice a (List.length (enP P)) c, .slice b (List.length (bos B)) d] 49 :: Sh 28 1 (enP P) a c :: Shs prF P :: Sh 4 1 (bos B) b d :: L) w ∧ (x ≤ y ∧ y ≤ P.length + 1) ∧ (Prs P B x y bt) ∧ (((P.length : Int) + 1 - y).toNat) = kM) (((List.length P : Int) + 1 - x).toNat) ⟨x, bs, rfl, hS, (by omega), (hA), rfl⟩ ?_
        clear hS; rintro _ _ w j ⟨y, bt, rfl, hS, hy, hA, rfl⟩
        refine WC.seq ?_
        refine WC.seq ?_
        refine WC.region ?_
        refine WL.r 5 rfl ?_
        by_cases cg1 : y ≤ (List.length P : Int)
        · refine WL.reb 22 (.bool true) (congrArg Value.bool (decide_eq_true cg1)) ?_
          refine WL.ung rfl rfl rfl ?_
          refine WL.r 1 rfl ?_
          refine WL.ung rfl rfl rfl ?_
          refine WL.run 1 [.slice b (List.length (bos B)) d] rfl (by exact hS.ld 1 rfl rfl) ?_
          refine WL.ung rfl rfl rfl ?_
          refine WL.r 1 rfl ?_
          refine WL.ung rfl rfl rfl ?_
          refine WL.r 1 rfl ?_
          refine WL.nw 26 rfl (w64 (by omega)) ?_
          refine WL.ung rfl rfl rfl ?_
          obtain ⟨u, hu⟩ : ∃ u, B[(x - 1).toNat]? = some u := ⟨_, List.getElem?_eq_getElem (by omega)⟩
          refine WL.ix rfl rfl (i := x - 1) ((x - 1).toNat) el_47 rfl rfl (by omega) (by omega) (hS.rdS 4 rfl (bos_at hu)).1 ?_
          refine WL.ung rfl rfl rfl ?_
          refine WL.run 2 [.bool u] rfl (by exact (hS.rdS 4 rfl (bos_at hu)).2 0 _ rfl) ?_
          refine WL.nil ?_
          as_aux_lemma =>
            refine WC.if_ rfl (fun cd2 => ?_) (fun cd2 => ?_)
            · refine WC.skip ?_
              refine WC.seq ?_
              refine WC.block ?_
              refine WC.seq ?_
              refine WC.region ?_
              refine WL.run 4 [.slice b (List.length (bos B)) d] rfl (by exact hS.ld 1 rfl rfl) ?_
              refine WL.nw 35 rfl (w64 (by omega)) ?_
              obtain ⟨v, hv⟩ : ∃ v, B[(y - 1).toNat]? = some v := ⟨_, List.getElem?_eq_getElem (by omega)⟩
              refine WL.ix rfl rfl (i := y - 1) ((y - 1).toNat) el_47 rfl rfl (by omega) (by omega) (hS.rdS 4 rfl (bos_at hv)).1 ?_
              refine WL.run 1 [.bool v] rfl (by exact (hS.rdS 4 rfl (bos_at hv)).2 0 _ rfl) ?_
              refine WL.nil ?_
              refine WC.if_ rfl (fun cd3 => ?_) (fun cd3 => ?_)
              · refine WC.seq ?_
                refine WC.region ?_
                have hcr := com_rng hP x y; have hbl := hA.1; have hbl2 := bos_len bt
                refine WL.ldF rfl rfl 1 hS rfl rfl ag_49 ?_
                refine WL.r 2 rfl ?_
                refine WL.call rfl rfl (common_spec (cap := cap) (P := P) (a := a) (c := c) (B := B) (b := b) (d := d) (x := x) (y := y) (hP := (by assumption)) (hl := (by omega)) (hS := (hS.sel 4 [2, 2, 0, 0] rfl))) rfl ?_
                clear hS; rintro _ w ⟨rfl, hS⟩
                replace hS : St g (Sh 28 1 (enP P) a c :: Shs prF P :: Own 4 1 (bos bt) (some ⟨b2, 0, none⟩) (List.length P) :: cel b1 #[.int .i64 cap, .slice a (List.length (enP P)) c, .slice b (List.length (bos B)) d] 49 :: Sh 4 1 (bos B) b d :: L) w := hS
                refine WL.r 1 rfl ?_
                refine WL.nil ?_
                refine WC.seq ?_
                refine WC.region ?_
                refine WL.r 2 rfl ?_
                refine WL.nil ?_
                as_aux_lemma =>
                  refine WC.ifP rfl (fun cd4 => ?_) (fun cd4 => ?_)
                  · refine WC.region ?_
                    refine WL.r 3 rfl ?_
                    refine WL.nw 46 rfl (w64 (by omega)) ?_
                    obtain ⟨z, hw⟩ : ∃ z, bt[(comR P x y - 1).toNat]? = some z := ⟨_, List.getElem?_eq_getElem (by omega)⟩
                    refine WL.ix rfl rfl (i := (comR P x y) - 1) ((comR P x y - 1).toNat) el_47 rfl rfl (by omega) (by omega) (hS.rdO 2 rfl (bos_at hw)).1 ?_
                    refine WL.stE rfl rfl rfl 2 ((comR P x y - 1).toNat) 0 [.bool z] (bos (bt.set (comR P x y - 1).toNat true)) hS rfl (bos_at hw) rfl rfl rfl rfl rfl (bos_set _ _ _) (fun w hS => ?_)
                    replace hS : St g (Sh 28 1 (enP P) a c :: Shs prF P :: Own 4 1 (bos (bt.set (comR P x y - 1).toNat true)) (some ⟨b2, 0, none⟩) (List.length P) :: cel b1 #[.int .i64 cap, .slice a (List.length (enP P)) c, .slice b (List.length (bos B)) d] 49 :: Sh 4 1 (bos B) b d :: L) w := hS
                    refine WL.nil ?_
                    refine WC.region ?_
                    refine WL.r 2 rfl ?_
                    refine WL.nw 31 rfl (w64 (by omega)) ?_
                    refine WL.r 1 rfl ?_
                    refine WL.nil ?_
                    exact ⟨_, by omega, y + 1, bt.set (comR P x y - 1).toNat true, rfl, (hS.sel 4 [2, 2, 0, 0] rfl), (by omega), (prs_set hP hA (by rw [liveR_at (by omega) hu]; assumption) (by rw [liveR_at (by omega) hv]; assumption) hy.1 cd4), rfl⟩
                  · refine WC.skip ?_
                    refine WC.region ?_
                    refine WL.r 2 rfl ?_
                    refine WL.nw 31 rfl (w64 (by omega)) ?_
                    refine WL.r 1 rfl ?_
                    refine WL.nil ?_
                    exact ⟨_, by omega, y + 1, bt, rfl, (hS.sel 4 [2, 2, 0, 0] rfl), (by omega), (prs_skip hA (.inr cd4)), rfl⟩
              · refine WC.skip ?_
                refine WC.region ?_
                refine WL.r 2 rfl ?_
                refine WL.nw 31 rfl (w64 (by omega)) ?_
                refine WL.r 1 rfl ?_
                refine WL.nil ?_
                exact ⟨_, by omega, y + 1, bt, rfl, hS, (by omega), (prs_skip hA (.inl (by rw [liveR_at (by omega) hv]; simpa using cd3))), rfl⟩
            · refine WC.exit ?_
              exact ⟨bt, rfl, hS, (prs_next hA (.inr (by rw [liveR_at (by omega) hu]; simpa using cd2)))⟩
        · refine WL.reb 22 (.bool false) (congrArg Value.bool (decide_eq_false cg1)) ?_
          refine WL.skp rfl rfl rfl rfl ?_
          refine WL.skp rfl rfl rfl rfl ?_
          refine WL.skp rfl rfl rfl rfl ?_
          refine WL.skp rfl rfl rfl rfl ?_
          refine WL.skp rfl rfl rfl rfl ?_
          refine WL.skp rfl rfl rfl rfl ?_
          refine WL.r 1 rfl ?_
          refine WL.nil ?_
          as_aux_lemma =>
            refine WC.ifF rfl rfl ?_
            refine WC.exit ?_
            exact ⟨bt, rfl, hS, (prs_next hA (.inl (by omega)))⟩
      clear hS; rintro _ w j ⟨bt, rfl, hS, hC⟩
      refine WC.region ?_
      refine WL.r 2 rfl ?_
      refine WL.nw 16 rfl (w64 (by omega)) ?_
      refine WL.r 1 rfl ?_
      refine WL.nil ?_
      exact ⟨_, by omega, x + 1, bt, rfl, hS, (by omega), (hC), rfl⟩
    · refine WC.exit ?_
      refine WC.seq ?_
      refine WC.region ?_
      have e1 := prs_end hA (by omega)
      refine WL.r 2 rfl ?_
      refine WL.nil ?_
      refine WC.ret ?_
      refine ⟨[.slice (some ⟨b2, 0, none⟩) (List.length P) (List.length P)], rfl, ?_⟩
      replace hS := (hS.sel 2 [0] rfl)
      subst e1; exact ⟨_, _, congrArg (fun m => Value.slice (some ⟨b2, 0, none⟩) m P.length) (by rw [bos_len, pres_len]), hS⟩
theorem rvers_spec {g w : World} {L : List HP} (cap : Int) (P : List PR) (a : Option Addr) (c : Nat) (B : List Bool) (b : Option Addr) (d : Nat) (hP : POk P) (hl : P.length ≤ 1000) (hB : B.length = P.length) (hS : St g (Sh 28 1 (enP P) a c :: Shs prF P :: Sh 4 1 (bos B) b d :: L) w) :
    Sp Try.prog 38 [.agg #[.int .i64 cap, .slice a (List.length (enP P)) c, .slice b (List.length (bos B)) d]] w (fun v w' => ∃ (a2 : Option Addr) (c2 : Nat), v = .slice a2 (List.length (i64s (numL (pres P B)))) c2 ∧ St g (Own 3 1 (i64s (numL (pres P B))) a2 c2 :: Sh 28 1 (enP P) a c :: Shs prF P :: Sh 4 1 (bos B) b d :: L) w') := by
  refine Sp.enter Try.func38 rfl (by kernel_rfl) (by kernel_rfl) ?_
  have _ := hB
  have _ := hl
  have _ := hP
  refine WC.seq ?_
  refine WC.region ?_
  have hpl := pres_len P B
  refine WL.box rfl rfl #[.int .i64 cap, .slice a (List.length (enP P)) c, .slice b (List.length (bos B)) d] hS rfl rfl (fun b1 w hS => ?_)
  refine WL.r 1 rfl ?_
  refine WL.nil ?_
  refine WC.seq ?_
  refine WC.region ?_
  refine WL.ldF rfl rfl 0 hS rfl rfl ag_49 ?_
  refine WL.call rfl rfl (present_spec (cap := cap) (P := P) (a := a) (c := c) (B := B) (b := b) (d := d) (hP := (by assumption)) (hl := (by omega)) (hB := (by assumption)) (hS := (hS.sel 4 [1, 1, 1, 0] rfl))) rfl ?_
  clear hS; rintro _ w ⟨a1, c1, rfl, hS⟩
  replace hS : St g (Own 4 1 (bos (pres P B)) a1 c1 :: Sh 28 1 (enP P) a c :: Shs prF P :: Sh 4 1 (bos B) b d :: cel b1 #[.int .i64 cap, .slice a (List.length (enP P)) c, .slice b (List.length (bos B)) d] 49 :: L) w := hS
  replace hS := (hS.at_ 0 rfl).share
  replace hS : St g (Sh 4 1 (bos (pres P B)) a1 c1 :: Sh 28 1 (enP P) a c :: Shs prF P :: Sh 4 1 (bos B) b d :: cel b1 #[.int .i64 cap, .slice a (List.length (enP P)) c, .slice b (List.length (bos B)) d] 49 :: L) w := hS
  refine WL.call rfl rfl (numbers_spec (bs := pres P B) (a := a1) (c := c1) (hl := (by omega)) (hS := hS)) rfl ?_
  clear hS; rintro _ w ⟨a2, c2, rfl, hS⟩
  replace hS : St g (Own 3 1 (i64s (numL (pres P B))) a2 c2 :: Sh 4 1 (bos (pres P B)) a1 c1 :: Sh 28 1 (enP P) a c :: Shs prF P :: Sh 4 1 (bos B) b d :: cel b1 #[.int .i64 cap, .slice a (List.length (enP P)) c, .slice b (List.length (bos B)) d] 49 :: L) w := hS
  refine WL.r 1 rfl ?_
  refine WL.nil ?_
  refine WC.ret ?_
  refine ⟨[.slice a2 (List.length (i64s (numL (pres P B)))) c2], rfl, ?_⟩
  replace hS := (hS.sel 6 [0, 1, 1, 1] rfl)
  exact ⟨_, _, rfl, hS⟩
theorem rpre_spec {g w : World} {L : List HP} (cap : Int) (P : List PR) (a : Option Addr) (c : Nat) (B : List Bool) (b : Option Addr) (d : Nat) (n : Int) (hP : POk P) (hl : P.length ≤ 1000) (hB : B.length = P.length) (hS : St g (Sh 28 1 (enP P) a c :: Shs prF P :: Sh 4 1 (bos B) b d :: L) w) :
    Sp Try.prog 39 [.agg #[.int .i64 cap, .slice a (List.length (enP P)) c, .slice b (List.length (bos B)) d], .int .i64 n] w (fun v w' => v = .bool (liveR (pres P B) n) ∧ St g (Sh 28 1 (enP P) a c :: Shs prF P :: Sh 4 1 (bos B) b d :: L) w') := by
  refine Sp.enter Try.func39 rfl (by kernel_rfl) (by kernel_rfl) ?_
  have _ := hB
  have _ := hl
  have _ := hP
  refine WC.seq ?_
  refine WC.region ?_
  have hpl := pres_len P B; have hel := enP_len P; have hbp := bos_len (pres P B)
  refine WL.box rfl rfl #[.int .i64 cap, .slice a (List.length (enP P)) c, .slice b (List.length (bos B)) d] hS rfl rfl (fun b1 w hS => ?_)
  refine WL.r 1 rfl ?_
  refine WL.nil ?_
  refine WC.seq ?_
  refine WC.region ?_
  refine WL.r 3 rfl ?_
  by_cases cg1 : 1 ≤ n
  · refine WL.reb 7 (.bool true) (congrArg Value.bool (decide_eq_true cg1)) ?_
    refine WL.ung rfl rfl rfl ?_
    refine WL.r 1 rfl ?_
    refine WL.ung rfl rfl rfl ?_
    refine WL.r 1 rfl ?_
    refine WL.ung rfl rfl rfl ?_
    refine WL.run 1 [.slice a (List.length (enP P)) c] rfl (by exact hS.ld 0 rfl rfl) ?_
    refine WL.ung rfl rfl rfl ?_
    refine WL.r 1 rfl ?_
    refine WL.ung rfl rfl rfl ?_
    refine WL.r 3 rfl ?_
    by_cases cg2 : n ≤ (List.length (enP P) : Int)
    · refine WL.reb 14 (.bool true) (congrArg Value.bool (decide_eq_true cg2)) ?_
      refine WL.ung rfl rfl rfl ?_
      refine WL.ldF rfl rfl 0 hS rfl rfl ag_49 ?_
      refine WL.ung rfl rfl rfl ?_
      refine WL.call rfl rfl (present_spec (cap := cap) (P := P) (a := a) (c := c) (B := B) (b := b) (d := d) (hP := (by assumption)) (hl := (by omega)) (hB := (by assumption)) (hS := (hS.sel 4 [1, 1, 1, 0] rfl))) rfl ?_
      clear hS; rintro _ w ⟨a1, c1, rfl, hS⟩
      replace hS : St g (Own 4 1 (bos (pres P B)) a1 c1 :: Sh 28 1 (enP P) a c :: Shs prF P :: Sh 4 1 (bos B) b d :: cel b1 #[.int .i64 cap, .slice a (List.length (enP P)) c, .slice b (List.length (bos B)) d] 49 :: L) w := hS
      refine WL.ung rfl rfl rfl ?_
      refine WL.r 1 rfl ?_
      refine WL.ung rfl rfl rfl ?_
      refine WL.r 1 rfl ?_
      refine WL.nw 18 rfl (w64 (by omega)) ?_
      refine WL.ung rfl rfl rfl ?_
      obtain ⟨x, hx⟩ : ∃ x, (pres P B)[(n - 1).toNat]? = some x := ⟨_, List.getElem?_eq_getElem (by omega)⟩
      refine WL.ix rfl rfl (i := n - 1) ((n - 1).toNat) el_47 rfl rfl (by omega) (by omega) (hS.rdO 0 rfl (bos_at hx)).1 ?_
      refine WL.ung rfl rfl rfl ?_
      refine WL.run 3 [.bool x] rfl (by exact (hS.rdO 0 rfl (bos_at hx)).2 0 _ rfl) ?_
      refine WL.nil ?_
      as_aux_lemma =>
        refine WC.ret ?_
        refine ⟨[.bool x], rfl, ?_⟩
        replace hS := (hS.sel 5 [1, 1, 1] rfl)
        first | exact ⟨congrArg Value.bool (liveR_at (by omega) hx).symm, hS⟩ | exact ⟨congrArg Value.bool (liveR_no (by omega)).symm, hS⟩
    · refine WL.reb 14 (.bool false) (congrArg Value.bool (decide_eq_false cg2)) ?_
      refine WL.skp rfl rfl rfl rfl ?_
      refine WL.skp rfl rfl rfl rfl ?_
      refine WL.skp rfl rfl rfl rfl ?_
      refine WL.skp rfl rfl rfl rfl ?_
      refine WL.skp rfl rfl rfl rfl ?_
      refine WL.skp rfl rfl rfl rfl ?_
      refine WL.r 2 rfl ?_
      refine WL.nil ?_
      as_aux_lemma =>
        refine WC.ret ?_
        refine ⟨[.bool false], rfl, ?_⟩
        replace hS := (hS.sel 1 [] rfl)
        first | exact ⟨congrArg Value.bool (liveR_at (by omega) hx).symm, hS⟩ | exact ⟨congrArg Value.bool (liveR_no (by omega)).symm, hS⟩
  · refine WL.reb 7 (.bool false) (congrArg Value.bool (decide_eq_false cg1)) ?_
    refine WL.skp rfl rfl rfl rfl ?_
    refine WL.skp rfl rfl rfl rfl ?_
    refine WL.skp rfl rfl rfl rfl ?_
    refine WL.skp rfl rfl rfl rfl ?_
    refine WL.skp rfl rfl rfl rfl ?_
    refine WL.r 2 rfl ?_
    refine WL.skp rfl rfl rfl rfl ?_
    refine WL.skp rfl rfl rfl rfl ?_
    refine WL.skp rfl rfl rfl rfl ?_
    refine WL.skp rfl rfl rfl rfl ?_
    refine WL.skp rfl rfl rfl rfl ?_
    refine WL.skp rfl rfl rfl rfl ?_
    refine WL.r 2 rfl ?_
    refine WL.nil ?_
    as_aux_lemma =>
      refine WC.ret ?_
      refine ⟨[.bool false], rfl, ?_⟩
      replace hS := (hS.sel 1 [] rfl)
      first | exact ⟨congrArg Value.bool (liveR_at (by omega) hx).symm, hS⟩ | exact ⟨congrArg Value.bool (liveR_no (by omega)).symm, hS⟩
end Go.Proofs.Ytjoilgpleaemcaa
