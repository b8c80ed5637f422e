/-
  The law NamesCompareAndSet, walked.
  Conditions: the arguments lie in their kinds.
-/
import Derived.Test.YtenkmjbghbegfaaDoorNm3
import Derived.Test.YtenkmjbghbegfaaDoorAny
import Derived.Test.YtenkmjbghbegfaaDoorCn
import Derived.Test.YtenkmjbghbegfaaDoorNmc
namespace Go.Proofs.YtenkmjbghbegfaaDoor
open Go Go.V

set_option maxHeartbeats 1000000 in
set_option maxRecDepth 8192 in
theorem law_cas {g w : World} {L : List HP} (ls : List Cl) (c : Cl) (x y : Int) (a : Option Addr) (cc : Nat) (hls : ∀ z ∈ ls, ClOk z) (hc : ClOk c) (hS : St g (Sh 40 6 (enC ls) a cc :: L) w) :
    Sp Tryd.prog 6 [.slice a (List.length (enC ls)) cc, .agg #[.int .i64 c.name, .string c.text, .int .u64 c.old, .int .u64 c.new, .bool c.raw, .bool c.fit], .int .u64 x, .int .u64 y] w (fun v w' => v = .bool true ∧ St g (L) w') := by
  refine Sp.enter Tryd.func6 rfl (by kernel_rfl) (by kernel_rfl) ?_
  have _ := hc
  refine WC.seq ?_
  refine WC.region ?_
  have hel := enC_len ls
  refine WL.box rfl rfl #[.int .i64 c.name, .string c.text, .int .u64 c.old, .int .u64 c.new, .bool c.raw, .bool c.fit] hS rfl rfl (fun b1 w hS => ?_)
  refine WL.r 1 rfl ?_
  refine WL.nil ?_
  refine WC.seq ?_
  refine WC.region ?_
  refine WL.call rfl rfl (new_spec   (hS := hS)) rfl ?_
  clear hS; rintro _ w ⟨t1, m1, rfl, hS⟩
  replace hS : St g (cel t1 #[.map (some m1)] 62 :: blk m1 (.map (mE (List.map nbK [])) 0) :: Buns nbF [] :: cel b1 #[.int .i64 c.name, .string c.text, .int .u64 c.old, .int .u64 c.new, .bool c.raw, .bool c.fit] 40 :: Sh 40 6 (enC ls) a cc :: L) w := hS
  refine WL.r 1 rfl ?_
  refine WL.nil ?_
  refine WC.seq ?_
  refine WC.seq ?_
  refine WC.region ?_
  refine WL.call rfl rfl (awake_spec   (hS := hS)) rfl ?_
  clear hS; rintro _ w ⟨rfl, hS⟩
  replace hS : St g (cel t1 #[.map (some m1)] 62 :: blk m1 (.map (mE (List.map nbK [])) 0) :: Buns nbF [] :: cel b1 #[.int .i64 c.name, .string c.text, .int .u64 c.old, .int .u64 c.new, .bool c.raw, .bool c.fit] 40 :: Sh 40 6 (enC ls) a cc :: L) w := hS
  refine WL.r 2 rfl ?_
  refine WL.ung rfl rfl rfl ?_
  refine WL.r 1 rfl ?_
  refine WL.ung rfl rfl rfl ?_
  refine WL.r 2 rfl ?_
  refine WL.nil ?_
  as_aux_lemma =>
    refine WC.ifF rfl rfl ?_
    refine WC.skip ?_
    refine WC.seq ?_
    refine WC.seq ?_
    refine WC.region ?_
    refine WL.r 1 rfl ?_
    refine WL.nil ?_
    refine WC.block ?_
    refine WC.loop [0, 2, 3, 5, 8, 9, 10] (fun kM vs w => ∃ (k : Nat) (xs : List NB) (q : Nat), vs = [.slice a (List.length (enC ls)) cc, .int .u64 x, .int .u64 y, .pointer (some ⟨b1, 0, none⟩), .bool false, .pointer (some ⟨t1, 0, none⟩), .int .i64 (k : Int)] ∧ St g (cel t1 #[.map (some m1)] 62 :: blk m1 (.map (mE (List.map nbK xs)) q) :: Buns nbF xs :: cel b1 #[.int .i64 c.name, .string c.text, .int .u64 c.old, .int .u64 c.new, .bool c.raw, .bool c.fit] 40 :: Sh 40 6 (enC ls) a cc :: L) w ∧ (k ≤ ls.length ∧ k ≤ 40) ∧ (TOk xs q) ∧ (xs.length ≤ k) ∧ (40 - k) = kM) (40 - 0) ⟨0, [], 0, rfl, hS, (by omega), (TOk.nil), (Nat.le_refl _), rfl⟩ ?_
    clear hS; rintro _ _ w j ⟨k, xs, q, rfl, hS, hk, ht, hx, rfl⟩
    refine WC.seq ?_
    refine WC.seq ?_
    refine WC.region ?_
    refine WL.r 4 rfl ?_
    refine WL.rG 4 rfl (fun j => ?_)
    refine WL.prop 36 rfl (band (dd _) (dd _)) ?_
    refine WL.nil ?_
    refine WC.ifP rfl (fun cd1 => ?_) (fun cd1 => ?_)
    · refine WC.skip ?_
      refine WC.seq ?_
      refine WC.block ?_
      refine WC.seq ?_
      refine WC.region ?_
      refine WL.r 3 rfl ?_
      obtain ⟨z, hz⟩ : ∃ z, ls[k]? = some z := ⟨_, List.getElem?_eq_getElem (by omega)⟩; have hzo := hls z (List.mem_of_getElem? hz)
      refine WL.ix rfl rfl (i := (k : Int)) (k) el_35 rfl rfl (by omega) (len_of (enC_at hz)) (hS.rdS 4 rfl (enC_at hz)).1 ?_
      refine WL.ldC rfl rfl [.int .i64 z.name, .string z.text, .int .u64 z.old, .int .u64 z.new, .bool z.raw, .bool z.fit] ag_40 rfl (hS.rdS 4 rfl (enC_at hz)).2 ?_
      refine WL.call rfl rfl (cname_spec (c := z) (hc := hzo) (hS := hS)) rfl ?_
      clear hS; rintro _ w ⟨rfl, hS⟩
      replace hS : St g (cel t1 #[.map (some m1)] 62 :: blk m1 (.map (mE (List.map nbK xs)) q) :: Buns nbF xs :: cel b1 #[.int .i64 c.name, .string c.text, .int .u64 c.old, .int .u64 c.new, .bool c.raw, .bool c.fit] 40 :: Sh 40 6 (enC ls) a cc :: L) w := hS
      refine WL.call rfl rfl (get_any (t := t1) (m := m1) (xs := xs) (q := q) (s := cname z) (ht := (by assumption)) (hS := hS)) rfl ?_
      clear hS; rintro _ w ⟨rfl, hS⟩
      replace hS : St g (cel t1 #[.map (some m1)] 62 :: blk m1 (.map (mE (List.map nbK xs)) q) :: Buns nbF xs :: cel b1 #[.int .i64 c.name, .string c.text, .int .u64 c.old, .int .u64 c.new, .bool c.raw, .bool c.fit] 40 :: Sh 40 6 (enC ls) a cc :: L) w := hS
      refine WL.r 5 rfl ?_
      refine WL.nil ?_
      as_aux_lemma =>
        refine WC.plan [([0, 1, 2, 6, 7, 8, 3, 9, 4, 10, 11, 12], some (5, [0, 6, 7, 8, 9, 10, 11, 12])), ([], some (13, []))] (by kernel_rfl) (by kernel_rfl) ?_
        have hznw := hzo.nw
        refine WQ.r 6 rfl ?_
        refine WQ.ix rfl rfl (i := (k : Int)) (k) el_35 rfl rfl (by omega) (len_of (enC_at hz)) (hS.rdS 4 rfl (enC_at hz)).1 ?_
        refine WQ.ix rfl rfl (i := (k : Int)) (k) el_35 rfl rfl (by omega) (len_of (enC_at hz)) (hS.rdS 4 rfl (enC_at hz)).1 ?_
        refine WQ.ldC rfl rfl [.int .i64 z.name, .string z.text, .int .u64 z.old, .int .u64 z.new, .bool z.raw, .bool z.fit] ag_40 rfl (hS.rdS 4 rfl (enC_at hz)).2 ?_
        refine WQ.run 3 [.int .u64 z.new] rfl (by exact (hS.rdS 4 rfl (enC_at hz)).2 3 _ rfl) ?_
        refine WQ.reb 61 (.int .u64 (z.new % 5)) (congrArg (Value.int .u64) (Int.tmod_eq_emod_of_nonneg (a := z.new) (by omega))) ?_
        refine WQ.nil ?_
        intro m2
        replace hS := hS.drewN m2; generalize hwm2 : World.drewN _ _ = w at *; clear hwm2
        refine WL.call rfl rfl (cname_spec (c := z) (hc := hzo) (hS := hS)) rfl ?_
        clear hS; rintro _ w ⟨rfl, hS⟩
        replace hS : St g (cel t1 #[.map (some m1)] 62 :: blk m1 (.map (mE (List.map nbK xs)) q) :: Buns nbF xs :: cel b1 #[.int .i64 c.name, .string c.text, .int .u64 c.old, .int .u64 c.new, .bool c.raw, .bool c.fit] 40 :: Sh 40 6 (enC ls) a cc :: L) w := hS
        refine WL.nil ?_
        refine ⟨by exact ⟨RQ.pure rfl rfl rfl rfl, RQ.pure rfl rfl rfl rfl, RQ.pure rfl rfl rfl rfl, RQ.pure rfl rfl rfl rfl, RQ.ix rfl rfl (i := (k : Int)) (k) el_35 rfl rfl (by omega) (len_of (enC_at hz)) (hS.rdS 4 rfl (enC_at hz)).1 rfl rfl, RQ.pure rfl rfl rfl rfl, RQ.load rfl rfl rfl rfl ((hS.rdS 4 rfl (enC_at hz)).2 3 _ rfl), RQ.pure rfl rfl rfl (congrArg (Value.int .u64) (Eq.symm (Int.tmod_eq_emod_of_nonneg (a := z.new) (by omega))))⟩, ?_⟩
        refine WQ.nil ?_
        intro m3
        replace hS := hS.drewN m3; generalize hwm3 : World.drewN _ _ = w at *; clear hwm3
        refine WL.call rfl rfl (set_any (t := t1) (m := m1) (xs := xs) (q := q) (s := cname z) (x := getH (List.map ab xs) (cname z)) (y := z.new % 5) (ht := (by assumption)) (hS := hS)) rfl ?_
        clear hS; rintro _ w ⟨xs1, q1, rfl, hS, f1, f2⟩
        replace hS : St g (cel t1 #[.map (some m1)] 62 :: blk m1 (.map (mE (List.map nbK xs1)) q1) :: Buns nbF xs1 :: cel b1 #[.int .i64 c.name, .string c.text, .int .u64 c.old, .int .u64 c.new, .bool c.raw, .bool c.fit] 40 :: Sh 40 6 (enC ls) a cc :: L) w := hS
        refine WL.nil ?_
        refine ⟨by exact trivial, ?_⟩
        intro m4
        replace hS := hS.drewN m4; generalize hwm4 : World.drewN _ _ = w at *; clear hwm4
        as_aux_lemma =>
          refine WC.region ?_
          refine WL.r 2 rfl ?_
          refine WL.nw 38 rfl (w64 (by omega)) ?_
          refine WL.r 1 rfl ?_
          refine WL.nil ?_
          exact ⟨_, by omega, k + 1, xs1, q1, rfl, hS, (by omega), (f1), (by have h9 := set_len (List.map ab xs) (cname z) (getH (List.map ab xs) (cname z)) (z.new % 5); rw [← f2, List.length_map, List.length_map] at h9; omega), rfl⟩
    · refine WC.exit ?_
      refine WC.seq ?_
      refine WC.region ?_
      refine WL.ldF rfl rfl 3 hS rfl rfl ag_40 ?_
      refine WL.call rfl rfl (cname_spec (c := c) (hc := (by assumption)) (hS := hS)) rfl ?_
      clear hS; rintro _ w ⟨rfl, hS⟩
      replace hS : St g (cel t1 #[.map (some m1)] 62 :: blk m1 (.map (mE (List.map nbK xs)) q) :: Buns nbF xs :: cel b1 #[.int .i64 c.name, .string c.text, .int .u64 c.old, .int .u64 c.new, .bool c.raw, .bool c.fit] 40 :: Sh 40 6 (enC ls) a cc :: L) w := hS
      refine WL.r 1 rfl ?_
      refine WL.nil ?_
      as_aux_lemma =>
        refine WC.seq ?_
        refine WC.region ?_
        refine WL.r 2 rfl ?_
        refine WL.call rfl rfl (get_any (t := t1) (m := m1) (xs := xs) (q := q) (s := cname c) (ht := (by assumption)) (hS := hS)) rfl ?_
        clear hS; rintro _ w ⟨rfl, hS⟩
        replace hS : St g (cel t1 #[.map (some m1)] 62 :: blk m1 (.map (mE (List.map nbK xs)) q) :: Buns nbF xs :: cel b1 #[.int .i64 c.name, .string c.text, .int .u64 c.old, .int .u64 c.new, .bool c.raw, .bool c.fit] 40 :: Sh 40 6 (enC ls) a cc :: L) w := hS
        refine WL.r 5 rfl ?_
        refine WL.nil ?_
        refine WC.seq ?_
        refine WC.seq ?_
        refine WC.region ?_
        refine WL.r 4 rfl ?_
        by_cases cg1 : x = (getH (List.map ab xs) (cname c))
        · refine WL.reb 74 (.bool true) (congrArg Value.bool (decide_eq_true cg1)) ?_
          refine WL.skp rfl rfl rfl rfl ?_
          refine WL.skp rfl rfl rfl rfl ?_
          refine WL.skp rfl rfl rfl rfl ?_
          refine WL.r 2 rfl ?_
          refine WL.skp rfl rfl rfl rfl ?_
          refine WL.skp rfl rfl rfl rfl ?_
          refine WL.skp rfl rfl rfl rfl ?_
          refine WL.r 2 rfl ?_
          refine WL.skp rfl rfl rfl rfl ?_
          refine WL.skp rfl rfl rfl rfl ?_
          refine WL.skp rfl rfl rfl rfl ?_
          refine WL.r 1 rfl ?_
          refine WL.nil ?_
          as_aux_lemma =>
            refine WC.ifT rfl rfl ?_
            refine WC.seq ?_
            refine WC.region ?_
            refine WL.r 1 rfl ?_
            refine WL.nil ?_
            refine WC.ret ?_
            refine ⟨[.bool true], rfl, ?_⟩
            replace hS := (hS.sel 5 [] rfl)
            exact ⟨rfl, hS⟩
        · refine WL.reb 74 (.bool false) (congrArg Value.bool (decide_eq_false cg1)) ?_
          refine WL.ung rfl rfl rfl ?_
          refine WL.r 1 rfl ?_
          refine WL.ung rfl rfl rfl ?_
          refine WL.r 1 rfl ?_
          refine WL.ung rfl rfl rfl ?_
          refine WL.r 3 rfl ?_
          by_cases cg2 : y = (getH (List.map ab xs) (cname c))
          · refine WL.reb 79 (.bool true) (congrArg Value.bool (decide_eq_true cg2)) ?_
            refine WL.skp rfl rfl rfl rfl ?_
            refine WL.skp rfl rfl rfl rfl ?_
            refine WL.skp rfl rfl rfl rfl ?_
            refine WL.r 2 rfl ?_
            refine WL.skp rfl rfl rfl rfl ?_
            refine WL.skp rfl rfl rfl rfl ?_
            refine WL.skp rfl rfl rfl rfl ?_
            refine WL.r 1 rfl ?_
            refine WL.nil ?_
            as_aux_lemma =>
              refine WC.ifT rfl rfl ?_
              refine WC.seq ?_
              refine WC.region ?_
              refine WL.r 1 rfl ?_
              refine WL.nil ?_
              refine WC.ret ?_
              refine ⟨[.bool true], rfl, ?_⟩
              replace hS := (hS.sel 5 [] rfl)
              exact ⟨rfl, hS⟩
          · refine WL.reb 79 (.bool false) (congrArg Value.bool (decide_eq_false cg2)) ?_
            refine WL.ung rfl rfl rfl ?_
            refine WL.r 1 rfl ?_
            refine WL.ung rfl rfl rfl ?_
            refine WL.r 1 rfl ?_
            refine WL.ung rfl rfl rfl ?_
            refine WL.r 3 rfl ?_
            by_cases cg3 : x = y
            · refine WL.reb 84 (.bool true) (congrArg Value.bool (decide_eq_true cg3)) ?_
              refine WL.skp rfl rfl rfl rfl ?_
              refine WL.skp rfl rfl rfl rfl ?_
              refine WL.skp rfl rfl rfl rfl ?_
              refine WL.r 1 rfl ?_
              refine WL.nil ?_
              as_aux_lemma =>
                refine WC.ifT rfl rfl ?_
                refine WC.seq ?_
                refine WC.region ?_
                refine WL.r 1 rfl ?_
                refine WL.nil ?_
                refine WC.ret ?_
                refine ⟨[.bool true], rfl, ?_⟩
                replace hS := (hS.sel 5 [] rfl)
                exact ⟨rfl, hS⟩
            · refine WL.reb 84 (.bool false) (congrArg Value.bool (decide_eq_false cg3)) ?_
              refine WL.ung rfl rfl rfl ?_
              refine WL.r 1 rfl ?_
              refine WL.ung rfl rfl rfl ?_
              refine WL.call rfl rfl (validName_spec (s := cname c)  (hS := hS)) rfl ?_
              clear hS; rintro _ w ⟨rfl, hS⟩
              replace hS : St g (cel t1 #[.map (some m1)] 62 :: blk m1 (.map (mE (List.map nbK xs)) q) :: Buns nbF xs :: cel b1 #[.int .i64 c.name, .string c.text, .int .u64 c.old, .int .u64 c.new, .bool c.raw, .bool c.fit] 40 :: Sh 40 6 (enC ls) a cc :: L) w := hS
              refine WL.ung rfl rfl rfl ?_
              refine WL.r 1 rfl ?_
              refine WL.prop 87 rfl (bnot (dd _)) ?_
              refine WL.r 1 rfl ?_
              refine WL.nil ?_
              as_aux_lemma =>
                refine WC.ifP rfl (fun cd2 => ?_) (fun cd2 => ?_)
                · refine WC.seq ?_
                  refine WC.region ?_
                  refine WL.r 1 rfl ?_
                  refine WL.nil ?_
                  refine WC.ret ?_
                  refine ⟨[.bool true], rfl, ?_⟩
                  replace hS := (hS.sel 5 [] rfl)
                  exact ⟨rfl, hS⟩
                · refine WC.skip ?_
                  refine WC.seq ?_
                  refine WC.region ?_
                  have hvn : okName (sb (cname c)) := Classical.not_not.1 cd2; have hok := set_ok (R := List.map ab xs) hvn (by rw [List.length_map]; omega) cg1
                  refine WL.r 4 rfl ?_
                  refine WL.call rfl rfl (set_any (t := t1) (m := m1) (xs := xs) (q := q) (s := cname c) (x := getH (List.map ab xs) (cname c)) (y := x) (ht := (by assumption)) (hS := hS)) rfl ?_
                  clear hS; rintro _ w ⟨xs1, q1, rfl, hS, f1, f2⟩
                  replace hS : St g (cel t1 #[.map (some m1)] 62 :: blk m1 (.map (mE (List.map nbK xs1)) q1) :: Buns nbF xs1 :: cel b1 #[.int .i64 c.name, .string c.text, .int .u64 c.old, .int .u64 c.new, .bool c.raw, .bool c.fit] 40 :: Sh 40 6 (enC ls) a cc :: L) w := hS
                  refine WL.r 1 rfl ?_
                  refine WL.nil ?_
                  refine WC.seq ?_
                  refine WC.region ?_
                  obtain ⟨rs, hrs, hsr⟩ := srt_ex (List.map nh xs1)
                  refine WL.r 1 rfl ?_
                  refine WL.call rfl rfl (list_spec (t := t1) (m := m1) (xs := xs1) (q := q1) (rs := rs) (ht := (by assumption)) (hp := hrs) (hs := hsr) (hS := hS)) rfl ?_
                  clear hS; rintro _ w ⟨a1, c1, rfl, hS⟩
                  replace hS : St g (Own 48 2 (nhs rs) a1 c1 :: cel t1 #[.map (some m1)] 62 :: blk m1 (.map (mE (List.map nbK xs1)) q1) :: Buns nbF xs1 :: cel b1 #[.int .i64 c.name, .string c.text, .int .u64 c.old, .int .u64 c.new, .bool c.raw, .bool c.fit] 40 :: Sh 40 6 (enC ls) a cc :: L) w := hS
                  refine WL.r 2 rfl ?_
                  refine WL.call rfl rfl (log_any (t := t1) (m := m1) (xs := xs1) (q := q1) (s := cname c) (ht := (by assumption)) (hS := (hS.sel 4 [1, 1, 1, 0] rfl))) rfl ?_
                  clear hS; rintro _ w ⟨a2, c2, rfl, hS⟩
                  replace hS : St g (Own 31 1 (u64s (logM (List.map ab xs1) (cname c))) a2 c2 :: cel t1 #[.map (some m1)] 62 :: blk m1 (.map (mE (List.map nbK xs1)) q1) :: Buns nbF xs1 :: Own 48 2 (nhs rs) a1 c1 :: cel b1 #[.int .i64 c.name, .string c.text, .int .u64 c.old, .int .u64 c.new, .bool c.raw, .bool c.fit] 40 :: Sh 40 6 (enC ls) a cc :: L) w := hS
                  refine WL.r 2 rfl ?_
                  refine WL.nil ?_
                  refine WC.seq ?_
                  refine WC.region ?_
                  have e1 := set_stale (R := List.map ab xs1) (s := cname c) (o := getH (List.map ab xs) (cname c)) (y := y) hvn (fun h => cg2 (h.2.trans h.1.symm)) (by rw [f2, hok.2]; exact cg1)
                  refine WL.r 4 rfl ?_
                  refine WL.call rfl rfl (set_any (t := t1) (m := m1) (xs := xs1) (q := q1) (s := cname c) (x := getH (List.map ab xs) (cname c)) (y := y) (ht := (by assumption)) (hS := (hS.sel 4 [1, 1, 1, 0] rfl))) rfl ?_
                  clear hS; rintro _ w ⟨xs2, q2, rfl, hS, f3, f4⟩
                  replace hS : St g (cel t1 #[.map (some m1)] 62 :: blk m1 (.map (mE (List.map nbK xs2)) q2) :: Buns nbF xs2 :: Own 31 1 (u64s (logM (List.map ab xs1) (cname c))) a2 c2 :: Own 48 2 (nhs rs) a1 c1 :: cel b1 #[.int .i64 c.name, .string c.text, .int .u64 c.old, .int .u64 c.new, .bool c.raw, .bool c.fit] 40 :: Sh 40 6 (enC ls) a cc :: L) w := hS
                  refine WL.r 1 rfl ?_
                  refine WL.nil ?_
                  as_aux_lemma =>
                    refine WC.seq ?_
                    refine WC.region ?_
                    have e2 : List.map ab xs2 = List.map ab xs1 := by rw [f4, e1]
                    refine WL.r 2 rfl ?_
                    refine WL.call rfl rfl (get_any (t := t1) (m := m1) (xs := xs2) (q := q2) (s := cname c) (ht := (by assumption)) (hS := hS)) rfl ?_
                    clear hS; rintro _ w ⟨rfl, hS⟩
                    replace hS : St g (cel t1 #[.map (some m1)] 62 :: blk m1 (.map (mE (List.map nbK xs2)) q2) :: Buns nbF xs2 :: Own 31 1 (u64s (logM (List.map ab xs1) (cname c))) a2 c2 :: Own 48 2 (nhs rs) a1 c1 :: cel b1 #[.int .i64 c.name, .string c.text, .int .u64 c.old, .int .u64 c.new, .bool c.raw, .bool c.fit] 40 :: Sh 40 6 (enC ls) a cc :: L) w := hS
                    refine WL.r 5 rfl ?_
                    refine WL.nil ?_
                    refine WC.seq ?_
                    refine WC.region ?_
                    refine WL.r 3 rfl ?_
                    refine WL.reb 112 (.bool true) (congrArg Value.bool (decide_eq_true (hok.1))) ?_
                    refine WL.ung rfl rfl rfl ?_
                    refine WL.r 1 rfl ?_
                    refine WL.ung rfl rfl rfl ?_
                    refine WL.r 3 rfl ?_
                    refine WL.reb 116 (.bool true) (congrArg Value.bool (decide_eq_true ((by rw [e1])))) ?_
                    refine WL.ung rfl rfl rfl ?_
                    refine WL.r 1 rfl ?_
                    refine WL.ung rfl rfl rfl ?_
                    refine WL.r 1 rfl ?_
                    refine WL.ung rfl rfl rfl ?_
                    refine WL.r 3 rfl ?_
                    refine WL.reb 121 (.bool true) (congrArg Value.bool (decide_eq_true ((by rw [e2, f2]; exact hok.2)))) ?_
                    refine WL.ung rfl rfl rfl ?_
                    refine WL.r 1 rfl ?_
                    refine WL.ung rfl rfl rfl ?_
                    refine WL.call rfl rfl (list_spec (t := t1) (m := m1) (xs := xs2) (q := q2) (rs := rs) (ht := (by assumption)) (hp := (by rw [show List.map nh xs2 = List.map nh xs1 by rw [← nh_ab, ← nh_ab, e2]]; exact hrs)) (hs := hsr) (hS := hS)) rfl ?_
                    clear hS; rintro _ w ⟨a3, c3, rfl, hS⟩
                    replace hS : St g (Own 48 2 (nhs rs) a3 c3 :: cel t1 #[.map (some m1)] 62 :: blk m1 (.map (mE (List.map nbK xs2)) q2) :: Buns nbF xs2 :: Own 31 1 (u64s (logM (List.map ab xs1) (cname c))) a2 c2 :: Own 48 2 (nhs rs) a1 c1 :: cel b1 #[.int .i64 c.name, .string c.text, .int .u64 c.old, .int .u64 c.new, .bool c.raw, .bool c.fit] 40 :: Sh 40 6 (enC ls) a cc :: L) w := hS
                    refine WL.ung rfl rfl rfl ?_
                    refine WL.r 1 rfl ?_
                    refine WL.ung rfl rfl rfl ?_
                    replace hS := (hS.at_ 0 rfl).share
                    replace hS : St g (Sh 48 2 (nhs rs) a3 c3 :: cel t1 #[.map (some m1)] 62 :: blk m1 (.map (mE (List.map nbK xs2)) q2) :: Buns nbF xs2 :: Own 31 1 (u64s (logM (List.map ab xs1) (cname c))) a2 c2 :: Own 48 2 (nhs rs) a1 c1 :: cel b1 #[.int .i64 c.name, .string c.text, .int .u64 c.old, .int .u64 c.new, .bool c.raw, .bool c.fit] 40 :: Sh 40 6 (enC ls) a cc :: L) w := hS
                    replace hS := (hS.at_ 5 rfl).share
                    replace hS : St g (Sh 48 2 (nhs rs) a1 c1 :: Sh 48 2 (nhs rs) a3 c3 :: cel t1 #[.map (some m1)] 62 :: blk m1 (.map (mE (List.map nbK xs2)) q2) :: Buns nbF xs2 :: Own 31 1 (u64s (logM (List.map ab xs1) (cname c))) a2 c2 :: cel b1 #[.int .i64 c.name, .string c.text, .int .u64 c.old, .int .u64 c.new, .bool c.raw, .bool c.fit] 40 :: Sh 40 6 (enC ls) a cc :: L) w := hS
                    refine WL.call rfl rfl (sameN (xs := rs) (ys := rs) (a := a3) (b := a1) (c := c3) (d := c1) (hl := (by rw [hrs.length_eq, List.length_map]; exact Nat.le_trans f1.num (by decide))) (hS := (hS.sel 2 [1, 0] rfl))) rfl ?_
                    clear hS; rintro _ w ⟨ok1, rfl, hS, f5⟩
                    replace hS : St g (Sh 48 2 (nhs rs) a3 c3 :: Sh 48 2 (nhs rs) a1 c1 :: cel t1 #[.map (some m1)] 62 :: blk m1 (.map (mE (List.map nbK xs2)) q2) :: Buns nbF xs2 :: Own 31 1 (u64s (logM (List.map ab xs1) (cname c))) a2 c2 :: cel b1 #[.int .i64 c.name, .string c.text, .int .u64 c.old, .int .u64 c.new, .bool c.raw, .bool c.fit] 40 :: Sh 40 6 (enC ls) a cc :: L) w := hS
                    refine WL.r 2 rfl ?_
                    refine WL.reb 127 (.bool true) (congrArg Value.bool ((f5.2 rfl))) ?_
                    refine WL.ung rfl rfl rfl ?_
                    refine WL.r 1 rfl ?_
                    refine WL.ung rfl rfl rfl ?_
                    refine WL.r 1 rfl ?_
                    refine WL.ung rfl rfl rfl ?_
                    refine WL.call rfl rfl (log_any (t := t1) (m := m1) (xs := xs2) (q := q2) (s := cname c) (ht := (by assumption)) (hS := (hS.sel 5 [2, 2, 2, 0, 0] rfl))) rfl ?_
                    clear hS; rintro _ w ⟨a4, c4, rfl, hS⟩
                    replace hS : St g (Own 31 1 (u64s (logM (List.map ab xs2) (cname c))) a4 c4 :: cel t1 #[.map (some m1)] 62 :: blk m1 (.map (mE (List.map nbK xs2)) q2) :: Buns nbF xs2 :: Sh 48 2 (nhs rs) a3 c3 :: Sh 48 2 (nhs rs) a1 c1 :: Own 31 1 (u64s (logM (List.map ab xs1) (cname c))) a2 c2 :: cel b1 #[.int .i64 c.name, .string c.text, .int .u64 c.old, .int .u64 c.new, .bool c.raw, .bool c.fit] 40 :: Sh 40 6 (enC ls) a cc :: L) w := hS
                    refine WL.ung rfl rfl rfl ?_
                    refine WL.r 1 rfl ?_
                    refine WL.ung rfl rfl rfl ?_
                    replace hS := (hS.at_ 0 rfl).share
                    replace hS : St g (Sh 31 1 (u64s (logM (List.map ab xs2) (cname c))) a4 c4 :: cel t1 #[.map (some m1)] 62 :: blk m1 (.map (mE (List.map nbK xs2)) q2) :: Buns nbF xs2 :: Sh 48 2 (nhs rs) a3 c3 :: Sh 48 2 (nhs rs) a1 c1 :: Own 31 1 (u64s (logM (List.map ab xs1) (cname c))) a2 c2 :: cel b1 #[.int .i64 c.name, .string c.text, .int .u64 c.old, .int .u64 c.new, .bool c.raw, .bool c.fit] 40 :: Sh 40 6 (enC ls) a cc :: L) w := hS
                    replace hS := (hS.at_ 6 rfl).share
                    replace hS : St g (Sh 31 1 (u64s (logM (List.map ab xs1) (cname c))) a2 c2 :: Sh 31 1 (u64s (logM (List.map ab xs2) (cname c))) a4 c4 :: cel t1 #[.map (some m1)] 62 :: blk m1 (.map (mE (List.map nbK xs2)) q2) :: Buns nbF xs2 :: Sh 48 2 (nhs rs) a3 c3 :: Sh 48 2 (nhs rs) a1 c1 :: cel b1 #[.int .i64 c.name, .string c.text, .int .u64 c.old, .int .u64 c.new, .bool c.raw, .bool c.fit] 40 :: Sh 40 6 (enC ls) a cc :: L) w := hS
                    refine WL.call rfl rfl (sameU (xs := logM (List.map ab xs2) (cname c)) (ys := logM (List.map ab xs1) (cname c)) (a := a4) (b := a2) (c := c4) (d := c2) (hl := (Nat.le_trans (log_len f3 _) (by decide))) (hS := (hS.sel 2 [1, 0] rfl))) rfl ?_
                    clear hS; rintro _ w ⟨ok2, rfl, hS, f6⟩
                    replace hS : St g (Sh 31 1 (u64s (logM (List.map ab xs2) (cname c))) a4 c4 :: Sh 31 1 (u64s (logM (List.map ab xs1) (cname c))) a2 c2 :: cel t1 #[.map (some m1)] 62 :: blk m1 (.map (mE (List.map nbK xs2)) q2) :: Buns nbF xs2 :: Sh 48 2 (nhs rs) a3 c3 :: Sh 48 2 (nhs rs) a1 c1 :: cel b1 #[.int .i64 c.name, .string c.text, .int .u64 c.old, .int .u64 c.new, .bool c.raw, .bool c.fit] 40 :: Sh 40 6 (enC ls) a cc :: L) w := hS
                    refine WL.r 2 rfl ?_
                    refine WL.nil ?_
                    as_aux_lemma =>
                      refine WC.ret ?_
                      refine ⟨[.bool ok2], rfl, ?_⟩
                      replace hS := (hS.sel 9 [] rfl)
                      exact ⟨congrArg Value.bool (f6.2 (by rw [e2])), hS⟩
end Go.Proofs.YtenkmjbghbegfaaDoor
