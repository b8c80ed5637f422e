/-
  The law NamesAgree, walked.
  Conditions: the arguments lie in their kinds.
-/
import Derived.Test.YtenkmjbghbegfaaDoorNm3
import Derived.Test.YtenkmjbghbegfaaDoorAny
import Derived.Test.YtenkmjbghbegfaaDoorCn
import Derived.Test.YtenkmjbghbegfaaDoorRan
import Derived.Test.YtenkmjbghbegfaaDoorTre
namespace Go.Proofs.YtenkmjbghbegfaaDoor
open Go Go.V

set_option maxHeartbeats 2000000 in
set_option maxRecDepth 8192 in
theorem law_agree {g w : World} {L : List HP} (ls : List Cl) (p : ByteArray) (a : Option Addr) (cc : Nat) (hls : ∀ z ∈ ls, ClOk z) (hS : St g (Sh 40 6 (enC ls) a cc :: L) w) :
    Sp Tryd.prog 5 [.slice a (List.length (enC ls)) cc, .string p] w (fun v w' => v = .bool true ∧ St g (L) w') := by
  refine Sp.enter Tryd.func5 rfl (by kernel_rfl) (by kernel_rfl) ?_
  refine WC.seq ?_
  refine WC.region ?_
  refine WL.r 1 rfl ?_
  refine WL.nil ?_
  refine WC.seq ?_
  refine WC.seq ?_
  refine WC.region ?_
  have hel := enC_len ls
  refine WL.r 3 rfl ?_
  refine WL.nil ?_
  refine WC.ifP rfl (fun cd1 => ?_) (fun cd1 => ?_)
  · refine WC.seq ?_
    refine WC.region ?_
    refine WL.call rfl rfl (awake_spec   (hS := hS)) rfl ?_
    clear hS; rintro _ w ⟨rfl, hS⟩
    replace hS : St g (Sh 40 6 (enC ls) a cc :: L) w := hS
    refine WL.r 1 rfl ?_
    refine WL.nil ?_
    refine WC.ret ?_
    refine ⟨[.bool true], rfl, ?_⟩
    replace hS := (hS.sel 1 [] rfl)
    exact ⟨rfl, hS⟩
  · refine WC.skip ?_
    refine WC.seq ?_
    refine WC.region ?_
    refine WL.call rfl rfl (new_spec   (hS := hS)) rfl ?_
    clear hS; rintro _ w ⟨t1, m1, rfl, hS⟩
    replace hS : St g (cel t1 #[.map (some m1)] 62 :: blk m1 (.map (mE (List.map nbK [])) 0) :: Buns nbF [] :: Sh 40 6 (enC ls) a cc :: L) w := hS
    refine WL.build rfl rfl (cs := [.slice none 0 0]) zv_38 rfl rfl ?_
    refine WL.new rfl rfl zv_38 hS (fun b1 w hS => ?_)
    refine WL.r 1 rfl ?_
    refine WL.stF rfl rfl rfl 0 hS rfl rfl rfl rfl rfl ag_38 (fun w hS => ?_)
    replace hS : St g (cel b1 #[.slice none 0 0] 38 :: cel t1 #[.map (some m1)] 62 :: blk m1 (.map (mE (List.map nbK [])) 0) :: Buns nbF [] :: Sh 40 6 (enC ls) a cc :: L) w := hS
    refine WL.nil ?_
    refine WC.seq ?_
    refine WC.seq ?_
    refine WC.region ?_
    refine WL.call rfl rfl (awake_spec   (hS := hS)) rfl ?_
    clear hS; rintro _ w ⟨rfl, hS⟩
    replace hS : St g (cel b1 #[.slice none 0 0] 38 :: cel t1 #[.map (some m1)] 62 :: blk m1 (.map (mE (List.map nbK [])) 0) :: Buns nbF [] :: Sh 40 6 (enC ls) a cc :: L) w := hS
    refine WL.r 2 rfl ?_
    refine WL.ung rfl rfl rfl ?_
    refine WL.r 1 rfl ?_
    refine WL.ung rfl rfl rfl ?_
    refine WL.r 2 rfl ?_
    refine WL.nil ?_
    as_aux_lemma =>
      refine WC.ifF rfl rfl ?_
      refine WC.skip ?_
      refine WC.seq ?_
      refine WC.seq ?_
      refine WC.region ?_
      refine WL.r 1 rfl ?_
      refine WL.nil ?_
      refine WC.block ?_
      replace hS := (hS.shsNil rwF).nilS 72 3
      replace hS : St g (Sh 72 3 (enR []) none 0 :: Shs rwF [] :: cel b1 #[.slice none 0 0] 38 :: cel t1 #[.map (some m1)] 62 :: blk m1 (.map (mE (List.map nbK [])) 0) :: Buns nbF [] :: Sh 40 6 (enC ls) a cc :: L) w := hS
      refine WC.loop [0, 1, 5, 6, 7] (fun kM vs w => ∃ (k : Nat) (xs : List NB) (q : Nat) (R : List RW) (ra : Option Addr) (rc : Nat), vs = [.slice a (List.length (enC ls)) cc, .string p, .pointer (some ⟨t1, 0, none⟩), .pointer (some ⟨b1, 0, none⟩), .int .i64 (k : Int)] ∧ St g (Sh 72 3 (enR R) ra rc :: Shs rwF R :: cel b1 #[.slice ra (List.length (enR R)) rc] 38 :: cel t1 #[.map (some m1)] 62 :: blk m1 (.map (mE (List.map nbK xs)) q) :: Buns nbF xs :: Sh 40 6 (enC ls) a cc :: L) w ∧ (k ≤ ls.length) ∧ (TOk xs q) ∧ (Kp (List.map ab xs) R) ∧ (ls.length - k) = kM) ((List.length ls) - 0) ⟨0, [], 0, [], none, 0, rfl, hS, (by omega), (TOk.nil), (Kp.nil), rfl⟩ ?_
      clear hS; rintro _ _ w j ⟨k, xs, q, R, ra, rc, rfl, hS, hk, ht, hR, rfl⟩
      refine WC.seq ?_
      refine WC.seq ?_
      refine WC.region ?_
      refine WL.r 4 rfl ?_
      refine WL.nil ?_
      refine WC.ifP rfl (fun cd2 => ?_) (fun cd2 => ?_)
      · refine WC.skip ?_
        refine WC.seq ?_
        refine WC.block ?_
        refine WC.seq ?_
        refine WC.plan [([0, 1, 5, 6, 2, 7, 3, 8, 9, 10], some (4, [5, 6, 7, 8, 9, 10])), ([11, 12], none)] (by kernel_rfl) (by kernel_rfl) ?_
        refine WQ.r 4 rfl ?_
        obtain ⟨z, hz⟩ : ∃ z, ls[k]? = some z := ⟨_, List.getElem?_eq_getElem (by omega)⟩; have hzo := hls z (List.mem_of_getElem? hz); have hzod := hzo.od; have hznw := hzo.nw
        refine WQ.ix rfl rfl (i := (k : Int)) (k) el_35 rfl rfl (by omega) (len_of (enC_at hz)) (hS.rdS 6 rfl (enC_at hz)).1 ?_
        refine WQ.ix rfl rfl (i := (k : Int)) (k) el_35 rfl rfl (by omega) (len_of (enC_at hz)) (hS.rdS 6 rfl (enC_at hz)).1 ?_
        refine WQ.ldC rfl rfl [.int .i64 z.name, .string z.text, .int .u64 z.old, .int .u64 z.new, .bool z.raw, .bool z.fit] ag_40 rfl (hS.rdS 6 rfl (enC_at hz)).2 ?_
        refine WQ.run 3 [.int .u64 z.old] rfl (by exact (hS.rdS 6 rfl (enC_at hz)).2 2 _ rfl) ?_
        refine WQ.reb 46 (.int .u64 (z.old % 5)) (congrArg (Value.int .u64) (Int.tmod_eq_emod_of_nonneg (a := z.old) (by omega))) ?_
        refine WQ.nil ?_
        intro m2
        replace hS := hS.drewN m2; generalize hwm2 : World.drewN _ _ = w at *; clear hwm2
        refine WL.call rfl rfl (cname_spec (c := z) (hc := (by assumption)) (hS := hS)) rfl ?_
        clear hS; rintro _ w ⟨rfl, hS⟩
        replace hS : St g (Sh 72 3 (enR R) ra rc :: Shs rwF R :: cel b1 #[.slice ra (List.length (enR R)) rc] 38 :: cel t1 #[.map (some m1)] 62 :: blk m1 (.map (mE (List.map nbK xs)) q) :: Buns nbF xs :: Sh 40 6 (enC ls) a cc :: L) w := hS
        refine WL.nil ?_
        refine ⟨by exact ⟨RQ.pure rfl rfl rfl rfl, RQ.pure rfl rfl rfl rfl, RQ.ix rfl rfl (i := (k : Int)) (k) el_35 rfl rfl (by omega) (len_of (enC_at hz)) (hS.rdS 6 rfl (enC_at hz)).1 rfl rfl, RQ.pure rfl rfl rfl rfl, RQ.load rfl rfl rfl rfl ((hS.rdS 6 rfl (enC_at hz)).2 2 _ rfl), RQ.pure rfl rfl rfl (congrArg (Value.int .u64) (Eq.symm (Int.tmod_eq_emod_of_nonneg (a := z.old) (by omega))))⟩, ?_⟩
        refine WQ.r 2 rfl ?_
        refine WQ.nil ?_
        intro m3
        replace hS := hS.drewN m3; generalize hwm3 : World.drewN _ _ = w at *; clear hwm3
        as_aux_lemma =>
          refine WC.seq ?_
          refine WC.seq ?_
          refine WC.region ?_
          refine WL.ldF rfl rfl 2 hS rfl rfl ag_38 ?_
          refine WL.r 1 rfl ?_
          refine WL.call rfl rfl (rget_any (T := List.map ab xs) (R := R) (s := cname z) (a := ra) (c := rc) (hk := hR) (hT := ht.tg) (hS := hS)) rfl ?_
          clear hS; rintro _ w ⟨rfl, hS⟩
          replace hS : St g (Sh 72 3 (enR R) ra rc :: Shs rwF R :: cel b1 #[.slice ra (List.length (enR R)) rc] 38 :: cel t1 #[.map (some m1)] 62 :: blk m1 (.map (mE (List.map nbK xs)) q) :: Buns nbF xs :: Sh 40 6 (enC ls) a cc :: L) w := hS
          refine WL.r 5 rfl ?_
          refine WL.nil ?_
          refine WC.seq ?_
          refine WC.region ?_
          refine WL.r 2 rfl ?_
          refine WL.ix rfl rfl (i := (k : Int)) (k) el_35 rfl rfl (by omega) (len_of (enC_at hz)) (hS.rdS 6 rfl (enC_at hz)).1 ?_
          refine WL.run 2 [.bool z.fit] rfl (by exact (hS.rdS 6 rfl (enC_at hz)).2 5 _ rfl) ?_
          refine WL.nil ?_
          refine WC.cut [0, 1, 5, 6, 7, 8, 9, 10, 30, 31, 32, 33, 36, 37, 38, 39, 40, 41, 42, 43, 44, 45, 46, 47, 48, 49, 50, 51, 52, 53, 54, 55, 56, 57] (fun vs w => ∃ (od : Int), vs = [.slice a (List.length (enC ls)) cc, .string p, .pointer (some ⟨t1, 0, none⟩), .pointer (some ⟨b1, 0, none⟩), .int .i64 (k : Int), .string (cname z), .int .u64 od, .int .u64 (getH (List.map ab xs) (cname z)), .int .i64 (k : Int), .slice a (List.length (enC ls)) cc, .int .i64 (List.length (enC ls) : Int), .bool (decide ((k : Int) < (List.length (enC ls) : Int))), .slice a (List.length (enC ls)) cc, .int .i64 (k : Int), .pointer (some ⟨bo a, (oo a) + (k * 6), none⟩), .agg #[.int .i64 z.name, .string z.text, .int .u64 z.old, .int .u64 z.new, .bool z.raw, .bool z.fit], .string (cname z), .slice a (List.length (enC ls)) cc, .int .i64 (k : Int), .pointer (some ⟨bo a, (oo a) + (k * 6), none⟩), .pointer (some ⟨bo a, ((oo a) + (k * 6)) + 2, none⟩), .int .u64 z.old, .int .u64 (z.old % 5), .tuple #[.int .u64 (getH (List.map ab xs) (cname z)), .bool (getB (List.map ab xs) (cname z))], .agg #[.slice ra (List.length (enR R)) rc], .string (cname z), .tuple #[.int .u64 (getH (List.map ab xs) (cname z)), .bool (getB (List.map ab xs) (cname z))], .int .u64 (getH (List.map ab xs) (cname z)), .bool (getB (List.map ab xs) (cname z)), .slice a (List.length (enC ls)) cc, .int .i64 (k : Int), .pointer (some ⟨bo a, (oo a) + (k * 6), none⟩), .pointer (some ⟨bo a, ((oo a) + (k * 6)) + 5, none⟩), .bool z.fit] ∧ St g (Sh 72 3 (enR R) ra rc :: Shs rwF R :: cel b1 #[.slice ra (List.length (enR R)) rc] 38 :: cel t1 #[.map (some m1)] 62 :: blk m1 (.map (mE (List.map nbK xs)) q) :: Buns nbF xs :: Sh 40 6 (enC ls) a cc :: L) w) ?_ ?_
          · refine WC.if_ rfl (fun cd3 => ?_) (fun cd3 => ?_)
            · refine WC.region ?_
              refine WL.r 2 rfl ?_
              refine WL.nil ?_
              exact ⟨getH (List.map ab xs) (cname z), rfl, hS⟩
            · refine WC.skip ?_
              exact ⟨z.old % 5, rfl, hS⟩
          clear hS; rintro _ w j ⟨od, rfl, hS⟩
          refine WC.seq ?_
          refine WC.cut [0, 1, 5, 6, 7, 8, 9, 10, 12, 13, 30, 31, 32, 33, 36, 37, 38, 39, 40, 41, 42, 43, 44, 45, 46, 47, 48, 49, 50, 51, 52, 53, 54, 55, 56, 57] (fun vs w => ∃ (R1 : List RW) (ra1 : Option Addr) (rc1 b9 : Nat), vs = [.slice a (List.length (enC ls)) cc, .string p, .pointer (some ⟨t1, 0, none⟩), .pointer (some ⟨b1, 0, none⟩), .int .i64 (k : Int), .string (cname z), .int .u64 od, .int .u64 (getH (List.map ab xs) (cname z)), .pointer (some ⟨b9, 0, none⟩), .int .i64 (setM (List.map ab xs) (cname z) od (z.new % 5)).1, .int .i64 (k : Int), .slice a (List.length (enC ls)) cc, .int .i64 (List.length (enC ls) : Int), .bool (decide ((k : Int) < (List.length (enC ls) : Int))), .slice a (List.length (enC ls)) cc, .int .i64 (k : Int), .pointer (some ⟨bo a, (oo a) + (k * 6), none⟩), .agg #[.int .i64 z.name, .string z.text, .int .u64 z.old, .int .u64 z.new, .bool z.raw, .bool z.fit], .string (cname z), .slice a (List.length (enC ls)) cc, .int .i64 (k : Int), .pointer (some ⟨bo a, (oo a) + (k * 6), none⟩), .pointer (some ⟨bo a, ((oo a) + (k * 6)) + 2, none⟩), .int .u64 z.old, .int .u64 (z.old % 5), .tuple #[.int .u64 (getH (List.map ab xs) (cname z)), .bool (getB (List.map ab xs) (cname z))], .agg #[.slice ra (List.length (enR R)) rc], .string (cname z), .tuple #[.int .u64 (getH (List.map ab xs) (cname z)), .bool (getB (List.map ab xs) (cname z))], .int .u64 (getH (List.map ab xs) (cname z)), .bool (getB (List.map ab xs) (cname z)), .slice a (List.length (enC ls)) cc, .int .i64 (k : Int), .pointer (some ⟨bo a, (oo a) + (k * 6), none⟩), .pointer (some ⟨bo a, ((oo a) + (k * 6)) + 5, none⟩), .bool z.fit] ∧ St g (Sh 72 3 (enR R1) ra1 rc1 :: Shs rwF R1 :: cel b9 #[.slice ra1 (List.length (enR R1)) rc1] 38 :: cel b1 #[.slice ra (List.length (enR R)) rc] 38 :: cel t1 #[.map (some m1)] 62 :: blk m1 (.map (mE (List.map nbK xs)) q) :: Buns nbF xs :: Sh 40 6 (enC ls) a cc :: L) w ∧ (Kp (setM (List.map ab xs) (cname z) od (z.new % 5)).2 R1)) ?_ ?_
          · refine WC.tree (.two [0, 1, 2, 3, 4, 5, 6, 7, 8] 9 [] (.one [10, 11, 12] 13 [0, 1, 2, 3, 4, 5, 6, 7, 8, 10, 11, 12] (.one [] 14 [12] (.seg [15] .nil))) 13 [0, 1, 2, 3, 4, 5, 6, 7, 8] (.one [] 9 [] (.one [10, 11, 12] 14 [12] (.seg [15] .nil)))) (by kernel_rfl) (by kernel_rfl) ?_
            refine WQ.ldF rfl rfl 2 hS rfl rfl ag_38 ?_
            refine WQ.r 4 rfl ?_
            refine WQ.ix rfl rfl (i := (k : Int)) (k) el_35 rfl rfl (by omega) (len_of (enC_at hz)) (hS.rdS 6 rfl (enC_at hz)).1 ?_
            refine WQ.run 3 [.int .u64 z.new] rfl (by exact (hS.rdS 6 rfl (enC_at hz)).2 3 _ rfl) ?_
            refine WQ.reb 68 (.int .u64 (z.new % 5)) (congrArg (Value.int .u64) (Int.tmod_eq_emod_of_nonneg (a := z.new) (by omega))) ?_
            refine WQ.nil ?_
            intro m4
            replace hS := hS.drewN m4; generalize hwm4 : World.drewN _ _ = w at *; clear hwm4
            refine ⟨?_, ?_⟩
            · refine WL.call rfl rfl (rset_any (T := List.map ab xs) (R := R) (s := cname z) (x := od) (y := z.new % 5) (a := ra) (c := rc) (hk := hR) (hT := ht.tg) (hS := hS)) rfl ?_
              clear hS; rintro _ w ⟨R1, a1, c1, rfl, hS, f1⟩
              replace hS : St g (Sh 72 3 (enR R1) a1 c1 :: Shs rwF R1 :: cel b1 #[.slice ra (List.length (enR R)) rc] 38 :: cel t1 #[.map (some m1)] 62 :: blk m1 (.map (mE (List.map nbK xs)) q) :: Buns nbF xs :: Sh 40 6 (enC ls) a cc :: L) w := hS
              refine WL.nil ?_
              refine ⟨by exact trivial, ?_⟩
              refine WQ.r 3 rfl ?_
              refine WQ.nil ?_
              intro m5
              replace hS := hS.drewN m5; generalize hwm5 : World.drewN _ _ = w at *; clear hwm5
              refine WL.new rfl rfl zv_38 hS (fun b2 w hS => ?_)
              refine WL.nil ?_
              refine ⟨by exact ⟨RQ.ldF rfl rfl 3 hS rfl rfl ag_38 rfl rfl, RQ.pure rfl rfl rfl rfl, RQ.pure rfl rfl rfl rfl, RQ.pure rfl rfl rfl rfl, RQ.pure rfl rfl rfl rfl, RQ.ix rfl rfl (i := (k : Int)) (k) el_35 rfl rfl (by omega) (len_of (enC_at hz)) (hS.rdS 7 rfl (enC_at hz)).1 rfl rfl, RQ.pure rfl rfl rfl rfl, RQ.load rfl rfl rfl rfl ((hS.rdS 7 rfl (enC_at hz)).2 3 _ rfl), RQ.pure rfl rfl rfl (congrArg (Value.int .u64) (Eq.symm (Int.tmod_eq_emod_of_nonneg (a := z.new) (by omega)))), RQ.pure rfl rfl rfl rfl, RQ.pure rfl rfl rfl rfl, RQ.pure rfl rfl rfl rfl⟩, ?_⟩
              refine WQ.nil ?_
              intro m6
              replace hS := hS.drewN m6; generalize hwm6 : World.drewN _ _ = w at *; clear hwm6
              refine WL.stF rfl rfl rfl 0 hS rfl rfl rfl rfl rfl ag_38 (fun w hS => ?_)
              replace hS : St g (cel b2 #[.slice a1 (List.length (enR R1)) c1] 38 :: Sh 72 3 (enR R1) a1 c1 :: Shs rwF R1 :: cel b1 #[.slice ra (List.length (enR R)) rc] 38 :: cel t1 #[.map (some m1)] 62 :: blk m1 (.map (mE (List.map nbK xs)) q) :: Buns nbF xs :: Sh 40 6 (enC ls) a cc :: L) w := hS
              refine WL.nil ?_
              refine ⟨by exact RQ.pure rfl rfl rfl rfl, ?_⟩
              refine WQ.r 1 rfl ?_
              refine WQ.nil ?_
              intro m7
              replace hS := hS.drewN m7; generalize hwm7 : World.drewN _ _ = w at *; clear hwm7
              exact ⟨R1, a1, c1, b2, rfl, (hS.sel 3 [1, 1, 0] rfl), (f1)⟩
            · refine WL.new rfl rfl zv_38 hS (fun b2 w hS => ?_)
              refine WL.nil ?_
              refine ⟨by exact ⟨RQ.ldF rfl rfl 3 hS rfl rfl ag_38 rfl rfl, RQ.pure rfl rfl rfl rfl, RQ.pure rfl rfl rfl rfl, RQ.pure rfl rfl rfl rfl, RQ.pure rfl rfl rfl rfl, RQ.ix rfl rfl (i := (k : Int)) (k) el_35 rfl rfl (by omega) (len_of (enC_at hz)) (hS.rdS 7 rfl (enC_at hz)).1 rfl rfl, RQ.pure rfl rfl rfl rfl, RQ.load rfl rfl rfl rfl ((hS.rdS 7 rfl (enC_at hz)).2 3 _ rfl), RQ.pure rfl rfl rfl (congrArg (Value.int .u64) (Eq.symm (Int.tmod_eq_emod_of_nonneg (a := z.new) (by omega))))⟩, ?_⟩
              refine WQ.nil ?_
              intro m5
              replace hS := hS.drewN m5; generalize hwm5 : World.drewN _ _ = w at *; clear hwm5
              refine WL.call rfl rfl (rset_any (T := List.map ab xs) (R := R) (s := cname z) (x := od) (y := z.new % 5) (a := ra) (c := rc) (hk := hR) (hT := ht.tg) (hS := (hS.sel 3 [1, 1, 0] rfl))) rfl ?_
              clear hS; rintro _ w ⟨R1, a1, c1, rfl, hS, f1⟩
              replace hS : St g (Sh 72 3 (enR R1) a1 c1 :: Shs rwF R1 :: cel b2 #[.slice none 0 0] 38 :: cel b1 #[.slice ra (List.length (enR R)) rc] 38 :: cel t1 #[.map (some m1)] 62 :: blk m1 (.map (mE (List.map nbK xs)) q) :: Buns nbF xs :: Sh 40 6 (enC ls) a cc :: L) w := hS
              refine WL.nil ?_
              refine ⟨by exact trivial, ?_⟩
              refine WQ.r 3 rfl ?_
              refine WQ.nil ?_
              intro m6
              replace hS := hS.drewN m6; generalize hwm6 : World.drewN _ _ = w at *; clear hwm6
              refine WL.stF rfl rfl rfl 2 hS rfl rfl rfl rfl rfl ag_38 (fun w hS => ?_)
              replace hS : St g (Sh 72 3 (enR R1) a1 c1 :: Shs rwF R1 :: cel b2 #[.slice a1 (List.length (enR R1)) c1] 38 :: cel b1 #[.slice ra (List.length (enR R)) rc] 38 :: cel t1 #[.map (some m1)] 62 :: blk m1 (.map (mE (List.map nbK xs)) q) :: Buns nbF xs :: Sh 40 6 (enC ls) a cc :: L) w := hS
              refine WL.nil ?_
              refine ⟨by exact RQ.pure rfl rfl rfl rfl, ?_⟩
              refine WQ.r 1 rfl ?_
              refine WQ.nil ?_
              intro m7
              replace hS := hS.drewN m7; generalize hwm7 : World.drewN _ _ = w at *; clear hwm7
              exact ⟨R1, a1, c1, b2, rfl, hS, (f1)⟩
          clear hS; rintro _ w j ⟨R1, ra1, rc1, b9, rfl, hS, hR1⟩
          refine WC.seq ?_
          refine WC.seq ?_
          refine WC.region ?_
          refine WL.r 5 rfl ?_
          refine WL.ix rfl rfl (i := (k : Int)) (k) el_35 rfl rfl (by omega) (len_of (enC_at hz)) (hS.rdS 7 rfl (enC_at hz)).1 ?_
          refine WL.run 3 [.int .u64 z.new] rfl (by exact (hS.rdS 7 rfl (enC_at hz)).2 3 _ rfl) ?_
          refine WL.reb 80 (.int .u64 (z.new % 5)) (congrArg (Value.int .u64) (Int.tmod_eq_emod_of_nonneg (a := z.new) (by omega))) ?_
          refine WL.call rfl rfl (set_any (t := t1) (m := m1) (xs := xs) (q := q) (s := cname z) (x := od) (y := z.new % 5) (ht := (by assumption)) (hS := (hS.sel 7 [4, 4, 4, 0, 0, 0, 0] rfl))) rfl ?_
          clear hS; rintro _ w ⟨xs1, q1, rfl, hS, f1, f2⟩
          replace hS : St g (cel t1 #[.map (some m1)] 62 :: blk m1 (.map (mE (List.map nbK xs1)) q1) :: Buns nbF xs1 :: Sh 72 3 (enR R1) ra1 rc1 :: Shs rwF R1 :: cel b9 #[.slice ra1 (List.length (enR R1)) rc1] 38 :: cel b1 #[.slice ra (List.length (enR R)) rc] 38 :: Sh 40 6 (enC ls) a cc :: L) w := hS
          refine WL.r 2 rfl ?_
          refine WL.nil ?_
          as_aux_lemma =>
            refine WC.ifF rfl (decide_eq_false ((fun h => h rfl))) ?_
            refine WC.skip ?_
            refine WC.seq ?_
            refine WC.region ?_
            refine WL.ldF rfl rfl 5 hS rfl rfl ag_38 ?_
            refine WL.stF rfl rfl rfl 6 hS rfl rfl rfl rfl rfl ag_38 (fun w hS => ?_)
            replace hS : St g (cel t1 #[.map (some m1)] 62 :: blk m1 (.map (mE (List.map nbK xs1)) q1) :: Buns nbF xs1 :: Sh 72 3 (enR R1) ra1 rc1 :: Shs rwF R1 :: cel b9 #[.slice ra1 (List.length (enR R1)) rc1] 38 :: cel b1 #[.slice ra1 (List.length (enR R1)) rc1] 38 :: Sh 40 6 (enC ls) a cc :: L) w := hS
            refine WL.nil ?_
            refine WC.seq ?_
            refine WC.region ?_
            have hR2 : Kp (List.map ab xs1) R1 := by rw [f2]; exact hR1
            have hn9 : (rN R1).length ≤ 1000000 := by rw [rN_len, hR2.len]; exact Nat.le_trans f1.tg.num (by decide)
            refine WL.r 2 rfl ?_
            refine WL.call rfl rfl (get_any (t := t1) (m := m1) (xs := xs1) (q := q1) (s := cname z) (ht := (by assumption)) (hS := hS)) rfl ?_
            clear hS; rintro _ w ⟨rfl, hS⟩
            replace hS : St g (cel t1 #[.map (some m1)] 62 :: blk m1 (.map (mE (List.map nbK xs1)) q1) :: Buns nbF xs1 :: Sh 72 3 (enR R1) ra1 rc1 :: Shs rwF R1 :: cel b9 #[.slice ra1 (List.length (enR R1)) rc1] 38 :: cel b1 #[.slice ra1 (List.length (enR R1)) rc1] 38 :: Sh 40 6 (enC ls) a cc :: L) w := hS
            refine WL.r 5 rfl ?_
            refine WL.nil ?_
            refine WC.seq ?_
            refine WC.region ?_
            refine WL.ldF rfl rfl 6 hS rfl rfl ag_38 ?_
            refine WL.r 1 rfl ?_
            refine WL.call rfl rfl (rget_any (T := List.map ab xs1) (R := R1) (s := cname z) (a := ra1) (c := rc1) (hk := hR2) (hT := f1.tg) (hS := (hS.sel 4 [3, 0, 0, 0] rfl))) rfl ?_
            clear hS; rintro _ w ⟨rfl, hS⟩
            replace hS : St g (Sh 72 3 (enR R1) ra1 rc1 :: cel t1 #[.map (some m1)] 62 :: blk m1 (.map (mE (List.map nbK xs1)) q1) :: Buns nbF xs1 :: Shs rwF R1 :: cel b9 #[.slice ra1 (List.length (enR R1)) rc1] 38 :: cel b1 #[.slice ra1 (List.length (enR R1)) rc1] 38 :: Sh 40 6 (enC ls) a cc :: L) w := hS
            refine WL.r 5 rfl ?_
            refine WL.nil ?_
            as_aux_lemma =>
              refine WC.seq ?_
              refine WC.plan [([0, 1, 2, 3, 4, 5, 6, 7, 8, 9, 10, 12, 13], some (11, [12, 13])), ([], some (14, [])), ([], some (15, [])), ([16, 17, 18, 19, 21], some (20, [21])), ([], some (22, [])), ([], some (23, [])), ([24, 25, 26, 27, 28, 30, 31], some (29, [30, 31])), ([], some (32, [])), ([], some (33, [])), ([34, 35, 36, 37, 39], some (38, [39])), ([], some (40, [])), ([], some (41, [])), ([42, 43], none)] (by kernel_rfl) (by kernel_rfl) ?_
              refine WQ.r 4 rfl ?_
              refine WQ.reb 100 (.bool false) (congrArg Value.bool (decide_eq_false ((fun h => h rfl)))) ?_
              refine WQ.ung rfl rfl rfl ?_
              refine WQ.r 1 rfl ?_
              refine WQ.ung rfl rfl rfl ?_
              refine WQ.r 1 rfl ?_
              refine WQ.ung rfl rfl rfl ?_
              refine WQ.r 3 rfl ?_
              refine WQ.reb 105 (.bool false) (congrArg Value.bool (Bool.eq_false_iff.2 ((by simp)))) ?_
              refine WQ.ung rfl rfl rfl ?_
              refine WQ.r 1 rfl ?_
              refine WQ.ung rfl rfl rfl ?_
              refine WQ.r 1 rfl ?_
              refine WQ.ung rfl rfl rfl ?_
              refine WQ.ldF rfl rfl 6 hS rfl rfl ag_38 ?_
              refine WQ.ung rfl rfl rfl ?_
              refine WQ.r 1 rfl ?_
              refine WQ.nil ?_
              intro m4
              replace hS := hS.drewN m4; generalize hwm4 : World.drewN _ _ = w at *; clear hwm4
              refine WL.ung rfl rfl rfl ?_
              refine WL.call rfl rfl (log_any (t := t1) (m := m1) (xs := xs1) (q := q1) (s := cname z) (ht := (by assumption)) (hS := (hS.sel 4 [1, 1, 1, 0] rfl))) rfl ?_
              clear hS; rintro _ w ⟨a1, c1, rfl, hS⟩
              replace hS : St g (Own 31 1 (u64s (logM (List.map ab xs1) (cname z))) a1 c1 :: cel t1 #[.map (some m1)] 62 :: blk m1 (.map (mE (List.map nbK xs1)) q1) :: Buns nbF xs1 :: Sh 72 3 (enR R1) ra1 rc1 :: Shs rwF R1 :: cel b9 #[.slice ra1 (List.length (enR R1)) rc1] 38 :: cel b1 #[.slice ra1 (List.length (enR R1)) rc1] 38 :: Sh 40 6 (enC ls) a cc :: L) w := hS
              refine WL.nil ?_
              refine ⟨by exact ⟨RQ.ung rfl rfl rfl (RQ.ldF rfl rfl 7 hS rfl rfl ag_38 rfl rfl), RQ.ung rfl rfl rfl (RQ.pure rfl rfl rfl rfl)⟩, ?_⟩
              refine WQ.nil ?_
              intro m5
              replace hS := hS.drewN m5; generalize hwm5 : World.drewN _ _ = w at *; clear hwm5
              refine WL.ung rfl rfl rfl ?_
              refine WL.call rfl rfl (rlog_any (T := List.map ab xs1) (R := R1) (s := cname z) (a := ra1) (c := rc1) (hk := hR2) (hT := f1.tg) (hS := (hS.sel 6 [4, 4, 0, 0, 0, 0] rfl))) rfl ?_
              clear hS; rintro _ w ⟨a2, c2, rfl, hS⟩
              replace hS : St g (Own 31 1 (u64s (logM (List.map ab xs1) (cname z))) a2 c2 :: Sh 72 3 (enR R1) ra1 rc1 :: Shs rwF R1 :: Own 31 1 (u64s (logM (List.map ab xs1) (cname z))) a1 c1 :: cel t1 #[.map (some m1)] 62 :: blk m1 (.map (mE (List.map nbK xs1)) q1) :: Buns nbF xs1 :: cel b9 #[.slice ra1 (List.length (enR R1)) rc1] 38 :: cel b1 #[.slice ra1 (List.length (enR R1)) rc1] 38 :: Sh 40 6 (enC ls) a cc :: L) w := hS
              refine WL.nil ?_
              refine ⟨by exact trivial, ?_⟩
              refine WQ.nil ?_
              intro m6
              replace hS := hS.drewN m6; generalize hwm6 : World.drewN _ _ = w at *; clear hwm6
              refine WL.ung rfl rfl rfl ?_
              replace hS := (hS.at_ 3 rfl).share
              replace hS : St g (Sh 31 1 (u64s (logM (List.map ab xs1) (cname z))) a1 c1 :: Own 31 1 (u64s (logM (List.map ab xs1) (cname z))) a2 c2 :: Sh 72 3 (enR R1) ra1 rc1 :: Shs rwF R1 :: cel t1 #[.map (some m1)] 62 :: blk m1 (.map (mE (List.map nbK xs1)) q1) :: Buns nbF xs1 :: cel b9 #[.slice ra1 (List.length (enR R1)) rc1] 38 :: cel b1 #[.slice ra1 (List.length (enR R1)) rc1] 38 :: Sh 40 6 (enC ls) a cc :: L) w := hS
              replace hS := (hS.at_ 1 rfl).share
              replace hS : St g (Sh 31 1 (u64s (logM (List.map ab xs1) (cname z))) a2 c2 :: Sh 31 1 (u64s (logM (List.map ab xs1) (cname z))) a1 c1 :: Sh 72 3 (enR R1) ra1 rc1 :: Shs rwF R1 :: cel t1 #[.map (some m1)] 62 :: blk m1 (.map (mE (List.map nbK xs1)) q1) :: Buns nbF xs1 :: cel b9 #[.slice ra1 (List.length (enR R1)) rc1] 38 :: cel b1 #[.slice ra1 (List.length (enR R1)) rc1] 38 :: Sh 40 6 (enC ls) a cc :: L) w := hS
              refine WL.call rfl rfl (sameU (xs := logM (List.map ab xs1) (cname z)) (ys := logM (List.map ab xs1) (cname z)) (a := a1) (b := a2) (c := c1) (d := c2) (hl := (Nat.le_trans (log_len f1 _) (by decide))) (hS := (hS.sel 2 [1, 0] rfl))) rfl ?_
              clear hS; rintro _ w ⟨ok1, rfl, hS, f3⟩
              replace hS : St g (Sh 31 1 (u64s (logM (List.map ab xs1) (cname z))) a1 c1 :: Sh 31 1 (u64s (logM (List.map ab xs1) (cname z))) a2 c2 :: Sh 72 3 (enR R1) ra1 rc1 :: Shs rwF R1 :: cel t1 #[.map (some m1)] 62 :: blk m1 (.map (mE (List.map nbK xs1)) q1) :: Buns nbF xs1 :: cel b9 #[.slice ra1 (List.length (enR R1)) rc1] 38 :: cel b1 #[.slice ra1 (List.length (enR R1)) rc1] 38 :: Sh 40 6 (enC ls) a cc :: L) w := hS
              refine WL.nil ?_
              refine ⟨by exact trivial, ?_⟩
              refine WQ.ung rfl rfl rfl ?_
              refine WQ.r 1 rfl ?_
              refine WQ.r 2 rfl ?_
              refine WQ.reb 115 (.bool false) (congrArg Value.bool (Bool.eq_false_iff.2 ((by rw [f3.2 rfl]; decide)))) ?_
              refine WQ.ung rfl rfl rfl ?_
              refine WQ.r 1 rfl ?_
              refine WQ.ung rfl rfl rfl ?_
              refine WQ.ldF rfl rfl 8 hS rfl rfl ag_38 ?_
              refine WQ.nil ?_
              intro m7
              replace hS := hS.drewN m7; generalize hwm7 : World.drewN _ _ = w at *; clear hwm7
              refine WL.ung rfl rfl rfl ?_
              refine WL.call rfl rfl (list_spec (t := t1) (m := m1) (xs := xs1) (q := q1) (rs := rN R1) (ht := (by assumption)) (hp := hR2.rN) (hs := hR2.srt) (hS := (hS.sel 7 [4, 4, 4, 0, 0, 0, 0] rfl))) rfl ?_
              clear hS; rintro _ w ⟨a3, c3, rfl, hS⟩
              replace hS : St g (Own 48 2 (nhs (rN R1)) a3 c3 :: cel t1 #[.map (some m1)] 62 :: blk m1 (.map (mE (List.map nbK xs1)) q1) :: Buns nbF xs1 :: Sh 31 1 (u64s (logM (List.map ab xs1) (cname z))) a1 c1 :: Sh 31 1 (u64s (logM (List.map ab xs1) (cname z))) a2 c2 :: Sh 72 3 (enR R1) ra1 rc1 :: Shs rwF R1 :: cel b9 #[.slice ra1 (List.length (enR R1)) rc1] 38 :: cel b1 #[.slice ra1 (List.length (enR R1)) rc1] 38 :: Sh 40 6 (enC ls) a cc :: L) w := hS
              refine WL.nil ?_
              refine ⟨by exact RQ.ung rfl rfl rfl (RQ.ldF rfl rfl 9 hS rfl rfl ag_38 rfl rfl), ?_⟩
              refine WQ.nil ?_
              intro m8
              replace hS := hS.drewN m8; generalize hwm8 : World.drewN _ _ = w at *; clear hwm8
              refine WL.ung rfl rfl rfl ?_
              refine WL.call rfl rfl (rFind_spec (R := R1) (p := ⟨#[]⟩) (a := ra1) (c := rc1) (hl := (by rw [rN_len] at hn9; exact hn9)) (hS := (hS.sel 7 [6, 0, 0, 0, 0, 0, 0] rfl))) rfl ?_
              clear hS; rintro _ w ⟨a4, c4, rfl, hS⟩
              replace hS : St g (Own 48 2 (nhs (fil ⟨#[]⟩ (rN R1))) a4 c4 :: Sh 72 3 (enR R1) ra1 rc1 :: Own 48 2 (nhs (rN R1)) a3 c3 :: cel t1 #[.map (some m1)] 62 :: blk m1 (.map (mE (List.map nbK xs1)) q1) :: Buns nbF xs1 :: Sh 31 1 (u64s (logM (List.map ab xs1) (cname z))) a1 c1 :: Sh 31 1 (u64s (logM (List.map ab xs1) (cname z))) a2 c2 :: Shs rwF R1 :: cel b9 #[.slice ra1 (List.length (enR R1)) rc1] 38 :: cel b1 #[.slice ra1 (List.length (enR R1)) rc1] 38 :: Sh 40 6 (enC ls) a cc :: L) w := hS
              refine WL.nil ?_
              refine ⟨by exact trivial, ?_⟩
              refine WQ.nil ?_
              intro m9
              replace hS := hS.drewN m9; generalize hwm9 : World.drewN _ _ = w at *; clear hwm9
              refine WL.ung rfl rfl rfl ?_
              replace hS := (hS.at_ 2 rfl).share
              replace hS : St g (Sh 48 2 (nhs (rN R1)) a3 c3 :: Own 48 2 (nhs (fil ⟨#[]⟩ (rN R1))) a4 c4 :: Sh 72 3 (enR R1) ra1 rc1 :: cel t1 #[.map (some m1)] 62 :: blk m1 (.map (mE (List.map nbK xs1)) q1) :: Buns nbF xs1 :: Sh 31 1 (u64s (logM (List.map ab xs1) (cname z))) a1 c1 :: Sh 31 1 (u64s (logM (List.map ab xs1) (cname z))) a2 c2 :: Shs rwF R1 :: cel b9 #[.slice ra1 (List.length (enR R1)) rc1] 38 :: cel b1 #[.slice ra1 (List.length (enR R1)) rc1] 38 :: Sh 40 6 (enC ls) a cc :: L) w := hS
              replace hS := (hS.at_ 1 rfl).share
              replace hS : St g (Sh 48 2 (nhs (fil ⟨#[]⟩ (rN R1))) a4 c4 :: Sh 48 2 (nhs (rN R1)) a3 c3 :: Sh 72 3 (enR R1) ra1 rc1 :: cel t1 #[.map (some m1)] 62 :: blk m1 (.map (mE (List.map nbK xs1)) q1) :: Buns nbF xs1 :: Sh 31 1 (u64s (logM (List.map ab xs1) (cname z))) a1 c1 :: Sh 31 1 (u64s (logM (List.map ab xs1) (cname z))) a2 c2 :: Shs rwF R1 :: cel b9 #[.slice ra1 (List.length (enR R1)) rc1] 38 :: cel b1 #[.slice ra1 (List.length (enR R1)) rc1] 38 :: Sh 40 6 (enC ls) a cc :: L) w := hS
              refine WL.call rfl rfl (sameN (xs := rN R1) (ys := fil ⟨#[]⟩ (rN R1)) (a := a3) (b := a4) (c := c3) (d := c4) (hl := (Nat.le_trans hn9 (by decide))) (hS := (hS.sel 2 [1, 0] rfl))) rfl ?_
              clear hS; rintro _ w ⟨ok2, rfl, hS, f4⟩
              replace hS : St g (Sh 48 2 (nhs (rN R1)) a3 c3 :: Sh 48 2 (nhs (fil ⟨#[]⟩ (rN R1))) a4 c4 :: Sh 72 3 (enR R1) ra1 rc1 :: cel t1 #[.map (some m1)] 62 :: blk m1 (.map (mE (List.map nbK xs1)) q1) :: Buns nbF xs1 :: Sh 31 1 (u64s (logM (List.map ab xs1) (cname z))) a1 c1 :: Sh 31 1 (u64s (logM (List.map ab xs1) (cname z))) a2 c2 :: Shs rwF R1 :: cel b9 #[.slice ra1 (List.length (enR R1)) rc1] 38 :: cel b1 #[.slice ra1 (List.length (enR R1)) rc1] 38 :: Sh 40 6 (enC ls) a cc :: L) w := hS
              refine WL.nil ?_
              refine ⟨by exact trivial, ?_⟩
              refine WQ.ung rfl rfl rfl ?_
              refine WQ.r 1 rfl ?_
              refine WQ.r 2 rfl ?_
              refine WQ.reb 123 (.bool false) (congrArg Value.bool (Bool.eq_false_iff.2 ((by rw [f4.2 (fil_all _).symm]; decide)))) ?_
              refine WQ.ung rfl rfl rfl ?_
              refine WQ.r 1 rfl ?_
              refine WQ.ung rfl rfl rfl ?_
              refine WQ.r 1 rfl ?_
              refine WQ.ung rfl rfl rfl ?_
              refine WQ.ldF rfl rfl 10 hS rfl rfl ag_38 ?_
              refine WQ.ung rfl rfl rfl ?_
              refine WQ.r 1 rfl ?_
              refine WQ.nil ?_
              intro m10
              replace hS := hS.drewN m10; generalize hwm10 : World.drewN _ _ = w at *; clear hwm10
              refine WL.ung rfl rfl rfl ?_
              refine WL.call rfl rfl (find_spec (t := t1) (m := m1) (xs := xs1) (q := q1) (p := p) (rs := rN R1) (out := fil p (rN R1)) (ht := (by assumption)) (hp := hR2.rN) (hs := hR2.srt) (ho := rfl) (hS := (hS.sel 6 [3, 3, 3, 0, 0, 0] rfl))) rfl ?_
              clear hS; rintro _ w ⟨a5, c5, rfl, hS⟩
              replace hS : St g (Own 48 2 (nhs (fil p (rN R1))) a5 c5 :: cel t1 #[.map (some m1)] 62 :: blk m1 (.map (mE (List.map nbK xs1)) q1) :: Buns nbF xs1 :: Sh 48 2 (nhs (rN R1)) a3 c3 :: Sh 48 2 (nhs (fil ⟨#[]⟩ (rN R1))) a4 c4 :: Sh 72 3 (enR R1) ra1 rc1 :: Sh 31 1 (u64s (logM (List.map ab xs1) (cname z))) a1 c1 :: Sh 31 1 (u64s (logM (List.map ab xs1) (cname z))) a2 c2 :: Shs rwF R1 :: cel b9 #[.slice ra1 (List.length (enR R1)) rc1] 38 :: cel b1 #[.slice ra1 (List.length (enR R1)) rc1] 38 :: Sh 40 6 (enC ls) a cc :: L) w := hS
              refine WL.nil ?_
              refine ⟨by exact ⟨RQ.ung rfl rfl rfl (RQ.ldF rfl rfl 11 hS rfl rfl ag_38 rfl rfl), RQ.ung rfl rfl rfl (RQ.pure rfl rfl rfl rfl)⟩, ?_⟩
              refine WQ.nil ?_
              intro m11
              replace hS := hS.drewN m11; generalize hwm11 : World.drewN _ _ = w at *; clear hwm11
              refine WL.ung rfl rfl rfl ?_
              refine WL.call rfl rfl (rFind_spec (R := R1) (p := p) (a := ra1) (c := rc1) (hl := (by rw [rN_len] at hn9; exact hn9)) (hS := (hS.sel 7 [6, 0, 0, 0, 0, 0, 0] rfl))) rfl ?_
              clear hS; rintro _ w ⟨a6, c6, rfl, hS⟩
              replace hS : St g (Own 48 2 (nhs (fil p (rN R1))) a6 c6 :: Sh 72 3 (enR R1) ra1 rc1 :: Own 48 2 (nhs (fil p (rN R1))) a5 c5 :: cel t1 #[.map (some m1)] 62 :: blk m1 (.map (mE (List.map nbK xs1)) q1) :: Buns nbF xs1 :: Sh 48 2 (nhs (rN R1)) a3 c3 :: Sh 48 2 (nhs (fil ⟨#[]⟩ (rN R1))) a4 c4 :: Sh 31 1 (u64s (logM (List.map ab xs1) (cname z))) a1 c1 :: Sh 31 1 (u64s (logM (List.map ab xs1) (cname z))) a2 c2 :: Shs rwF R1 :: cel b9 #[.slice ra1 (List.length (enR R1)) rc1] 38 :: cel b1 #[.slice ra1 (List.length (enR R1)) rc1] 38 :: Sh 40 6 (enC ls) a cc :: L) w := hS
              refine WL.nil ?_
              refine ⟨by exact trivial, ?_⟩
              refine WQ.nil ?_
              intro m12
              replace hS := hS.drewN m12; generalize hwm12 : World.drewN _ _ = w at *; clear hwm12
              refine WL.ung rfl rfl rfl ?_
              replace hS := (hS.at_ 2 rfl).share
              replace hS : St g (Sh 48 2 (nhs (fil p (rN R1))) a5 c5 :: Own 48 2 (nhs (fil p (rN R1))) a6 c6 :: Sh 72 3 (enR R1) ra1 rc1 :: cel t1 #[.map (some m1)] 62 :: blk m1 (.map (mE (List.map nbK xs1)) q1) :: Buns nbF xs1 :: Sh 48 2 (nhs (rN R1)) a3 c3 :: Sh 48 2 (nhs (fil ⟨#[]⟩ (rN R1))) a4 c4 :: Sh 31 1 (u64s (logM (List.map ab xs1) (cname z))) a1 c1 :: Sh 31 1 (u64s (logM (List.map ab xs1) (cname z))) a2 c2 :: Shs rwF R1 :: cel b9 #[.slice ra1 (List.length (enR R1)) rc1] 38 :: cel b1 #[.slice ra1 (List.length (enR R1)) rc1] 38 :: Sh 40 6 (enC ls) a cc :: L) w := hS
              replace hS := (hS.at_ 1 rfl).share
              replace hS : St g (Sh 48 2 (nhs (fil p (rN R1))) a6 c6 :: Sh 48 2 (nhs (fil p (rN R1))) a5 c5 :: Sh 72 3 (enR R1) ra1 rc1 :: cel t1 #[.map (some m1)] 62 :: blk m1 (.map (mE (List.map nbK xs1)) q1) :: Buns nbF xs1 :: Sh 48 2 (nhs (rN R1)) a3 c3 :: Sh 48 2 (nhs (fil ⟨#[]⟩ (rN R1))) a4 c4 :: Sh 31 1 (u64s (logM (List.map ab xs1) (cname z))) a1 c1 :: Sh 31 1 (u64s (logM (List.map ab xs1) (cname z))) a2 c2 :: Shs rwF R1 :: cel b9 #[.slice ra1 (List.length (enR R1)) rc1] 38 :: cel b1 #[.slice ra1 (List.length (enR R1)) rc1] 38 :: Sh 40 6 (enC ls) a cc :: L) w := hS
              refine WL.call rfl rfl (sameN (xs := fil p (rN R1)) (ys := fil p (rN R1)) (a := a5) (b := a6) (c := c5) (d := c6) (hl := (Nat.le_trans fil_len (Nat.le_trans hn9 (by decide)))) (hS := (hS.sel 2 [1, 0] rfl))) rfl ?_
              clear hS; rintro _ w ⟨ok3, rfl, hS, f5⟩
              replace hS : St g (Sh 48 2 (nhs (fil p (rN R1))) a5 c5 :: Sh 48 2 (nhs (fil p (rN R1))) a6 c6 :: Sh 72 3 (enR R1) ra1 rc1 :: cel t1 #[.map (some m1)] 62 :: blk m1 (.map (mE (List.map nbK xs1)) q1) :: Buns nbF xs1 :: Sh 48 2 (nhs (rN R1)) a3 c3 :: Sh 48 2 (nhs (fil ⟨#[]⟩ (rN R1))) a4 c4 :: Sh 31 1 (u64s (logM (List.map ab xs1) (cname z))) a1 c1 :: Sh 31 1 (u64s (logM (List.map ab xs1) (cname z))) a2 c2 :: Shs rwF R1 :: cel b9 #[.slice ra1 (List.length (enR R1)) rc1] 38 :: cel b1 #[.slice ra1 (List.length (enR R1)) rc1] 38 :: Sh 40 6 (enC ls) a cc :: L) w := hS
              refine WL.nil ?_
              refine ⟨by exact trivial, ?_⟩
              refine WQ.ung rfl rfl rfl ?_
              refine WQ.r 1 rfl ?_
              refine WQ.r 2 rfl ?_
              refine WQ.reb 133 (.bool false) (congrArg Value.bool (Bool.eq_false_iff.2 ((by rw [f5.2 rfl]; decide)))) ?_
              refine WQ.ung rfl rfl rfl ?_
              refine WQ.r 1 rfl ?_
              refine WQ.ung rfl rfl rfl ?_
              refine WQ.ldF rfl rfl 12 hS rfl rfl ag_38 ?_
              refine WQ.nil ?_
              intro m13
              replace hS := hS.drewN m13; generalize hwm13 : World.drewN _ _ = w at *; clear hwm13
              refine WL.ung rfl rfl rfl ?_
              refine WL.call rfl rfl (find_spec (t := t1) (m := m1) (xs := xs1) (q := q1) (p := ⟨#[97]⟩) (rs := rN R1) (out := fil ⟨#[97]⟩ (rN R1)) (ht := (by assumption)) (hp := hR2.rN) (hs := hR2.srt) (ho := rfl) (hS := (hS.sel 6 [3, 3, 3, 0, 0, 0] rfl))) rfl ?_
              clear hS; rintro _ w ⟨a7, c7, rfl, hS⟩
              replace hS : St g (Own 48 2 (nhs (fil ⟨#[97]⟩ (rN R1))) a7 c7 :: cel t1 #[.map (some m1)] 62 :: blk m1 (.map (mE (List.map nbK xs1)) q1) :: Buns nbF xs1 :: Sh 48 2 (nhs (fil p (rN R1))) a5 c5 :: Sh 48 2 (nhs (fil p (rN R1))) a6 c6 :: Sh 72 3 (enR R1) ra1 rc1 :: Sh 48 2 (nhs (rN R1)) a3 c3 :: Sh 48 2 (nhs (fil ⟨#[]⟩ (rN R1))) a4 c4 :: Sh 31 1 (u64s (logM (List.map ab xs1) (cname z))) a1 c1 :: Sh 31 1 (u64s (logM (List.map ab xs1) (cname z))) a2 c2 :: Shs rwF R1 :: cel b9 #[.slice ra1 (List.length (enR R1)) rc1] 38 :: cel b1 #[.slice ra1 (List.length (enR R1)) rc1] 38 :: Sh 40 6 (enC ls) a cc :: L) w := hS
              refine WL.nil ?_
              refine ⟨by exact RQ.ung rfl rfl rfl (RQ.ldF rfl rfl 13 hS rfl rfl ag_38 rfl rfl), ?_⟩
              refine WQ.nil ?_
              intro m14
              replace hS := hS.drewN m14; generalize hwm14 : World.drewN _ _ = w at *; clear hwm14
              refine WL.ung rfl rfl rfl ?_
              refine WL.call rfl rfl (rFind_spec (R := R1) (p := ⟨#[97]⟩) (a := ra1) (c := rc1) (hl := (by rw [rN_len] at hn9; exact hn9)) (hS := (hS.sel 7 [6, 0, 0, 0, 0, 0, 0] rfl))) rfl ?_
              clear hS; rintro _ w ⟨a8, c8, rfl, hS⟩
              replace hS : St g (Own 48 2 (nhs (fil ⟨#[97]⟩ (rN R1))) a8 c8 :: Sh 72 3 (enR R1) ra1 rc1 :: Own 48 2 (nhs (fil ⟨#[97]⟩ (rN R1))) a7 c7 :: cel t1 #[.map (some m1)] 62 :: blk m1 (.map (mE (List.map nbK xs1)) q1) :: Buns nbF xs1 :: Sh 48 2 (nhs (fil p (rN R1))) a5 c5 :: Sh 48 2 (nhs (fil p (rN R1))) a6 c6 :: Sh 48 2 (nhs (rN R1)) a3 c3 :: Sh 48 2 (nhs (fil ⟨#[]⟩ (rN R1))) a4 c4 :: Sh 31 1 (u64s (logM (List.map ab xs1) (cname z))) a1 c1 :: Sh 31 1 (u64s (logM (List.map ab xs1) (cname z))) a2 c2 :: Shs rwF R1 :: cel b9 #[.slice ra1 (List.length (enR R1)) rc1] 38 :: cel b1 #[.slice ra1 (List.length (enR R1)) rc1] 38 :: Sh 40 6 (enC ls) a cc :: L) w := hS
              refine WL.nil ?_
              refine ⟨by exact trivial, ?_⟩
              refine WQ.nil ?_
              intro m15
              replace hS := hS.drewN m15; generalize hwm15 : World.drewN _ _ = w at *; clear hwm15
              refine WL.ung rfl rfl rfl ?_
              replace hS := (hS.at_ 2 rfl).share
              replace hS : St g (Sh 48 2 (nhs (fil ⟨#[97]⟩ (rN R1))) a7 c7 :: Own 48 2 (nhs (fil ⟨#[97]⟩ (rN R1))) a8 c8 :: Sh 72 3 (enR R1) ra1 rc1 :: cel t1 #[.map (some m1)] 62 :: blk m1 (.map (mE (List.map nbK xs1)) q1) :: Buns nbF xs1 :: Sh 48 2 (nhs (fil p (rN R1))) a5 c5 :: Sh 48 2 (nhs (fil p (rN R1))) a6 c6 :: Sh 48 2 (nhs (rN R1)) a3 c3 :: Sh 48 2 (nhs (fil ⟨#[]⟩ (rN R1))) a4 c4 :: Sh 31 1 (u64s (logM (List.map ab xs1) (cname z))) a1 c1 :: Sh 31 1 (u64s (logM (List.map ab xs1) (cname z))) a2 c2 :: Shs rwF R1 :: cel b9 #[.slice ra1 (List.length (enR R1)) rc1] 38 :: cel b1 #[.slice ra1 (List.length (enR R1)) rc1] 38 :: Sh 40 6 (enC ls) a cc :: L) w := hS
              replace hS := (hS.at_ 1 rfl).share
              replace hS : St g (Sh 48 2 (nhs (fil ⟨#[97]⟩ (rN R1))) a8 c8 :: Sh 48 2 (nhs (fil ⟨#[97]⟩ (rN R1))) a7 c7 :: Sh 72 3 (enR R1) ra1 rc1 :: cel t1 #[.map (some m1)] 62 :: blk m1 (.map (mE (List.map nbK xs1)) q1) :: Buns nbF xs1 :: Sh 48 2 (nhs (fil p (rN R1))) a5 c5 :: Sh 48 2 (nhs (fil p (rN R1))) a6 c6 :: Sh 48 2 (nhs (rN R1)) a3 c3 :: Sh 48 2 (nhs (fil ⟨#[]⟩ (rN R1))) a4 c4 :: Sh 31 1 (u64s (logM (List.map ab xs1) (cname z))) a1 c1 :: Sh 31 1 (u64s (logM (List.map ab xs1) (cname z))) a2 c2 :: Shs rwF R1 :: cel b9 #[.slice ra1 (List.length (enR R1)) rc1] 38 :: cel b1 #[.slice ra1 (List.length (enR R1)) rc1] 38 :: Sh 40 6 (enC ls) a cc :: L) w := hS
              refine WL.call rfl rfl (sameN (xs := fil ⟨#[97]⟩ (rN R1)) (ys := fil ⟨#[97]⟩ (rN R1)) (a := a7) (b := a8) (c := c7) (d := c8) (hl := (Nat.le_trans fil_len (Nat.le_trans hn9 (by decide)))) (hS := (hS.sel 2 [1, 0] rfl))) rfl ?_
              clear hS; rintro _ w ⟨ok4, rfl, hS, f6⟩
              replace hS : St g (Sh 48 2 (nhs (fil ⟨#[97]⟩ (rN R1))) a7 c7 :: Sh 48 2 (nhs (fil ⟨#[97]⟩ (rN R1))) a8 c8 :: Sh 72 3 (enR R1) ra1 rc1 :: cel t1 #[.map (some m1)] 62 :: blk m1 (.map (mE (List.map nbK xs1)) q1) :: Buns nbF xs1 :: Sh 48 2 (nhs (fil p (rN R1))) a5 c5 :: Sh 48 2 (nhs (fil p (rN R1))) a6 c6 :: Sh 48 2 (nhs (rN R1)) a3 c3 :: Sh 48 2 (nhs (fil ⟨#[]⟩ (rN R1))) a4 c4 :: Sh 31 1 (u64s (logM (List.map ab xs1) (cname z))) a1 c1 :: Sh 31 1 (u64s (logM (List.map ab xs1) (cname z))) a2 c2 :: Shs rwF R1 :: cel b9 #[.slice ra1 (List.length (enR R1)) rc1] 38 :: cel b1 #[.slice ra1 (List.length (enR R1)) rc1] 38 :: Sh 40 6 (enC ls) a cc :: L) w := hS
              refine WL.nil ?_
              refine ⟨by exact trivial, ?_⟩
              refine WQ.ung rfl rfl rfl ?_
              refine WQ.r 1 rfl ?_
              refine WQ.r 1 rfl ?_
              refine WQ.nil ?_
              intro m16
              replace hS := hS.drewN m16; generalize hwm16 : World.drewN _ _ = w at *; clear hwm16
              as_aux_lemma =>
                refine WC.ifF rfl (by rw [f6.2 rfl]; rfl) ?_
                refine WC.skip ?_
                refine WC.region ?_
                refine WL.r 2 rfl ?_
                refine WL.nw 35 rfl (w64 (by omega)) ?_
                refine WL.r 1 rfl ?_
                refine WL.nil ?_
                exact ⟨_, by omega, k + 1, xs1, q1, R1, ra1, rc1, rfl, (hS.sel 15 [2, 11, 12, 2, 2, 2] rfl), (by omega), (f1), (hR2), rfl⟩
      · refine WC.exit ?_
        refine WC.seq ?_
        refine WC.region ?_
        refine WL.r 1 rfl ?_
        refine WL.nil ?_
        refine WC.ret ?_
        refine ⟨[.bool true], rfl, ?_⟩
        replace hS := (hS.sel 7 [] rfl)
        exact ⟨rfl, hS⟩
end Go.Proofs.YtenkmjbghbegfaaDoor
