/-
  The law OpcodeRoundTrip, walked.
  Conditions: the arguments lie in their kinds.
-/
import Derived.Test.YtofnoopjlmdelaaLw
import Derived.Test.YtofnoopjlmdelaaNxt
import Derived.Test.YtofnoopjlmdelaaApp
import Derived.Test.YtofnoopjlmdelaaFwe
namespace Go.Proofs.Ytofnoopjlmdelaa
open Go Go.V

set_option maxHeartbeats 1000000 in
set_option maxRecDepth 8192 in
theorem law_round {g w : World} {L : List HP} (zs : List OpZ) (d : Option Addr) (e : Nat) (x : Int) (hz : ∀ z ∈ zs, OpT z.m) (hx : I64 x) (hS : St g (Sh 27 13 (enOp zs) d e :: Shs opF zs :: L) w) :
    Sp Try.prog 5 [.slice d (List.length (enOp zs)) e, .int .i64 x] w (fun v w' => v = .bool true ∧ St g (L) w') := by
  refine Sp.enter Try.func5 rfl (by kernel_rfl) (by kernel_rfl) ?_
  have _ := hx
  refine WC.seq ?_
  refine WC.region ?_
  refine WL.r 1 rfl ?_
  refine WL.nil ?_
  refine WC.seq ?_
  refine WC.seq ?_
  refine WC.region ?_
  refine WL.r 3 rfl ?_
  refine WL.nil ?_
  refine WC.ifP rfl (fun cd1 => ?_) (fun cd1 => ?_)
  · refine WC.seq ?_
    refine WC.region ?_
    refine WL.call rfl rfl (awake_spec   (hS := hS)) rfl ?_
    clear hS; rintro _ w ⟨rfl, hS⟩
    replace hS : St g (Sh 27 13 (enOp zs) d e :: Shs opF zs :: L) w := hS
    refine WL.r 1 rfl ?_
    refine WL.nil ?_
    refine WC.ret ?_
    refine ⟨[.bool true], rfl, ?_⟩
    replace hS := (hS.sel 2 [] rfl)
    exact ⟨rfl, hS⟩
  · refine WC.skip ?_
    refine WC.seq ?_
    refine WC.region ?_
    refine WL.r 1 rfl ?_
    refine WL.nil ?_
    refine WC.seq ?_
    refine WC.seq ?_
    refine WC.region ?_
    have hzl := enOp_len zs
    refine WL.r 1 rfl ?_
    refine WL.nil ?_
    refine WC.block ?_
    replace hS := ((hS.nil_ 5 1).at_ 0 rfl).share
    replace hS : St g (Sh 5 1 (by8 []) none 0 :: Sh 27 13 (enOp zs) d e :: Shs opF zs :: L) w := hS
    refine WC.loop [0, 1, 5, 6] (fun kM vs w => ∃ (k : Nat) (us : List Int) (ua : Option Addr) (uc : Nat), vs = [.slice d (List.length (enOp zs)) e, .int .i64 x, .slice ua (List.length (by8 us)) uc, .int .i64 (k : Int)] ∧ St g (Sh 5 1 (by8 us) ua uc :: Sh 27 13 (enOp zs) d e :: Shs opF zs :: L) w ∧ (k ≤ zs.length) ∧ (us = eAll (zs.take k)) ∧ (∀ z ∈ zs.take k, smallOp z.m) ∧ (zs.length - k) = kM) ((List.length zs) - 0) ⟨0, [], none, 0, rfl, hS, (Nat.zero_le _), (rfl), (fun _ h => by cases h), rfl⟩ ?_
    clear hS; rintro _ _ w j ⟨k, us, ua, uc, rfl, hS, hk, hu, hsm, rfl⟩
    refine WC.seq ?_
    refine WC.seq ?_
    refine WC.region ?_
    have hzl := enOp_len zs
    refine WL.r 4 rfl ?_
    refine WL.nil ?_
    as_aux_lemma =>
      refine WC.ifP rfl (fun cd2 => ?_) (fun cd2 => ?_)
      · refine WC.skip ?_
        refine WC.seq ?_
        refine WC.block ?_
        refine WC.seq ?_
        refine WC.seq ?_
        refine WC.region ?_
        refine WL.r 2 rfl ?_
        obtain ⟨z, hz1⟩ : ∃ z, zs[k]? = some z := ⟨_, List.getElem?_eq_getElem (by omega)⟩; have hzT := hz z (List.mem_of_getElem? hz1)
        refine WL.ix rfl rfl (i := (k : Int)) (k) el_31 rfl rfl (by omega) (by omega) (hS.rdS 1 rfl (enOp_at hz1)).1 ?_
        refine WL.ldC rfl rfl [.int .i64 z.m.code, .int .u64 z.m.a, .int .u64 z.m.b, .int .i64 z.m.key, .int .i64 z.m.val, .int .i64 z.m.lo, .int .i64 z.m.hi, .int .i64 z.m.n, .bool z.m.flag, .string z.m.name, .slice z.ab (List.length (by8 z.m.bytes)) z.cb, .slice z.ae (List.length (en2 z.m.ents)) z.ce, .slice z.ac (List.length (ch4 z.m.chs)) z.cc] ag_27 rfl (hS.rdS 1 rfl (enOp_at hz1)).2 ?_
        refine WL.call rfl rfl (small_spec (x := z.m) (ab := z.ab) (ae := z.ae) (ac := z.ac) (cb := z.cb) (ce := z.ce) (cc := z.cc)  (hS := hS)) rfl ?_
        clear hS; rintro _ w ⟨rfl, hS⟩
        replace hS : St g (Sh 5 1 (by8 us) ua uc :: Sh 27 13 (enOp zs) d e :: Shs opF zs :: L) w := hS
        refine WL.r 1 rfl ?_
        refine WL.prop 32 rfl (bnot (dd _)) ?_
        refine WL.nil ?_
        refine WC.ifP rfl (fun cd3 => ?_) (fun cd3 => ?_)
        · refine WC.seq ?_
          refine WC.region ?_
          refine WL.call rfl rfl (awake_spec   (hS := hS)) rfl ?_
          clear hS; rintro _ w ⟨rfl, hS⟩
          replace hS : St g (Sh 5 1 (by8 us) ua uc :: Sh 27 13 (enOp zs) d e :: Shs opF zs :: L) w := hS
          refine WL.r 1 rfl ?_
          refine WL.nil ?_
          as_aux_lemma =>
            refine WC.ret ?_
            refine ⟨[.bool true], rfl, ?_⟩
            replace hS := (hS.sel 3 [] rfl)
            exact ⟨rfl, hS⟩
        · refine WC.skip ?_
          refine WC.seq ?_
          refine WC.region ?_
          have hul := by8_len us; have hlu : us.length ≤ 200000 := by rw [hu]; exact Nat.le_trans (eAll_len (fun z h => hz z (List.mem_of_mem_take h)) hsm) (by rw [List.length_take]; omega)
          have hs := Classical.not_not.1 cd3
          replace hS : St g (Sh 5 1 (by8 z.m.bytes) z.ab z.cb :: Sh 40 2 (en2 z.m.ents) z.ae z.ce :: Sh 63 4 (ch4 z.m.chs) z.ac z.cc :: Sh 5 1 (by8 us) ua uc :: Sh 27 13 (enOp zs) d e :: Shs opF zs :: L) w := hS.shsGet 2 rfl (List.mem_of_getElem? hz1)
          refine WL.r 3 rfl ?_
          refine WL.ix rfl rfl (i := (k : Int)) (k) el_31 rfl rfl (by omega) (by omega) (hS.rdS 4 rfl (enOp_at hz1)).1 ?_
          refine WL.ldC rfl rfl [.int .i64 z.m.code, .int .u64 z.m.a, .int .u64 z.m.b, .int .i64 z.m.key, .int .i64 z.m.val, .int .i64 z.m.lo, .int .i64 z.m.hi, .int .i64 z.m.n, .bool z.m.flag, .string z.m.name, .slice z.ab (List.length (by8 z.m.bytes)) z.cb, .slice z.ae (List.length (en2 z.m.ents)) z.ce, .slice z.ac (List.length (ch4 z.m.chs)) z.cc] ag_27 rfl (hS.rdS 4 rfl (enOp_at hz1)).2 ?_
          refine WL.call rfl rfl (tidy_spec (x := z.m) (ab := z.ab) (ae := z.ae) (ac := z.ac) (cb := z.cb) (ce := z.ce) (cc := z.cc) (hw := hzT) (hs := hs) (hS := hS)) rfl ?_
          clear hS; rintro _ w ⟨ab1, ae1, ac1, cb1, ce1, cc1, rfl, hS⟩
          replace hS : St g (Sh 5 1 (by8 (tidy z.m).bytes) ab1 cb1 :: Sh 40 2 (en2 (tidy z.m).ents) ae1 ce1 :: Sh 63 4 (ch4 (tidy z.m).chs) ac1 cc1 :: Sh 5 1 (by8 z.m.bytes) z.ab z.cb :: Sh 40 2 (en2 z.m.ents) z.ae z.ce :: Sh 63 4 (ch4 z.m.chs) z.ac z.cc :: Sh 5 1 (by8 us) ua uc :: Sh 27 13 (enOp zs) d e :: Shs opF zs :: L) w := hS
          refine WL.call rfl rfl (append_spec (bs := us) (a := ua) (c := uc) (x := tidy z.m) (ab := ab1) (ae := ae1) (ac := ac1) (cb := cb1) (ce := ce1) (cc := cc1) (hbs := (by omega)) (hw := (tidy_T hzT).w) (hS := (hS.sel 7 [6, 0, 0, 0, 0, 0, 0] rfl))) rfl ?_
          clear hS; rintro _ w ⟨ok1, ys1, a1, c1, rfl, hS, f1, f2⟩
          replace hS : St g (Own 5 1 (by8 ys1) a1 c1 :: Sh 5 1 (by8 us) ua uc :: Sh 5 1 (by8 (tidy z.m).bytes) ab1 cb1 :: Sh 40 2 (en2 (tidy z.m).ents) ae1 ce1 :: Sh 63 4 (ch4 (tidy z.m).chs) ac1 cc1 :: Sh 5 1 (by8 z.m.bytes) z.ab z.cb :: Sh 40 2 (en2 z.m.ents) z.ae z.ce :: Sh 63 4 (ch4 z.m.chs) z.ac z.cc :: Sh 27 13 (enOp zs) d e :: Shs opF zs :: L) w := hS
          refine WL.r 5 rfl ?_
          refine WL.nil ?_
          as_aux_lemma =>
            refine WC.seq ?_
            refine WC.seq ?_
            refine WC.region ?_
            refine WL.r 2 rfl ?_
            refine WL.nil ?_
            refine WC.ifF rfl (decide_eq_false ((fun h => h (if_pos (f1.2 (tidy_ok hs)))))) ?_
            refine WC.skip ?_
            refine WC.region ?_
            replace hS := (hS.at_ 0 rfl).share
            replace hS : St g (Sh 5 1 (by8 ys1) a1 c1 :: Sh 5 1 (by8 us) ua uc :: Sh 5 1 (by8 (tidy z.m).bytes) ab1 cb1 :: Sh 40 2 (en2 (tidy z.m).ents) ae1 ce1 :: Sh 63 4 (ch4 (tidy z.m).chs) ac1 cc1 :: Sh 5 1 (by8 z.m.bytes) z.ab z.cb :: Sh 40 2 (en2 z.m.ents) z.ae z.ce :: Sh 63 4 (ch4 z.m.chs) z.ac z.cc :: Sh 27 13 (enOp zs) d e :: Shs opF zs :: L) w := hS
            refine WL.r 2 rfl ?_
            refine WL.nil ?_
            refine WC.region ?_
            refine WL.r 2 rfl ?_
            refine WL.nw 26 rfl (w64 (by omega)) ?_
            refine WL.r 1 rfl ?_
            refine WL.nil ?_
            exact ⟨_, by omega, k + 1, ys1, a1, c1, rfl, (hS.sel 8 [0] rfl), (by omega), (by rw [f2, if_pos (f1.2 (tidy_ok hs)), hu, eAll_take hz1]), (mem_take_succ hz1 hsm hs), rfl⟩
      · refine WC.exit ?_
        refine WC.seq ?_
        refine WC.region ?_
        refine WL.r 1 rfl ?_
        refine WL.nil ?_
        refine WC.seq ?_
        refine WC.seq ?_
        refine WC.region ?_
        have hul := by8_len us; have hua : us = eAll zs := by rw [hu, List.take_of_length_le (by omega)]
        have hsa : ∀ z ∈ zs, smallOp z.m := by rwa [List.take_of_length_le (by omega)] at hsm
        have hlu : us.length ≤ 200000 := by rw [hua]; exact Nat.le_trans (eAll_len hz hsa) (by omega)
        have hb8 : B8 us := by rw [hua]; exact eAll_B8 hz
        refine WL.r 1 rfl ?_
        refine WL.nil ?_
        refine WC.block ?_
        refine WC.loop [0, 1, 5, 9, 10] (fun kM vs w => ∃ (i : Nat) (p : Nat), vs = [.slice d (List.length (enOp zs)) e, .int .i64 x, .slice ua (List.length (by8 us)) uc, .int .i64 (p : Int), .int .i64 (i : Int)] ∧ St g (Sh 5 1 (by8 us) ua uc :: Sh 27 13 (enOp zs) d e :: Shs opF zs :: L) w ∧ (i ≤ zs.length) ∧ (p = (eAll (zs.take i)).length) ∧ (zs.length - i) = kM) ((List.length zs) - 0) ⟨0, 0, rfl, hS, (Nat.zero_le _), (rfl), rfl⟩ ?_
        clear hS; rintro _ _ w j ⟨i, p, rfl, hS, hj, hp, rfl⟩
        refine WC.seq ?_
        refine WC.seq ?_
        refine WC.region ?_
        have hul := by8_len us; have hua : us = eAll zs := by rw [hu, List.take_of_length_le (by omega)]
        have hsa : ∀ z ∈ zs, smallOp z.m := by rwa [List.take_of_length_le (by omega)] at hsm
        have hlu : us.length ≤ 200000 := by rw [hua]; exact Nat.le_trans (eAll_len hz hsa) (by omega)
        have hb8 : B8 us := by rw [hua]; exact eAll_B8 hz
        refine WL.r 4 rfl ?_
        refine WL.nil ?_
        as_aux_lemma =>
          refine WC.ifP rfl (fun cd3 => ?_) (fun cd3 => ?_)
          · refine WC.skip ?_
            refine WC.seq ?_
            refine WC.block ?_
            refine WC.seq ?_
            refine WC.region ?_
            obtain ⟨z, hz1⟩ : ∃ z, zs[i]? = some z := ⟨_, List.getElem?_eq_getElem (by omega)⟩; have hzT := hz z (List.mem_of_getElem? hz1); have hs := hsa z (List.mem_of_getElem? hz1); obtain ⟨hpl, hf1, hf2⟩ := all_f hz1 hzT hs hua hp; obtain ⟨ht1, ht2⟩ := tidy_len hzT hs
            refine WL.r 2 rfl ?_
            refine WL.call rfl rfl (next_spec (a := ua) (c := uc) (bs := us) (p := (p : Int)) (hl := (by omega)) (hb := hb8) (hS := hS)) rfl ?_
            generalize hN1 : rNx us (p : Int) = N1
            clear hS; rintro _ w ⟨ab1, ae1, ac1, cb1, ce1, cc1, rfl, hS⟩
            replace hS : St g (Sh 5 1 (by8 us) ua uc :: Own 5 1 (by8 N1.1.bytes) ab1 cb1 :: Own 40 2 (en2 N1.1.ents) ae1 ce1 :: Own 63 4 (ch4 N1.1.chs) ac1 cc1 :: Sh 27 13 (enOp zs) d e :: Shs opF zs :: L) w := hS
            refine WL.r 4 rfl ?_
            refine WL.new rfl rfl zv_27 hS (fun b1 w hS => ?_)
            refine WL.stF rfl rfl rfl 0 hS rfl rfl rfl rfl rfl ag_27 (fun w hS => ?_)
            replace hS : St g (cel b1 #[.int .i64 N1.1.code, .int .u64 N1.1.a, .int .u64 N1.1.b, .int .i64 N1.1.key, .int .i64 N1.1.val, .int .i64 N1.1.lo, .int .i64 N1.1.hi, .int .i64 N1.1.n, .bool N1.1.flag, .string N1.1.name, .slice ab1 (List.length (by8 N1.1.bytes)) cb1, .slice ae1 (List.length (en2 N1.1.ents)) ce1, .slice ac1 (List.length (ch4 N1.1.chs)) cc1] 27 :: Sh 5 1 (by8 us) ua uc :: Own 5 1 (by8 N1.1.bytes) ab1 cb1 :: Own 40 2 (en2 N1.1.ents) ae1 ce1 :: Own 63 4 (ch4 N1.1.chs) ac1 cc1 :: Sh 27 13 (enOp zs) d e :: Shs opF zs :: L) w := hS
            refine WL.r 2 rfl ?_
            refine WL.nil ?_
            refine WC.seq ?_
            refine WC.seq ?_
            refine WC.plan [([0, 1, 2, 3, 4, 5, 6, 7, 8, 9, 10, 11, 12], some (13, [8])), ([], some (14, [])), ([15, 16], none)] (by kernel_rfl) (by kernel_rfl) ?_
            have hN : N1 = (tidy z.m, ((p + (eOp (tidy z.m)).length : Nat) : Int), 0) := by rw [← hN1]; exact hf1
            replace hS : St g (Sh 5 1 (by8 z.m.bytes) z.ab z.cb :: Sh 40 2 (en2 z.m.ents) z.ae z.ce :: Sh 63 4 (ch4 z.m.chs) z.ac z.cc :: cel b1 #[.int .i64 N1.1.code, .int .u64 N1.1.a, .int .u64 N1.1.b, .int .i64 N1.1.key, .int .i64 N1.1.val, .int .i64 N1.1.lo, .int .i64 N1.1.hi, .int .i64 N1.1.n, .bool N1.1.flag, .string N1.1.name, .slice ab1 (List.length (by8 N1.1.bytes)) cb1, .slice ae1 (List.length (en2 N1.1.ents)) ce1, .slice ac1 (List.length (ch4 N1.1.chs)) cc1] 27 :: Sh 5 1 (by8 us) ua uc :: Own 5 1 (by8 N1.1.bytes) ab1 cb1 :: Own 40 2 (en2 N1.1.ents) ae1 ce1 :: Own 63 4 (ch4 N1.1.chs) ac1 cc1 :: Sh 27 13 (enOp zs) d e :: Shs opF zs :: L) w := hS.shsGet 6 rfl (List.mem_of_getElem? hz1)
            refine WQ.reb 13 (.int .i64 0) (congrArg (Value.int .i64) (by rw [hN])) ?_
            refine WQ.reb 12 (.int .i64 ((p + (eOp (tidy z.m)).length : Nat) : Int)) (congrArg (Value.int .i64) (by rw [hN])) ?_
            refine WQ.r 3 rfl ?_
            refine WQ.reb 62 (.bool false) (congrArg Value.bool (decide_eq_false (by decide))) ?_
            refine WQ.ung rfl rfl rfl ?_
            refine WQ.r 1 rfl ?_
            refine WQ.ung rfl rfl rfl ?_
            refine WQ.r 1 rfl ?_
            refine WQ.ung rfl rfl rfl ?_
            refine WQ.r 3 rfl ?_
            by_cases cg1 : ((p + (List.length (eOp (tidy z.m))) : Nat) : Int) ≤ (p : Int)
            · refine WQ.reb 67 (.bool true) (congrArg Value.bool (decide_eq_true cg1)) ?_
              refine WQ.skp rfl rfl rfl rfl ?_
              refine WQ.skp rfl rfl rfl rfl ?_
              refine WQ.skp rfl rfl rfl rfl ?_
              refine WQ.skp rfl rfl rfl rfl ?_
              refine WQ.skp rfl rfl rfl rfl ?_
              refine WQ.nil ?_
              intro m1
              replace hS := hS.drewN m1; generalize hwm1 : World.drewN _ _ = w at *; clear hwm1
              refine WL.skp rfl rfl rfl rfl ?_
              refine WL.nil ?_
              refine ⟨by exact RQ.skp rfl rfl rfl rfl rfl rfl, ?_⟩
              refine WQ.nil ?_
              intro m2
              replace hS := hS.drewN m2; generalize hwm2 : World.drewN _ _ = w at *; clear hwm2
              refine WL.skp rfl rfl rfl rfl ?_
              refine WL.nil ?_
              refine ⟨by exact trivial, ?_⟩
              refine WQ.skp rfl rfl rfl rfl ?_
              refine WQ.r 1 rfl ?_
              refine WQ.nil ?_
              intro m3
              replace hS := hS.drewN m3; generalize hwm3 : World.drewN _ _ = w at *; clear hwm3
              as_aux_lemma =>
                refine WC.ifT rfl rfl ?_
                refine WC.seq ?_
                refine WC.region ?_
                refine WL.r 1 rfl ?_
                refine WL.nil ?_
                refine WC.ret ?_
                refine ⟨[.bool false], rfl, ?_⟩
                replace hS := (hS.sel 10 [] rfl)
                exact absurd cg1 (by omega)
            · refine WQ.reb 67 (.bool false) (congrArg Value.bool (decide_eq_false cg1)) ?_
              refine WQ.ung rfl rfl rfl ?_
              refine WQ.ldF rfl rfl 3 hS rfl rfl ag_27 ?_
              refine WQ.ung rfl rfl rfl ?_
              refine WQ.r 1 rfl ?_
              refine WQ.ung rfl rfl rfl ?_
              refine WQ.r 1 rfl ?_
              refine WQ.ung rfl rfl rfl ?_
              refine WQ.ix rfl rfl (i := (i : Int)) (i) el_31 rfl rfl (by omega) (by omega) (hS.rdS 8 rfl (enOp_at hz1)).1 ?_
              refine WQ.ung rfl rfl rfl ?_
              refine WQ.ldC rfl rfl [.int .i64 z.m.code, .int .u64 z.m.a, .int .u64 z.m.b, .int .i64 z.m.key, .int .i64 z.m.val, .int .i64 z.m.lo, .int .i64 z.m.hi, .int .i64 z.m.n, .bool z.m.flag, .string z.m.name, .slice z.ab (List.length (by8 z.m.bytes)) z.cb, .slice z.ae (List.length (en2 z.m.ents)) z.ce, .slice z.ac (List.length (ch4 z.m.chs)) z.cc] ag_27 rfl (hS.rdS 8 rfl (enOp_at hz1)).2 ?_
              refine WQ.nil ?_
              intro m1
              replace hS := hS.drewN m1; generalize hwm1 : World.drewN _ _ = w at *; clear hwm1
              refine WL.ung rfl rfl rfl ?_
              refine WL.call rfl rfl (tidy_spec (x := z.m) (ab := z.ab) (ae := z.ae) (ac := z.ac) (cb := z.cb) (ce := z.ce) (cc := z.cc) (hw := hzT) (hs := hs) (hS := hS)) rfl ?_
              clear hS; rintro _ w ⟨ab2, ae2, ac2, cb2, ce2, cc2, rfl, hS⟩
              replace hS : St g (Sh 5 1 (by8 (tidy z.m).bytes) ab2 cb2 :: Sh 40 2 (en2 (tidy z.m).ents) ae2 ce2 :: Sh 63 4 (ch4 (tidy z.m).chs) ac2 cc2 :: Sh 5 1 (by8 z.m.bytes) z.ab z.cb :: Sh 40 2 (en2 z.m.ents) z.ae z.ce :: Sh 63 4 (ch4 z.m.chs) z.ac z.cc :: cel b1 #[.int .i64 N1.1.code, .int .u64 N1.1.a, .int .u64 N1.1.b, .int .i64 N1.1.key, .int .i64 N1.1.val, .int .i64 N1.1.lo, .int .i64 N1.1.hi, .int .i64 N1.1.n, .bool N1.1.flag, .string N1.1.name, .slice ab1 (List.length (by8 N1.1.bytes)) cb1, .slice ae1 (List.length (en2 N1.1.ents)) ce1, .slice ac1 (List.length (ch4 N1.1.chs)) cc1] 27 :: Sh 5 1 (by8 us) ua uc :: Own 5 1 (by8 N1.1.bytes) ab1 cb1 :: Own 40 2 (en2 N1.1.ents) ae1 ce1 :: Own 63 4 (ch4 N1.1.chs) ac1 cc1 :: Sh 27 13 (enOp zs) d e :: Shs opF zs :: L) w := hS
              refine WL.nil ?_
              refine ⟨by exact RQ.ung rfl rfl rfl (RQ.ldF rfl rfl 6 hS rfl rfl ag_27 rfl rfl), ?_⟩
              refine WQ.nil ?_
              intro m2
              replace hS := hS.drewN m2; generalize hwm2 : World.drewN _ _ = w at *; clear hwm2
              refine WL.ung rfl rfl rfl ?_
              replace hS := (hS.at_ 8 rfl).share
              replace hS : St g (Sh 5 1 (by8 N1.1.bytes) ab1 cb1 :: Sh 5 1 (by8 (tidy z.m).bytes) ab2 cb2 :: Sh 40 2 (en2 (tidy z.m).ents) ae2 ce2 :: Sh 63 4 (ch4 (tidy z.m).chs) ac2 cc2 :: Sh 5 1 (by8 z.m.bytes) z.ab z.cb :: Sh 40 2 (en2 z.m.ents) z.ae z.ce :: Sh 63 4 (ch4 z.m.chs) z.ac z.cc :: cel b1 #[.int .i64 N1.1.code, .int .u64 N1.1.a, .int .u64 N1.1.b, .int .i64 N1.1.key, .int .i64 N1.1.val, .int .i64 N1.1.lo, .int .i64 N1.1.hi, .int .i64 N1.1.n, .bool N1.1.flag, .string N1.1.name, .slice ab1 (List.length (by8 N1.1.bytes)) cb1, .slice ae1 (List.length (en2 N1.1.ents)) ce1, .slice ac1 (List.length (ch4 N1.1.chs)) cc1] 27 :: Sh 5 1 (by8 us) ua uc :: Own 40 2 (en2 N1.1.ents) ae1 ce1 :: Own 63 4 (ch4 N1.1.chs) ac1 cc1 :: Sh 27 13 (enOp zs) d e :: Shs opF zs :: L) w := hS
              replace hS := (hS.at_ 9 rfl).share
              replace hS : St g (Sh 40 2 (en2 N1.1.ents) ae1 ce1 :: Sh 5 1 (by8 N1.1.bytes) ab1 cb1 :: Sh 5 1 (by8 (tidy z.m).bytes) ab2 cb2 :: Sh 40 2 (en2 (tidy z.m).ents) ae2 ce2 :: Sh 63 4 (ch4 (tidy z.m).chs) ac2 cc2 :: Sh 5 1 (by8 z.m.bytes) z.ab z.cb :: Sh 40 2 (en2 z.m.ents) z.ae z.ce :: Sh 63 4 (ch4 z.m.chs) z.ac z.cc :: cel b1 #[.int .i64 N1.1.code, .int .u64 N1.1.a, .int .u64 N1.1.b, .int .i64 N1.1.key, .int .i64 N1.1.val, .int .i64 N1.1.lo, .int .i64 N1.1.hi, .int .i64 N1.1.n, .bool N1.1.flag, .string N1.1.name, .slice ab1 (List.length (by8 N1.1.bytes)) cb1, .slice ae1 (List.length (en2 N1.1.ents)) ce1, .slice ac1 (List.length (ch4 N1.1.chs)) cc1] 27 :: Sh 5 1 (by8 us) ua uc :: Own 63 4 (ch4 N1.1.chs) ac1 cc1 :: Sh 27 13 (enOp zs) d e :: Shs opF zs :: L) w := hS
              replace hS := (hS.at_ 10 rfl).share
              replace hS : St g (Sh 63 4 (ch4 N1.1.chs) ac1 cc1 :: Sh 40 2 (en2 N1.1.ents) ae1 ce1 :: Sh 5 1 (by8 N1.1.bytes) ab1 cb1 :: Sh 5 1 (by8 (tidy z.m).bytes) ab2 cb2 :: Sh 40 2 (en2 (tidy z.m).ents) ae2 ce2 :: Sh 63 4 (ch4 (tidy z.m).chs) ac2 cc2 :: Sh 5 1 (by8 z.m.bytes) z.ab z.cb :: Sh 40 2 (en2 z.m.ents) z.ae z.ce :: Sh 63 4 (ch4 z.m.chs) z.ac z.cc :: cel b1 #[.int .i64 N1.1.code, .int .u64 N1.1.a, .int .u64 N1.1.b, .int .i64 N1.1.key, .int .i64 N1.1.val, .int .i64 N1.1.lo, .int .i64 N1.1.hi, .int .i64 N1.1.n, .bool N1.1.flag, .string N1.1.name, .slice ab1 (List.length (by8 N1.1.bytes)) cb1, .slice ae1 (List.length (en2 N1.1.ents)) ce1, .slice ac1 (List.length (ch4 N1.1.chs)) cc1] 27 :: Sh 5 1 (by8 us) ua uc :: Sh 27 13 (enOp zs) d e :: Shs opF zs :: L) w := hS
              refine WL.call rfl rfl (sameop_spec (x := N1.1) (y := tidy z.m) (ab := ab1) (ae := ae1) (ac := ac1) (ab2 := ab2) (ae2 := ae2) (ac2 := ac2) (cb := cb1) (ce := ce1) (cc := cc1) (cb2 := cb2) (ce2 := ce2) (cc2 := cc2) (h1 := (by rw [hN]; exact Nat.le_trans (tidy_few hs).1 (by decide))) (h2 := (by rw [hN]; exact Nat.le_trans (tidy_few hs).2 (by decide))) (hbx := (by rw [hN]; exact (tidy_T hzT).by_)) (hby := (tidy_T hzT).by_) (hS := (hS.sel 3 [2, 1, 0] rfl))) rfl ?_
              clear hS; rintro _ w ⟨ok1, rfl, hS, f1⟩
              replace hS : St g (Sh 5 1 (by8 N1.1.bytes) ab1 cb1 :: Sh 40 2 (en2 N1.1.ents) ae1 ce1 :: Sh 63 4 (ch4 N1.1.chs) ac1 cc1 :: Sh 5 1 (by8 (tidy z.m).bytes) ab2 cb2 :: Sh 40 2 (en2 (tidy z.m).ents) ae2 ce2 :: Sh 63 4 (ch4 (tidy z.m).chs) ac2 cc2 :: Sh 5 1 (by8 z.m.bytes) z.ab z.cb :: Sh 40 2 (en2 z.m.ents) z.ae z.ce :: Sh 63 4 (ch4 z.m.chs) z.ac z.cc :: cel b1 #[.int .i64 N1.1.code, .int .u64 N1.1.a, .int .u64 N1.1.b, .int .i64 N1.1.key, .int .i64 N1.1.val, .int .i64 N1.1.lo, .int .i64 N1.1.hi, .int .i64 N1.1.n, .bool N1.1.flag, .string N1.1.name, .slice ab1 (List.length (by8 N1.1.bytes)) cb1, .slice ae1 (List.length (en2 N1.1.ents)) ce1, .slice ac1 (List.length (ch4 N1.1.chs)) cc1] 27 :: Sh 5 1 (by8 us) ua uc :: Sh 27 13 (enOp zs) d e :: Shs opF zs :: L) w := hS
              refine WL.nil ?_
              refine ⟨by exact trivial, ?_⟩
              refine WQ.ung rfl rfl rfl ?_
              refine WQ.r 1 rfl ?_
              refine WQ.r 1 rfl ?_
              refine WQ.nil ?_
              intro m3
              replace hS := hS.drewN m3; generalize hwm3 : World.drewN _ _ = w at *; clear hwm3
              as_aux_lemma =>
                refine WC.if_ rfl (fun cd4 => ?_) (fun cd4 => ?_)
                · refine WC.seq ?_
                  refine WC.region ?_
                  refine WL.r 1 rfl ?_
                  refine WL.nil ?_
                  refine WC.ret ?_
                  refine ⟨[.bool false], rfl, ?_⟩
                  replace hS := (hS.sel 13 [] rfl)
                  exact absurd (f1.2 (by rw [hN])) (by simpa using cd4)
                · refine WC.skip ?_
                  refine WC.seq ?_
                  refine WC.region ?_
                  obtain ⟨m, hm, hm2⟩ : ∃ m : Nat, x % (((p + (eOp (tidy z.m)).length : Nat) : Int) - (p : Int)) = m ∧ m < (eOp (tidy z.m)).length := ⟨(x % (((p + (eOp (tidy z.m)).length : Nat) : Int) - (p : Int))).toNat, by have := Int.emod_nonneg x (show (((p + (eOp (tidy z.m)).length : Nat) : Int) - (p : Int)) ≠ 0 by omega); omega, by have := Int.emod_lt_of_pos x (show (0 : Int) < (((p + (eOp (tidy z.m)).length : Nat) : Int) - (p : Int)) by omega); have := Int.emod_nonneg x (show (((p + (eOp (tidy z.m)).length : Nat) : Int) - (p : Int)) ≠ 0 by omega); omega⟩
                  refine WL.r 6 rfl ?_
                  refine WL.nw 83 rfl (w64 (by omega)) ?_
                  refine WL.call rfl rfl (mod_spec (k := x) (n := ((p + (List.length (eOp (tidy z.m))) : Nat) : Int) - (p : Int)) (hk := (by assumption)) (hn := (by omega)) (hS := hS)) rfl ?_
                  clear hS; rintro _ w ⟨rfl, hS⟩
                  replace hS : St g (Sh 5 1 (by8 N1.1.bytes) ab1 cb1 :: Sh 40 2 (en2 N1.1.ents) ae1 ce1 :: Sh 63 4 (ch4 N1.1.chs) ac1 cc1 :: Sh 5 1 (by8 (tidy z.m).bytes) ab2 cb2 :: Sh 40 2 (en2 (tidy z.m).ents) ae2 ce2 :: Sh 63 4 (ch4 (tidy z.m).chs) ac2 cc2 :: Sh 5 1 (by8 z.m.bytes) z.ab z.cb :: Sh 40 2 (en2 z.m.ents) z.ae z.ce :: Sh 63 4 (ch4 z.m.chs) z.ac z.cc :: cel b1 #[.int .i64 N1.1.code, .int .u64 N1.1.a, .int .u64 N1.1.b, .int .i64 N1.1.key, .int .i64 N1.1.val, .int .i64 N1.1.lo, .int .i64 N1.1.hi, .int .i64 N1.1.n, .bool N1.1.flag, .string N1.1.name, .slice ab1 (List.length (by8 N1.1.bytes)) cb1, .slice ae1 (List.length (en2 N1.1.ents)) ce1, .slice ac1 (List.length (ch4 N1.1.chs)) cc1] 27 :: Sh 5 1 (by8 us) ua uc :: Sh 27 13 (enOp zs) d e :: Shs opF zs :: L) w := hS
                  refine WL.r 1 rfl ?_
                  refine WL.reb 85 (.int .i64 ((p + m : Nat) : Int)) (congrArg (Value.int .i64) (by rw [hm, w64 (by omega)]; omega)) ?_
                  refine WL.slHi rfl rfl (v := ((p + m : Nat) : Int)) 10 (p + m) (by8 (us.take (p + m))) el_23 hS rfl rfl rfl (by omega) (by omega) (by8_take _ _) (fun a1 hS => ?_)
                  replace hS : St g (Sh 5 1 (by8 (us.take (p + m))) a1 uc :: Sh 5 1 (by8 N1.1.bytes) ab1 cb1 :: Sh 40 2 (en2 N1.1.ents) ae1 ce1 :: Sh 63 4 (ch4 N1.1.chs) ac1 cc1 :: Sh 5 1 (by8 (tidy z.m).bytes) ab2 cb2 :: Sh 40 2 (en2 (tidy z.m).ents) ae2 ce2 :: Sh 63 4 (ch4 (tidy z.m).chs) ac2 cc2 :: Sh 5 1 (by8 z.m.bytes) z.ab z.cb :: Sh 40 2 (en2 z.m.ents) z.ae z.ce :: Sh 63 4 (ch4 z.m.chs) z.ac z.cc :: cel b1 #[.int .i64 N1.1.code, .int .u64 N1.1.a, .int .u64 N1.1.b, .int .i64 N1.1.key, .int .i64 N1.1.val, .int .i64 N1.1.lo, .int .i64 N1.1.hi, .int .i64 N1.1.n, .bool N1.1.flag, .string N1.1.name, .slice ab1 (List.length (by8 N1.1.bytes)) cb1, .slice ae1 (List.length (en2 N1.1.ents)) ce1, .slice ac1 (List.length (ch4 N1.1.chs)) cc1] 27 :: Sh 5 1 (by8 us) ua uc :: Sh 27 13 (enOp zs) d e :: Shs opF zs :: L) w := hS
                  refine WL.r 1 rfl ?_
                  refine WL.call rfl rfl (next_spec (a := a1) (c := uc) (bs := us.take (p + m)) (p := (p : Int)) (hl := (by rw [List.length_take]; omega)) (hb := hb8.take) (hS := hS)) rfl ?_
                  generalize hN2 : rNx (us.take (p + m)) (p : Int) = N2
                  clear hS; rintro _ w ⟨ab3, ae3, ac3, cb3, ce3, cc3, rfl, hS⟩
                  replace hS : St g (Sh 5 1 (by8 (us.take (p + m))) a1 uc :: Own 5 1 (by8 N2.1.bytes) ab3 cb3 :: Own 40 2 (en2 N2.1.ents) ae3 ce3 :: Own 63 4 (ch4 N2.1.chs) ac3 cc3 :: Sh 5 1 (by8 N1.1.bytes) ab1 cb1 :: Sh 40 2 (en2 N1.1.ents) ae1 ce1 :: Sh 63 4 (ch4 N1.1.chs) ac1 cc1 :: Sh 5 1 (by8 (tidy z.m).bytes) ab2 cb2 :: Sh 40 2 (en2 (tidy z.m).ents) ae2 ce2 :: Sh 63 4 (ch4 (tidy z.m).chs) ac2 cc2 :: Sh 5 1 (by8 z.m.bytes) z.ab z.cb :: Sh 40 2 (en2 z.m.ents) z.ae z.ce :: Sh 63 4 (ch4 z.m.chs) z.ac z.cc :: cel b1 #[.int .i64 N1.1.code, .int .u64 N1.1.a, .int .u64 N1.1.b, .int .i64 N1.1.key, .int .i64 N1.1.val, .int .i64 N1.1.lo, .int .i64 N1.1.hi, .int .i64 N1.1.n, .bool N1.1.flag, .string N1.1.name, .slice ab1 (List.length (by8 N1.1.bytes)) cb1, .slice ae1 (List.length (en2 N1.1.ents)) ce1, .slice ac1 (List.length (ch4 N1.1.chs)) cc1] 27 :: Sh 5 1 (by8 us) ua uc :: Sh 27 13 (enOp zs) d e :: Shs opF zs :: L) w := hS
                  refine WL.r 4 rfl ?_
                  refine WL.new rfl rfl zv_27 hS (fun b2 w hS => ?_)
                  refine WL.stF rfl rfl rfl 0 hS rfl rfl rfl rfl rfl ag_27 (fun w hS => ?_)
                  replace hS : St g (cel b2 #[.int .i64 N2.1.code, .int .u64 N2.1.a, .int .u64 N2.1.b, .int .i64 N2.1.key, .int .i64 N2.1.val, .int .i64 N2.1.lo, .int .i64 N2.1.hi, .int .i64 N2.1.n, .bool N2.1.flag, .string N2.1.name, .slice ab3 (List.length (by8 N2.1.bytes)) cb3, .slice ae3 (List.length (en2 N2.1.ents)) ce3, .slice ac3 (List.length (ch4 N2.1.chs)) cc3] 27 :: Sh 5 1 (by8 (us.take (p + m))) a1 uc :: Own 5 1 (by8 N2.1.bytes) ab3 cb3 :: Own 40 2 (en2 N2.1.ents) ae3 ce3 :: Own 63 4 (ch4 N2.1.chs) ac3 cc3 :: Sh 5 1 (by8 N1.1.bytes) ab1 cb1 :: Sh 40 2 (en2 N1.1.ents) ae1 ce1 :: Sh 63 4 (ch4 N1.1.chs) ac1 cc1 :: Sh 5 1 (by8 (tidy z.m).bytes) ab2 cb2 :: Sh 40 2 (en2 (tidy z.m).ents) ae2 ce2 :: Sh 63 4 (ch4 (tidy z.m).chs) ac2 cc2 :: Sh 5 1 (by8 z.m.bytes) z.ab z.cb :: Sh 40 2 (en2 z.m.ents) z.ae z.ce :: Sh 63 4 (ch4 z.m.chs) z.ac z.cc :: cel b1 #[.int .i64 N1.1.code, .int .u64 N1.1.a, .int .u64 N1.1.b, .int .i64 N1.1.key, .int .i64 N1.1.val, .int .i64 N1.1.lo, .int .i64 N1.1.hi, .int .i64 N1.1.n, .bool N1.1.flag, .string N1.1.name, .slice ab1 (List.length (by8 N1.1.bytes)) cb1, .slice ae1 (List.length (en2 N1.1.ents)) ce1, .slice ac1 (List.length (ch4 N1.1.chs)) cc1] 27 :: Sh 5 1 (by8 us) ua uc :: Sh 27 13 (enOp zs) d e :: Shs opF zs :: L) w := hS
                  refine WL.r 2 rfl ?_
                  refine WL.nil ?_
                  as_aux_lemma =>
                    refine WC.seq ?_
                    refine WC.seq ?_
                    refine WC.region ?_
                    have hM : N2.2 = (0, 12) := by rw [← hN2]; exact hf2 m hm2
                    refine WL.reb 15 (.int .i64 0) (congrArg (Value.int .i64) (by rw [hM])) ?_
                    refine WL.reb 16 (.int .i64 12) (congrArg (Value.int .i64) (by rw [hM])) ?_
                    refine WL.r 2 rfl ?_
                    refine WL.rG 4 rfl (fun j => ?_)
                    refine WL.prop 97 rfl (bor (dd _) (dd _)) ?_
                    refine WL.nil ?_
                    refine WC.ifF rfl (decide_eq_false ((by decide))) ?_
                    refine WC.skip ?_
                    refine WC.region ?_
                    refine WL.r 2 rfl ?_
                    refine WL.nil ?_
                    refine WC.region ?_
                    refine WL.r 2 rfl ?_
                    refine WL.nw 52 rfl (w64 (by omega)) ?_
                    refine WL.r 1 rfl ?_
                    refine WL.nil ?_
                    exact ⟨_, by omega, i + 1, p + (eOp (tidy z.m)).length, rfl, (hS.sel 15 [] rfl), (by omega), (by rw [eAll_take hz1, List.length_append, ← hp]), rfl⟩
          · refine WC.exit ?_
            refine WC.seq ?_
            refine WC.region ?_
            refine WL.call rfl rfl (awake_spec   (hS := hS)) rfl ?_
            clear hS; rintro _ w ⟨rfl, hS⟩
            replace hS : St g (Sh 5 1 (by8 us) ua uc :: Sh 27 13 (enOp zs) d e :: Shs opF zs :: L) w := hS
            refine WL.r 1 rfl ?_
            refine WL.ung rfl rfl rfl ?_
            refine WL.r 1 rfl ?_
            refine WL.ung rfl rfl rfl ?_
            refine WL.r 1 rfl ?_
            refine WL.ung rfl rfl rfl ?_
            refine WL.r 1 rfl ?_
            refine WL.ung rfl rfl rfl ?_
            refine WL.r 3 rfl ?_
            refine WL.nil ?_
            refine WC.ret ?_
            refine ⟨[.bool (decide ((p : Int) = (List.length (by8 us) : Int)))], rfl, ?_⟩
            replace hS := (hS.sel 3 [] rfl)
            exact ⟨congrArg Value.bool (decide_eq_true (by rw [hp, hul, hua, List.take_of_length_le (by omega)])), hS⟩
end Go.Proofs.Ytofnoopjlmdelaa
