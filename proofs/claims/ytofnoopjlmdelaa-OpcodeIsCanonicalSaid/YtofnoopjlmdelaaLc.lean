/-
  The law OpcodeIsCanonical, walked.
  Conditions: the arguments lie in their kinds.
-/
import Derived.Test.YtofnoopjlmdelaaLw
import Derived.Test.YtofnoopjlmdelaaNxt
import Derived.Test.YtofnoopjlmdelaaRt
namespace Go.Proofs.Ytofnoopjlmdelaa
open Go Go.V

theorem law_canon {g w : World} {L : List HP} (bs : List Int) (a : Option Addr) (c : Nat) (k : Int) (hb : B8 bs) (hk : I64 k) (hS : St g (Sh 5 1 (by8 bs) a c :: L) w) :
    Sp Try.prog 7 [.slice a (List.length (by8 bs)) c, .int .i64 k] w (fun v w' => v = .bool true ∧ St g (L) w') := by
  refine Sp.enter Try.func7 rfl (by kernel_rfl) (by kernel_rfl) ?_
  have _ := hk
  refine WC.seq ?_
  refine WC.region ?_
  refine WL.r 1 rfl ?_
  refine WL.nil ?_
  refine WC.seq ?_
  refine WC.seq ?_
  refine WC.region ?_
  have hl8 := by8_len bs
  refine WL.r 3 rfl ?_
  refine WL.nil ?_
  refine WC.ifP rfl (fun cd1 => ?_) (fun cd1 => ?_)
  · refine WC.seq ?_
    refine WC.region ?_
    refine WL.call rfl rfl (awake_spec   (hS := hS)) rfl ?_
    clear hS; rintro _ w ⟨rfl, hS⟩
    replace hS : St g (Sh 5 1 (by8 bs) a c :: L) w := hS
    refine WL.r 1 rfl ?_
    refine WL.nil ?_
    refine WC.ret ?_
    refine ⟨[.bool true], rfl, ?_⟩
    replace hS := (hS.sel 1 [] rfl)
    exact ⟨rfl, hS⟩
  · refine WC.skip ?_
    refine WC.seq ?_
    refine WC.region ?_
    obtain ⟨p, hp, hp2⟩ : ∃ p : Nat, k % (((by8 bs).length : Int) + 1) = p ∧ p ≤ bs.length := ⟨(k % (((by8 bs).length : Int) + 1)).toNat, by have := Int.emod_nonneg k (show ((by8 bs).length : Int) + 1 ≠ 0 by omega); omega, by have := Int.emod_lt_of_pos k (show (0 : Int) < ((by8 bs).length : Int) + 1 by omega); have := Int.emod_nonneg k (show ((by8 bs).length : Int) + 1 ≠ 0 by omega); omega⟩
    refine WL.r 4 rfl ?_
    refine WL.nw 17 rfl (w64 (by omega)) ?_
    refine WL.call rfl rfl (mod_spec (k := k) (n := (List.length (by8 bs) : Int) + 1) (hk := (by assumption)) (hn := (by omega)) (hS := hS)) rfl ?_
    clear hS; rintro _ w ⟨rfl, hS⟩
    replace hS : St g (Sh 5 1 (by8 bs) a c :: L) w := hS
    refine WL.r 1 rfl ?_
    refine WL.nil ?_
    refine WC.seq ?_
    refine WC.region ?_
    refine WL.reb 1 (.int .i64 (p : Int)) (congrArg (Value.int .i64) hp) ?_
    refine WL.r 2 rfl ?_
    refine WL.call rfl rfl (next_spec (a := a) (c := c) (bs := bs) (p := (p : Int)) (hl := (by omega)) (hb := hb) (hS := hS)) rfl ?_
    generalize hN1 : rNx bs (p : Int) = N1
    clear hS; rintro _ w ⟨ab1, ae1, ac1, cb1, ce1, cc1, rfl, hS⟩
    replace hS : St g (Sh 5 1 (by8 bs) a c :: Own 5 1 (by8 N1.1.bytes) ab1 cb1 :: Own 40 2 (en2 N1.1.ents) ae1 ce1 :: Own 63 4 (ch4 N1.1.chs) ac1 cc1 :: L) w := hS
    refine WL.r 4 rfl ?_
    refine WL.new rfl rfl zv_27 hS (fun b1 w hS => ?_)
    refine WL.stF rfl rfl rfl 0 hS rfl rfl rfl rfl rfl ag_27 (fun w hS => ?_)
    replace hS : St g (cel b1 #[.int .i64 N1.1.code, .int .u64 N1.1.a, .int .u64 N1.1.b, .int .i64 N1.1.key, .int .i64 N1.1.val, .int .i64 N1.1.lo, .int .i64 N1.1.hi, .int .i64 N1.1.n, .bool N1.1.flag, .string N1.1.name, .slice ab1 (List.length (by8 N1.1.bytes)) cb1, .slice ae1 (List.length (en2 N1.1.ents)) ce1, .slice ac1 (List.length (ch4 N1.1.chs)) cc1] 27 :: Sh 5 1 (by8 bs) a c :: Own 5 1 (by8 N1.1.bytes) ab1 cb1 :: Own 40 2 (en2 N1.1.ents) ae1 ce1 :: Own 63 4 (ch4 N1.1.chs) ac1 cc1 :: L) w := hS
    refine WL.r 2 rfl ?_
    refine WL.nil ?_
    as_aux_lemma =>
      refine WC.seq ?_
      refine WC.seq ?_
      refine WC.region ?_
      refine WL.r 2 rfl ?_
      refine WL.nil ?_
      refine WC.ifP rfl (fun cd2 => ?_) (fun cd2 => ?_)
      · refine WC.seq ?_
        refine WC.region ?_
        refine WL.call rfl rfl (awake_spec   (hS := hS)) rfl ?_
        clear hS; rintro _ w ⟨rfl, hS⟩
        replace hS : St g (cel b1 #[.int .i64 N1.1.code, .int .u64 N1.1.a, .int .u64 N1.1.b, .int .i64 N1.1.key, .int .i64 N1.1.val, .int .i64 N1.1.lo, .int .i64 N1.1.hi, .int .i64 N1.1.n, .bool N1.1.flag, .string N1.1.name, .slice ab1 (List.length (by8 N1.1.bytes)) cb1, .slice ae1 (List.length (en2 N1.1.ents)) ce1, .slice ac1 (List.length (ch4 N1.1.chs)) cc1] 27 :: Sh 5 1 (by8 bs) a c :: Own 5 1 (by8 N1.1.bytes) ab1 cb1 :: Own 40 2 (en2 N1.1.ents) ae1 ce1 :: Own 63 4 (ch4 N1.1.chs) ac1 cc1 :: L) w := hS
        refine WL.r 1 rfl ?_
        refine WL.nil ?_
        refine WC.ret ?_
        refine ⟨[.bool true], rfl, ?_⟩
        replace hS := (hS.sel 5 [] rfl)
        exact ⟨rfl, hS⟩
      · refine WC.skip ?_
        refine WC.seq ?_
        refine WC.region ?_
        obtain ⟨q, hq1, hok, hR, hlt, hseg⟩ := nx_c hb hp2 hN1 (Classical.not_not.1 cd2); have hqb := hseg.hi
        refine WL.ldF rfl rfl 0 hS rfl rfl ag_27 ?_
        replace hS := hS.nilS 5 1
        replace hS : St g (Sh 5 1 (by8 []) none 0 :: cel b1 #[.int .i64 N1.1.code, .int .u64 N1.1.a, .int .u64 N1.1.b, .int .i64 N1.1.key, .int .i64 N1.1.val, .int .i64 N1.1.lo, .int .i64 N1.1.hi, .int .i64 N1.1.n, .bool N1.1.flag, .string N1.1.name, .slice ab1 (List.length (by8 N1.1.bytes)) cb1, .slice ae1 (List.length (en2 N1.1.ents)) ce1, .slice ac1 (List.length (ch4 N1.1.chs)) cc1] 27 :: Sh 5 1 (by8 bs) a c :: Own 5 1 (by8 N1.1.bytes) ab1 cb1 :: Own 40 2 (en2 N1.1.ents) ae1 ce1 :: Own 63 4 (ch4 N1.1.chs) ac1 cc1 :: L) w := hS
        replace hS := (hS.at_ 3 rfl).share
        replace hS : St g (Sh 5 1 (by8 N1.1.bytes) ab1 cb1 :: Sh 5 1 (by8 []) none 0 :: cel b1 #[.int .i64 N1.1.code, .int .u64 N1.1.a, .int .u64 N1.1.b, .int .i64 N1.1.key, .int .i64 N1.1.val, .int .i64 N1.1.lo, .int .i64 N1.1.hi, .int .i64 N1.1.n, .bool N1.1.flag, .string N1.1.name, .slice ab1 (List.length (by8 N1.1.bytes)) cb1, .slice ae1 (List.length (en2 N1.1.ents)) ce1, .slice ac1 (List.length (ch4 N1.1.chs)) cc1] 27 :: Sh 5 1 (by8 bs) a c :: Own 40 2 (en2 N1.1.ents) ae1 ce1 :: Own 63 4 (ch4 N1.1.chs) ac1 cc1 :: L) w := hS
        replace hS := (hS.at_ 4 rfl).share
        replace hS : St g (Sh 40 2 (en2 N1.1.ents) ae1 ce1 :: Sh 5 1 (by8 N1.1.bytes) ab1 cb1 :: Sh 5 1 (by8 []) none 0 :: cel b1 #[.int .i64 N1.1.code, .int .u64 N1.1.a, .int .u64 N1.1.b, .int .i64 N1.1.key, .int .i64 N1.1.val, .int .i64 N1.1.lo, .int .i64 N1.1.hi, .int .i64 N1.1.n, .bool N1.1.flag, .string N1.1.name, .slice ab1 (List.length (by8 N1.1.bytes)) cb1, .slice ae1 (List.length (en2 N1.1.ents)) ce1, .slice ac1 (List.length (ch4 N1.1.chs)) cc1] 27 :: Sh 5 1 (by8 bs) a c :: Own 63 4 (ch4 N1.1.chs) ac1 cc1 :: L) w := hS
        replace hS := (hS.at_ 5 rfl).share
        replace hS : St g (Sh 63 4 (ch4 N1.1.chs) ac1 cc1 :: Sh 40 2 (en2 N1.1.ents) ae1 ce1 :: Sh 5 1 (by8 N1.1.bytes) ab1 cb1 :: Sh 5 1 (by8 []) none 0 :: cel b1 #[.int .i64 N1.1.code, .int .u64 N1.1.a, .int .u64 N1.1.b, .int .i64 N1.1.key, .int .i64 N1.1.val, .int .i64 N1.1.lo, .int .i64 N1.1.hi, .int .i64 N1.1.n, .bool N1.1.flag, .string N1.1.name, .slice ab1 (List.length (by8 N1.1.bytes)) cb1, .slice ae1 (List.length (en2 N1.1.ents)) ce1, .slice ac1 (List.length (ch4 N1.1.chs)) cc1] 27 :: Sh 5 1 (by8 bs) a c :: L) w := hS
        refine WL.call rfl rfl (append_spec (bs := []) (a := none) (c := 0) (x := N1.1) (ab := ab1) (ae := ae1) (ac := ac1) (cb := cb1) (ce := ce1) (cc := cc1) (hbs := (by decide)) (hw := hR.t.w) (hS := (hS.sel 4 [3, 2, 1, 0] rfl))) rfl ?_
        clear hS; rintro _ w ⟨ok1, ys1, a1, c1, rfl, hS, f1, f2⟩
        replace hS : St g (Own 5 1 (by8 ys1) a1 c1 :: Sh 5 1 (by8 []) none 0 :: Sh 5 1 (by8 N1.1.bytes) ab1 cb1 :: Sh 40 2 (en2 N1.1.ents) ae1 ce1 :: Sh 63 4 (ch4 N1.1.chs) ac1 cc1 :: cel b1 #[.int .i64 N1.1.code, .int .u64 N1.1.a, .int .u64 N1.1.b, .int .i64 N1.1.key, .int .i64 N1.1.val, .int .i64 N1.1.lo, .int .i64 N1.1.hi, .int .i64 N1.1.n, .bool N1.1.flag, .string N1.1.name, .slice ab1 (List.length (by8 N1.1.bytes)) cb1, .slice ae1 (List.length (en2 N1.1.ents)) ce1, .slice ac1 (List.length (ch4 N1.1.chs)) cc1] 27 :: Sh 5 1 (by8 bs) a c :: L) w := hS
        refine WL.r 5 rfl ?_
        refine WL.nil ?_
        refine WC.seq ?_
        refine WC.region ?_
        refine WL.call rfl rfl (awake_spec   (hS := hS)) rfl ?_
        clear hS; rintro _ w ⟨rfl, hS⟩
        replace hS : St g (Own 5 1 (by8 ys1) a1 c1 :: Sh 5 1 (by8 []) none 0 :: Sh 5 1 (by8 N1.1.bytes) ab1 cb1 :: Sh 40 2 (en2 N1.1.ents) ae1 ce1 :: Sh 63 4 (ch4 N1.1.chs) ac1 cc1 :: cel b1 #[.int .i64 N1.1.code, .int .u64 N1.1.a, .int .u64 N1.1.b, .int .i64 N1.1.key, .int .i64 N1.1.val, .int .i64 N1.1.lo, .int .i64 N1.1.hi, .int .i64 N1.1.n, .bool N1.1.flag, .string N1.1.name, .slice ab1 (List.length (by8 N1.1.bytes)) cb1, .slice ae1 (List.length (en2 N1.1.ents)) ce1, .slice ac1 (List.length (ch4 N1.1.chs)) cc1] 27 :: Sh 5 1 (by8 bs) a c :: L) w := hS
        refine WL.r 1 rfl ?_
        refine WL.ung rfl rfl rfl ?_
        refine WL.r 1 rfl ?_
        refine WL.ung rfl rfl rfl ?_
        refine WL.r 1 rfl ?_
        refine WL.ung rfl rfl rfl ?_
        refine WL.r 3 rfl ?_
        by_cases cg1 : (p : Int) < N1.2.1
        · refine WL.reb 40 (.bool true) (congrArg Value.bool (decide_eq_true cg1)) ?_
          refine WL.ung rfl rfl rfl ?_
          refine WL.r 1 rfl ?_
          refine WL.ung rfl rfl rfl ?_
          refine WL.r 1 rfl ?_
          refine WL.ung rfl rfl rfl ?_
          refine WL.r 1 rfl ?_
          refine WL.ung rfl rfl rfl ?_
          refine WL.r 3 rfl ?_
          by_cases cg2 : N1.2.1 ≤ (List.length (by8 bs) : Int)
          · refine WL.reb 46 (.bool true) (congrArg Value.bool (decide_eq_true cg2)) ?_
            refine WL.ung rfl rfl rfl ?_
            refine WL.ldF rfl rfl 5 hS rfl rfl ag_27 ?_
            refine WL.ung rfl rfl rfl ?_
            refine WL.call rfl rfl (valid_spec (x := N1.1) (ab := ab1) (ae := ae1) (ac := ac1) (cb := cb1) (ce := ce1) (cc := cc1)  (hS := (hS.sel 5 [4, 0, 0, 0, 0] rfl))) rfl ?_
            clear hS; rintro _ w ⟨ok2, rfl, hS, f3⟩
            replace hS : St g (Sh 63 4 (ch4 N1.1.chs) ac1 cc1 :: Own 5 1 (by8 ys1) a1 c1 :: Sh 5 1 (by8 []) none 0 :: Sh 5 1 (by8 N1.1.bytes) ab1 cb1 :: Sh 40 2 (en2 N1.1.ents) ae1 ce1 :: cel b1 #[.int .i64 N1.1.code, .int .u64 N1.1.a, .int .u64 N1.1.b, .int .i64 N1.1.key, .int .i64 N1.1.val, .int .i64 N1.1.lo, .int .i64 N1.1.hi, .int .i64 N1.1.n, .bool N1.1.flag, .string N1.1.name, .slice ab1 (List.length (by8 N1.1.bytes)) cb1, .slice ae1 (List.length (en2 N1.1.ents)) ce1, .slice ac1 (List.length (ch4 N1.1.chs)) cc1] 27 :: Sh 5 1 (by8 bs) a c :: L) w := hS
            refine WL.r 2 rfl ?_
            by_cases cg3 : ok2 = true
            · refine WL.reb 50 (.bool true) (congrArg Value.bool cg3) ?_
              refine WL.ung rfl rfl rfl ?_
              refine WL.r 1 rfl ?_
              refine WL.ung rfl rfl rfl ?_
              refine WL.r 3 rfl ?_
              by_cases cg4 : (if ok1 then (0 : Int) else 1) = 0
              · refine WL.reb 54 (.bool true) (congrArg Value.bool (decide_eq_true cg4)) ?_
                refine WL.ung rfl rfl rfl ?_
                refine WL.r 1 rfl ?_
                refine WL.ung rfl rfl rfl ?_
                refine WL.r 1 rfl ?_
                refine WL.ung rfl rfl rfl ?_
                refine WL.r 1 rfl ?_
                refine WL.ung rfl rfl rfl ?_
                refine WL.r 1 rfl ?_
                refine WL.ung rfl rfl rfl ?_
                refine WL.slLH rfl rfl (v := (p : Int)) (v' := N1.2.1) 6 (p) (q) (by8 ((bs.take q).drop p)) el_23 hS rfl rfl rfl (by omega) rfl (by omega) (by omega) (by omega) (by rw [by8_take, by8_drop]) (fun a2 hS => ?_)
                replace hS : St g (Sh 5 1 (by8 ((bs.take q).drop p)) a2 (c - p) :: Sh 63 4 (ch4 N1.1.chs) ac1 cc1 :: Own 5 1 (by8 ys1) a1 c1 :: Sh 5 1 (by8 []) none 0 :: Sh 5 1 (by8 N1.1.bytes) ab1 cb1 :: Sh 40 2 (en2 N1.1.ents) ae1 ce1 :: cel b1 #[.int .i64 N1.1.code, .int .u64 N1.1.a, .int .u64 N1.1.b, .int .i64 N1.1.key, .int .i64 N1.1.val, .int .i64 N1.1.lo, .int .i64 N1.1.hi, .int .i64 N1.1.n, .bool N1.1.flag, .string N1.1.name, .slice ab1 (List.length (by8 N1.1.bytes)) cb1, .slice ae1 (List.length (en2 N1.1.ents)) ce1, .slice ac1 (List.length (ch4 N1.1.chs)) cc1] 27 :: Sh 5 1 (by8 bs) a c :: L) w := hS
                refine WL.ung rfl rfl rfl ?_
                replace hS := (hS.at_ 2 rfl).share
                replace hS : St g (Sh 5 1 (by8 ys1) a1 c1 :: Sh 5 1 (by8 ((bs.take q).drop p)) a2 (c - p) :: Sh 63 4 (ch4 N1.1.chs) ac1 cc1 :: Sh 5 1 (by8 []) none 0 :: Sh 5 1 (by8 N1.1.bytes) ab1 cb1 :: Sh 40 2 (en2 N1.1.ents) ae1 ce1 :: cel b1 #[.int .i64 N1.1.code, .int .u64 N1.1.a, .int .u64 N1.1.b, .int .i64 N1.1.key, .int .i64 N1.1.val, .int .i64 N1.1.lo, .int .i64 N1.1.hi, .int .i64 N1.1.n, .bool N1.1.flag, .string N1.1.name, .slice ab1 (List.length (by8 N1.1.bytes)) cb1, .slice ae1 (List.length (en2 N1.1.ents)) ce1, .slice ac1 (List.length (ch4 N1.1.chs)) cc1] 27 :: Sh 5 1 (by8 bs) a c :: L) w := hS
                refine WL.call rfl rfl (sameB (xs := ys1) (ys := (bs.take q).drop p) (a := a1) (b := a2) (c := c1) (d := c - p) (hl := (by rw [f2, if_pos (f1.2 hok)]; have := eOp_len hR.t.w hR.l; simp; omega)) (hS := hS)) rfl ?_
                clear hS; rintro _ w ⟨ok3, rfl, hS, f4⟩
                replace hS : St g (Sh 5 1 (by8 ys1) a1 c1 :: Sh 5 1 (by8 ((bs.take q).drop p)) a2 (c - p) :: Sh 63 4 (ch4 N1.1.chs) ac1 cc1 :: Sh 5 1 (by8 []) none 0 :: Sh 5 1 (by8 N1.1.bytes) ab1 cb1 :: Sh 40 2 (en2 N1.1.ents) ae1 ce1 :: cel b1 #[.int .i64 N1.1.code, .int .u64 N1.1.a, .int .u64 N1.1.b, .int .i64 N1.1.key, .int .i64 N1.1.val, .int .i64 N1.1.lo, .int .i64 N1.1.hi, .int .i64 N1.1.n, .bool N1.1.flag, .string N1.1.name, .slice ab1 (List.length (by8 N1.1.bytes)) cb1, .slice ae1 (List.length (en2 N1.1.ents)) ce1, .slice ac1 (List.length (ch4 N1.1.chs)) cc1] 27 :: Sh 5 1 (by8 bs) a c :: L) w := hS
                refine WL.r 2 rfl ?_
                refine WL.nil ?_
                as_aux_lemma =>
                  refine WC.ret ?_
                  refine ⟨[.bool ok3], rfl, ?_⟩
                  replace hS := (hS.sel 8 [] rfl)
                  exact ⟨congrArg Value.bool (f4.2 (by rw [f2, if_pos (f1.2 hok), hseg.eq]; simp)), hS⟩
              · refine WL.reb 54 (.bool false) (congrArg Value.bool (decide_eq_false cg4)) ?_
                refine WL.skp rfl rfl rfl rfl ?_
                refine WL.skp rfl rfl rfl rfl ?_
                refine WL.skp rfl rfl rfl rfl ?_
                refine WL.skp rfl rfl rfl rfl ?_
                refine WL.skp rfl rfl rfl rfl ?_
                refine WL.skp rfl rfl rfl rfl ?_
                refine WL.r 2 rfl ?_
                refine WL.nil ?_
                as_aux_lemma =>
                  refine WC.ret ?_
                  refine ⟨[.bool false], rfl, ?_⟩
                  replace hS := (hS.sel 7 [] rfl)
                  exact absurd (by rw [if_pos (f1.2 hok)]) cg4
            · refine WL.reb 50 (.bool false) (congrArg Value.bool (Bool.eq_false_iff.2 cg3)) ?_
              refine WL.skp rfl rfl rfl rfl ?_
              refine WL.skp rfl rfl rfl rfl ?_
              refine WL.r 2 rfl ?_
              refine WL.skp rfl rfl rfl rfl ?_
              refine WL.skp rfl rfl rfl rfl ?_
              refine WL.skp rfl rfl rfl rfl ?_
              refine WL.skp rfl rfl rfl rfl ?_
              refine WL.skp rfl rfl rfl rfl ?_
              refine WL.skp rfl rfl rfl rfl ?_
              refine WL.r 2 rfl ?_
              refine WL.nil ?_
              as_aux_lemma =>
                refine WC.ret ?_
                refine ⟨[.bool false], rfl, ?_⟩
                replace hS := (hS.sel 7 [] rfl)
                exact absurd (f3.2 hok) cg3
          · refine WL.reb 46 (.bool false) (congrArg Value.bool (decide_eq_false cg2)) ?_
            refine WL.skp rfl rfl rfl rfl ?_
            refine WL.skp rfl rfl rfl rfl ?_
            refine WL.r 2 rfl ?_
            refine WL.skp rfl rfl rfl rfl ?_
            refine WL.skp rfl rfl rfl rfl ?_
            refine WL.r 2 rfl ?_
            refine WL.skp rfl rfl rfl rfl ?_
            refine WL.skp rfl rfl rfl rfl ?_
            refine WL.skp rfl rfl rfl rfl ?_
            refine WL.skp rfl rfl rfl rfl ?_
            refine WL.skp rfl rfl rfl rfl ?_
            refine WL.skp rfl rfl rfl rfl ?_
            refine WL.r 2 rfl ?_
            refine WL.nil ?_
            as_aux_lemma =>
              refine WC.ret ?_
              refine ⟨[.bool false], rfl, ?_⟩
              replace hS := (hS.sel 7 [] rfl)
              exact absurd (by omega) cg2
        · refine WL.reb 40 (.bool false) (congrArg Value.bool (decide_eq_false cg1)) ?_
          refine WL.skp rfl rfl rfl rfl ?_
          refine WL.skp rfl rfl rfl rfl ?_
          refine WL.skp rfl rfl rfl rfl ?_
          refine WL.skp rfl rfl rfl rfl ?_
          refine WL.r 2 rfl ?_
          refine WL.skp rfl rfl rfl rfl ?_
          refine WL.skp rfl rfl rfl rfl ?_
          refine WL.r 2 rfl ?_
          refine WL.skp rfl rfl rfl rfl ?_
          refine WL.skp rfl rfl rfl rfl ?_
          refine WL.r 2 rfl ?_
          refine WL.skp rfl rfl rfl rfl ?_
          refine WL.skp rfl rfl rfl rfl ?_
          refine WL.skp rfl rfl rfl rfl ?_
          refine WL.skp rfl rfl rfl rfl ?_
          refine WL.skp rfl rfl rfl rfl ?_
          refine WL.skp rfl rfl rfl rfl ?_
          refine WL.r 2 rfl ?_
          refine WL.nil ?_
          as_aux_lemma =>
            refine WC.ret ?_
            refine ⟨[.bool false], rfl, ?_⟩
            replace hS := (hS.sel 7 [] rfl)
            exact absurd (by omega) cg1
end Go.Proofs.Ytofnoopjlmdelaa
