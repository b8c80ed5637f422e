/-
  The law OpcodeDecodes, walked.
  Conditions: the arguments lie in their kinds.
-/
import Derived.Test.YtofnoopjlmdelaaLw
import Derived.Test.YtofnoopjlmdelaaNxt
import Derived.Test.YtofnoopjlmdelaaQd3
import Derived.Test.YtofnoopjlmdelaaLaw
namespace Go.Proofs.Ytofnoopjlmdelaa
open Go Go.V


set_option maxHeartbeats 1000000 in
theorem law_decodes {g w : World} {L : List HP} (x : OpM) (ab ae ac : Option Addr) (cb ce cc : Nat) (bs : List Int) (a : Option Addr) (c : Nat) (p k z f : Int) (hx : OpT x) (hb : B8 bs) (hk : I64 k) (hz : 0 ≤ z ∧ z ≤ 255) (hf : 0 ≤ f ∧ f ≤ 255) (hS : St g (Sh 5 1 (by8 bs) a c :: Sh 5 1 (by8 x.bytes) ab cb :: Sh 40 2 (en2 x.ents) ae ce :: Sh 63 4 (ch4 x.chs) ac cc :: L) w) :
    Sp Try.prog 6 [.slice a (List.length (by8 bs)) c, .int .i64 p, .agg #[.int .i64 x.code, .int .u64 x.a, .int .u64 x.b, .int .i64 x.key, .int .i64 x.val, .int .i64 x.lo, .int .i64 x.hi, .int .i64 x.n, .bool x.flag, .string x.name, .slice ab (List.length (by8 x.bytes)) cb, .slice ae (List.length (en2 x.ents)) ce, .slice ac (List.length (ch4 x.chs)) cc], .int .i64 k, .int .u8 z, .int .u8 f] w (fun v w' => v = .bool true ∧ St g (L) w') := by
  refine Sp.enter Try.func6 rfl (by kernel_rfl) (by kernel_rfl) ?_
  have _ := hf
  have _ := hk
  refine WC.seq ?_
  refine WC.region ?_
  refine WL.box rfl rfl #[.int .i64 x.code, .int .u64 x.a, .int .u64 x.b, .int .i64 x.key, .int .i64 x.val, .int .i64 x.lo, .int .i64 x.hi, .int .i64 x.n, .bool x.flag, .string x.name, .slice ab (List.length (by8 x.bytes)) cb, .slice ae (List.length (en2 x.ents)) ce, .slice ac (List.length (ch4 x.chs)) cc] hS rfl rfl (fun b1 w hS => ?_)
  refine WL.r 1 rfl ?_
  refine WL.nil ?_
  refine WC.seq ?_
  refine WC.seq ?_
  refine WC.region ?_
  refine WL.r 4 rfl ?_
  by_cases cg1 : 300 < (List.length (by8 bs) : Int)
  · refine WL.reb 31 (.bool true) (congrArg Value.bool (decide_eq_true cg1)) ?_
    refine WL.skp rfl rfl rfl rfl ?_
    refine WL.skp rfl rfl rfl rfl ?_
    refine WL.skp rfl rfl rfl rfl ?_
    refine WL.r 1 rfl ?_
    refine WL.nil ?_
    refine WC.ifT rfl rfl ?_
    refine WC.seq ?_
    refine WC.region ?_
    refine WL.call rfl rfl (awake_spec   (hS := hS)) rfl ?_
    clear hS; rintro _ w ⟨rfl, hS⟩
    replace hS : St g (cel b1 #[.int .i64 x.code, .int .u64 x.a, .int .u64 x.b, .int .i64 x.key, .int .i64 x.val, .int .i64 x.lo, .int .i64 x.hi, .int .i64 x.n, .bool x.flag, .string x.name, .slice ab (List.length (by8 x.bytes)) cb, .slice ae (List.length (en2 x.ents)) ce, .slice ac (List.length (ch4 x.chs)) cc] 27 :: Sh 5 1 (by8 bs) a c :: Sh 5 1 (by8 x.bytes) ab cb :: Sh 40 2 (en2 x.ents) ae ce :: Sh 63 4 (ch4 x.chs) ac cc :: L) w := hS
    refine WL.r 1 rfl ?_
    refine WL.nil ?_
    as_aux_lemma =>
      refine WC.ret ?_
      refine ⟨[.bool true], rfl, ?_⟩
      replace hS := (hS.sel 5 [] rfl)
      exact ⟨rfl, hS⟩
  · refine WL.reb 31 (.bool false) (congrArg Value.bool (decide_eq_false cg1)) ?_
    refine WL.ung rfl rfl rfl ?_
    refine WL.ldF rfl rfl 0 hS rfl rfl ag_27 ?_
    refine WL.ung rfl rfl rfl ?_
    refine WL.call rfl rfl (small_spec (x := x) (ab := ab) (ae := ae) (ac := ac) (cb := cb) (ce := ce) (cc := cc)  (hS := hS)) rfl ?_
    clear hS; rintro _ w ⟨rfl, hS⟩
    replace hS : St g (cel b1 #[.int .i64 x.code, .int .u64 x.a, .int .u64 x.b, .int .i64 x.key, .int .i64 x.val, .int .i64 x.lo, .int .i64 x.hi, .int .i64 x.n, .bool x.flag, .string x.name, .slice ab (List.length (by8 x.bytes)) cb, .slice ae (List.length (en2 x.ents)) ce, .slice ac (List.length (ch4 x.chs)) cc] 27 :: Sh 5 1 (by8 bs) a c :: Sh 5 1 (by8 x.bytes) ab cb :: Sh 40 2 (en2 x.ents) ae ce :: Sh 63 4 (ch4 x.chs) ac cc :: L) w := hS
    refine WL.ung rfl rfl rfl ?_
    refine WL.r 1 rfl ?_
    refine WL.prop 34 rfl (bnot (dd _)) ?_
    refine WL.r 1 rfl ?_
    refine WL.nil ?_
    refine WC.ifP rfl (fun cd1 => ?_) (fun cd1 => ?_)
    · refine WC.seq ?_
      refine WC.region ?_
      refine WL.call rfl rfl (awake_spec   (hS := hS)) rfl ?_
      clear hS; rintro _ w ⟨rfl, hS⟩
      replace hS : St g (cel b1 #[.int .i64 x.code, .int .u64 x.a, .int .u64 x.b, .int .i64 x.key, .int .i64 x.val, .int .i64 x.lo, .int .i64 x.hi, .int .i64 x.n, .bool x.flag, .string x.name, .slice ab (List.length (by8 x.bytes)) cb, .slice ae (List.length (en2 x.ents)) ce, .slice ac (List.length (ch4 x.chs)) cc] 27 :: Sh 5 1 (by8 bs) a c :: Sh 5 1 (by8 x.bytes) ab cb :: Sh 40 2 (en2 x.ents) ae ce :: Sh 63 4 (ch4 x.chs) ac cc :: L) w := hS
      refine WL.r 1 rfl ?_
      refine WL.nil ?_
      as_aux_lemma =>
        refine WC.ret ?_
        refine ⟨[.bool true], rfl, ?_⟩
        replace hS := (hS.sel 5 [] rfl)
        exact ⟨rfl, hS⟩
    · refine WC.skip ?_
      as_aux_lemma =>
        refine WC.seq ?_
        refine WC.region ?_
        have hs := Classical.not_not.1 cd1; have hT := tidy_T hx; have hL := tidy_L hs; obtain ⟨ht1, ht2⟩ := tidy_len hx hs; have h8 := eOp_B8 hT.by_; have hl8 := by8_len bs
        refine WL.ldF rfl rfl 0 hS rfl rfl ag_27 ?_
        refine WL.call rfl rfl (tidy_spec (x := x) (ab := ab) (ae := ae) (ac := ac) (cb := cb) (ce := ce) (cc := cc) (hw := (by assumption)) (hs := (by assumption)) (hS := (hS.sel 5 [2, 2, 2, 0, 0] rfl))) rfl ?_
        clear hS; rintro _ w ⟨ab1, ae1, ac1, cb1, ce1, cc1, rfl, hS⟩
        replace hS : St g (Sh 5 1 (by8 (tidy x).bytes) ab1 cb1 :: Sh 40 2 (en2 (tidy x).ents) ae1 ce1 :: Sh 63 4 (ch4 (tidy x).chs) ac1 cc1 :: Sh 5 1 (by8 x.bytes) ab cb :: Sh 40 2 (en2 x.ents) ae ce :: Sh 63 4 (ch4 x.chs) ac cc :: cel b1 #[.int .i64 x.code, .int .u64 x.a, .int .u64 x.b, .int .i64 x.key, .int .i64 x.val, .int .i64 x.lo, .int .i64 x.hi, .int .i64 x.n, .bool x.flag, .string x.name, .slice ab (List.length (by8 x.bytes)) cb, .slice ae (List.length (en2 x.ents)) ce, .slice ac (List.length (ch4 x.chs)) cc] 27 :: Sh 5 1 (by8 bs) a c :: L) w := hS
        refine WL.call rfl rfl (rencode_spec (x := tidy x) (ab := ab1) (ae := ae1) (ac := ac1) (cb := cb1) (ce := ce1) (cc := cc1) (hw := hT.w) (hl := hL) (hS := hS)) rfl ?_
        clear hS; rintro _ w ⟨a1, c1, rfl, hS⟩
        replace hS : St g (Own 5 1 (by8 (eOp (tidy x))) a1 c1 :: Sh 5 1 (by8 (tidy x).bytes) ab1 cb1 :: Sh 40 2 (en2 (tidy x).ents) ae1 ce1 :: Sh 63 4 (ch4 (tidy x).chs) ac1 cc1 :: Sh 5 1 (by8 x.bytes) ab cb :: Sh 40 2 (en2 x.ents) ae ce :: Sh 63 4 (ch4 x.chs) ac cc :: cel b1 #[.int .i64 x.code, .int .u64 x.a, .int .u64 x.b, .int .i64 x.key, .int .i64 x.val, .int .i64 x.lo, .int .i64 x.hi, .int .i64 x.n, .bool x.flag, .string x.name, .slice ab (List.length (by8 x.bytes)) cb, .slice ae (List.length (en2 x.ents)) ce, .slice ac (List.length (ch4 x.chs)) cc] 27 :: Sh 5 1 (by8 bs) a c :: L) w := hS
        refine WL.r 1 rfl ?_
        refine WL.nil ?_
        refine WC.seq ?_
        refine WC.region ?_
        have htl := by8_len (eOp (tidy x))
        replace hS := (hS.at_ 0 rfl).share
        replace hS : St g (Sh 5 1 (by8 (eOp (tidy x))) a1 c1 :: Sh 5 1 (by8 (tidy x).bytes) ab1 cb1 :: Sh 40 2 (en2 (tidy x).ents) ae1 ce1 :: Sh 63 4 (ch4 (tidy x).chs) ac1 cc1 :: Sh 5 1 (by8 x.bytes) ab cb :: Sh 40 2 (en2 x.ents) ae ce :: Sh 63 4 (ch4 x.chs) ac cc :: cel b1 #[.int .i64 x.code, .int .u64 x.a, .int .u64 x.b, .int .i64 x.key, .int .i64 x.val, .int .i64 x.lo, .int .i64 x.hi, .int .i64 x.n, .bool x.flag, .string x.name, .slice ab (List.length (by8 x.bytes)) cb, .slice ae (List.length (en2 x.ents)) ce, .slice ac (List.length (ch4 x.chs)) cc] 27 :: Sh 5 1 (by8 bs) a c :: L) w := hS
        refine WL.r 3 rfl ?_
        refine WL.call rfl rfl (mod_spec (k := k) (n := (List.length (by8 (eOp (tidy x))) : Int)) (hk := (by assumption)) (hn := (by omega)) (hS := hS)) rfl ?_
        clear hS; rintro _ w ⟨rfl, hS⟩
        replace hS : St g (Sh 5 1 (by8 (eOp (tidy x))) a1 c1 :: Sh 5 1 (by8 (tidy x).bytes) ab1 cb1 :: Sh 40 2 (en2 (tidy x).ents) ae1 ce1 :: Sh 63 4 (ch4 (tidy x).chs) ac1 cc1 :: Sh 5 1 (by8 x.bytes) ab cb :: Sh 40 2 (en2 x.ents) ae ce :: Sh 63 4 (ch4 x.chs) ac cc :: cel b1 #[.int .i64 x.code, .int .u64 x.a, .int .u64 x.b, .int .i64 x.key, .int .i64 x.val, .int .i64 x.lo, .int .i64 x.hi, .int .i64 x.n, .bool x.flag, .string x.name, .slice ab (List.length (by8 x.bytes)) cb, .slice ae (List.length (en2 x.ents)) ce, .slice ac (List.length (ch4 x.chs)) cc] 27 :: Sh 5 1 (by8 bs) a c :: L) w := hS
        refine WL.r 1 rfl ?_
        refine WL.nil ?_
        refine WC.seq ?_
        refine WC.region ?_
        obtain ⟨i0, hi0, hi1⟩ : ∃ i0 : Nat, k % ((by8 (eOp (tidy x))).length : Int) = i0 ∧ i0 < (eOp (tidy x)).length := ⟨(k % ((by8 (eOp (tidy x))).length : Int)).toNat, by have := Int.emod_nonneg k (show ((by8 (eOp (tidy x))).length : Int) ≠ 0 by omega); omega, by have := Int.emod_lt_of_pos k (show (0 : Int) < ((by8 (eOp (tidy x))).length : Int) by omega); have := Int.emod_nonneg k (show ((by8 (eOp (tidy x))).length : Int) ≠ 0 by omega); omega⟩
        refine WL.reb 14 (.int .i64 (i0 : Int)) (congrArg (Value.int .i64) hi0) ?_
        refine WL.r 2 rfl ?_
        refine WL.slHi rfl rfl (v := (i0 : Int)) 0 (i0) (by8 ((eOp (tidy x)).take i0)) el_23 hS rfl rfl rfl (by omega) (by omega) (by8_take _ _) (fun a2 hS => ?_)
        replace hS : St g (Sh 5 1 (by8 ((eOp (tidy x)).take i0)) a2 c1 :: Sh 5 1 (by8 (eOp (tidy x))) a1 c1 :: Sh 5 1 (by8 (tidy x).bytes) ab1 cb1 :: Sh 40 2 (en2 (tidy x).ents) ae1 ce1 :: Sh 63 4 (ch4 (tidy x).chs) ac1 cc1 :: Sh 5 1 (by8 x.bytes) ab cb :: Sh 40 2 (en2 x.ents) ae ce :: Sh 63 4 (ch4 x.chs) ac cc :: cel b1 #[.int .i64 x.code, .int .u64 x.a, .int .u64 x.b, .int .i64 x.key, .int .i64 x.val, .int .i64 x.lo, .int .i64 x.hi, .int .i64 x.n, .bool x.flag, .string x.name, .slice ab (List.length (by8 x.bytes)) cb, .slice ae (List.length (en2 x.ents)) ce, .slice ac (List.length (ch4 x.chs)) cc] 27 :: Sh 5 1 (by8 bs) a c :: L) w := hS
        refine WL.r 1 rfl ?_
        refine WL.lit rfl rfl (by8 [z]) el_23 hS (by exact ⟨rfl, rfl⟩) (by8_ok _) rfl (by decide) (fun b2 w hS => ?_)
        replace hS := (hS.at_ 0 rfl).share
        replace hS : St g (Sh 5 1 (by8 [z]) (some ⟨b2, 0, none⟩) (List.length (by8 [z])) :: Sh 5 1 (by8 ((eOp (tidy x)).take i0)) a2 c1 :: Sh 5 1 (by8 (eOp (tidy x))) a1 c1 :: Sh 5 1 (by8 (tidy x).bytes) ab1 cb1 :: Sh 40 2 (en2 (tidy x).ents) ae1 ce1 :: Sh 63 4 (ch4 (tidy x).chs) ac1 cc1 :: Sh 5 1 (by8 x.bytes) ab cb :: Sh 40 2 (en2 x.ents) ae ce :: Sh 63 4 (ch4 x.chs) ac cc :: cel b1 #[.int .i64 x.code, .int .u64 x.a, .int .u64 x.b, .int .i64 x.key, .int .i64 x.val, .int .i64 x.lo, .int .i64 x.hi, .int .i64 x.n, .bool x.flag, .string x.name, .slice ab (List.length (by8 x.bytes)) cb, .slice ae (List.length (en2 x.ents)) ce, .slice ac (List.length (ch4 x.chs)) cc] 27 :: Sh 5 1 (by8 bs) a c :: L) w := hS
        refine WL.call rfl rfl (rjoin (xs := (eOp (tidy x)).take i0) (ys := [z]) (a := a2) (b := some ⟨b2, 0, none⟩) (c := c1) (d := List.length (by8 [z])) (hx := (by simp; omega)) (hS := (hS.sel 2 [1, 0] rfl))) rfl ?_
        clear hS; rintro _ w ⟨a3, c2, rfl, hS⟩
        replace hS : St g (Own 5 1 (by8 (((eOp (tidy x)).take i0) ++ [z])) a3 c2 :: Sh 5 1 (by8 ((eOp (tidy x)).take i0)) a2 c1 :: Sh 5 1 (by8 [z]) (some ⟨b2, 0, none⟩) (List.length (by8 [z])) :: Sh 5 1 (by8 (eOp (tidy x))) a1 c1 :: Sh 5 1 (by8 (tidy x).bytes) ab1 cb1 :: Sh 40 2 (en2 (tidy x).ents) ae1 ce1 :: Sh 63 4 (ch4 (tidy x).chs) ac1 cc1 :: Sh 5 1 (by8 x.bytes) ab cb :: Sh 40 2 (en2 x.ents) ae ce :: Sh 63 4 (ch4 x.chs) ac cc :: cel b1 #[.int .i64 x.code, .int .u64 x.a, .int .u64 x.b, .int .i64 x.key, .int .i64 x.val, .int .i64 x.lo, .int .i64 x.hi, .int .i64 x.n, .bool x.flag, .string x.name, .slice ab (List.length (by8 x.bytes)) cb, .slice ae (List.length (en2 x.ents)) ce, .slice ac (List.length (ch4 x.chs)) cc] 27 :: Sh 5 1 (by8 bs) a c :: L) w := hS
        refine WL.r 1 rfl ?_
        refine WL.nil ?_
        as_aux_lemma =>
          refine WC.seq ?_
          refine WC.seq ?_
          refine WC.region ?_
          refine WL.r 2 rfl ?_
          refine WL.reb 51 (.int .u8 (f % 3)) (congrArg (Value.int .u8) (Int.tmod_eq_emod_of_nonneg (a := f) (by omega))) ?_
          refine WL.nil ?_
          refine WC.cut [0, 1, 12, 15] (fun vs w => ∃ (us : List Int) (a3 : Option Addr) (c3 : Nat), vs = [.slice a (List.length (by8 bs)) c, .int .i64 p, .bool false, .slice a3 (List.length (by8 us)) c3] ∧ St g (Own 5 1 (by8 us) a3 c3 :: Sh 5 1 (by8 bs) a c :: L) w ∧ (B8 us) ∧ (us.length ≤ 40002)) ?_ ?_
          · refine WC.block ?_
            refine WC.seq ?_
            refine WC.region ?_
            refine WL.r 2 rfl ?_
            refine WL.nil ?_
            refine WC.ifP rfl (fun cd2 => ?_) (fun cd2 => ?_)
            · refine WC.region ?_
              refine WL.r 4 rfl ?_
              refine WL.nw 62 rfl (w64 (by omega)) ?_
              refine WL.slLo rfl rfl (v := (i0 : Int) + 1) 3 (i0 + 1) (by8 ((eOp (tidy x)).drop (i0 + 1))) el_23 hS rfl rfl rfl (by omega) (by omega) (by8_drop _ _) (fun a4 hS => ?_)
              replace hS : St g (Sh 5 1 (by8 ((eOp (tidy x)).drop (i0 + 1))) a4 (c1 - (i0 + 1)) :: Own 5 1 (by8 (((eOp (tidy x)).take i0) ++ [z])) a3 c2 :: Sh 5 1 (by8 ((eOp (tidy x)).take i0)) a2 c1 :: Sh 5 1 (by8 [z]) (some ⟨b2, 0, none⟩) (List.length (by8 [z])) :: Sh 5 1 (by8 (eOp (tidy x))) a1 c1 :: Sh 5 1 (by8 (tidy x).bytes) ab1 cb1 :: Sh 40 2 (en2 (tidy x).ents) ae1 ce1 :: Sh 63 4 (ch4 (tidy x).chs) ac1 cc1 :: Sh 5 1 (by8 x.bytes) ab cb :: Sh 40 2 (en2 x.ents) ae ce :: Sh 63 4 (ch4 x.chs) ac cc :: cel b1 #[.int .i64 x.code, .int .u64 x.a, .int .u64 x.b, .int .i64 x.key, .int .i64 x.val, .int .i64 x.lo, .int .i64 x.hi, .int .i64 x.n, .bool x.flag, .string x.name, .slice ab (List.length (by8 x.bytes)) cb, .slice ae (List.length (en2 x.ents)) ce, .slice ac (List.length (ch4 x.chs)) cc] 27 :: Sh 5 1 (by8 bs) a c :: L) w := hS
              replace hS := (hS.at_ 1 rfl).share
              replace hS : St g (Sh 5 1 (by8 (((eOp (tidy x)).take i0) ++ [z])) a3 c2 :: Sh 5 1 (by8 ((eOp (tidy x)).drop (i0 + 1))) a4 (c1 - (i0 + 1)) :: Sh 5 1 (by8 ((eOp (tidy x)).take i0)) a2 c1 :: Sh 5 1 (by8 [z]) (some ⟨b2, 0, none⟩) (List.length (by8 [z])) :: Sh 5 1 (by8 (eOp (tidy x))) a1 c1 :: Sh 5 1 (by8 (tidy x).bytes) ab1 cb1 :: Sh 40 2 (en2 (tidy x).ents) ae1 ce1 :: Sh 63 4 (ch4 (tidy x).chs) ac1 cc1 :: Sh 5 1 (by8 x.bytes) ab cb :: Sh 40 2 (en2 x.ents) ae ce :: Sh 63 4 (ch4 x.chs) ac cc :: cel b1 #[.int .i64 x.code, .int .u64 x.a, .int .u64 x.b, .int .i64 x.key, .int .i64 x.val, .int .i64 x.lo, .int .i64 x.hi, .int .i64 x.n, .bool x.flag, .string x.name, .slice ab (List.length (by8 x.bytes)) cb, .slice ae (List.length (en2 x.ents)) ce, .slice ac (List.length (ch4 x.chs)) cc] 27 :: Sh 5 1 (by8 bs) a c :: L) w := hS
              refine WL.call rfl rfl (rjoin (xs := ((eOp (tidy x)).take i0) ++ [z]) (ys := (eOp (tidy x)).drop (i0 + 1)) (a := a3) (b := a4) (c := c2) (d := c1 - (i0 + 1)) (hx := (by simp; omega)) (hS := hS)) rfl ?_
              clear hS; rintro _ w ⟨a5, c3, rfl, hS⟩
              replace hS : St g (Own 5 1 (by8 ((((eOp (tidy x)).take i0) ++ [z]) ++ ((eOp (tidy x)).drop (i0 + 1)))) a5 c3 :: Sh 5 1 (by8 (((eOp (tidy x)).take i0) ++ [z])) a3 c2 :: Sh 5 1 (by8 ((eOp (tidy x)).drop (i0 + 1))) a4 (c1 - (i0 + 1)) :: Sh 5 1 (by8 ((eOp (tidy x)).take i0)) a2 c1 :: Sh 5 1 (by8 [z]) (some ⟨b2, 0, none⟩) (List.length (by8 [z])) :: Sh 5 1 (by8 (eOp (tidy x))) a1 c1 :: Sh 5 1 (by8 (tidy x).bytes) ab1 cb1 :: Sh 40 2 (en2 (tidy x).ents) ae1 ce1 :: Sh 63 4 (ch4 (tidy x).chs) ac1 cc1 :: Sh 5 1 (by8 x.bytes) ab cb :: Sh 40 2 (en2 x.ents) ae ce :: Sh 63 4 (ch4 x.chs) ac cc :: cel b1 #[.int .i64 x.code, .int .u64 x.a, .int .u64 x.b, .int .i64 x.key, .int .i64 x.val, .int .i64 x.lo, .int .i64 x.hi, .int .i64 x.n, .bool x.flag, .string x.name, .slice ab (List.length (by8 x.bytes)) cb, .slice ae (List.length (en2 x.ents)) ce, .slice ac (List.length (ch4 x.chs)) cc] 27 :: Sh 5 1 (by8 bs) a c :: L) w := hS
              refine WL.r 1 rfl ?_
              refine WL.nil ?_
              exact ⟨(((eOp (tidy x)).take i0) ++ [z]) ++ ((eOp (tidy x)).drop (i0 + 1)), _, _, rfl, (hS.sel 13 [0] rfl), (by first | exact ((h8.take.app (B8.one hz)).app h8.drop) | exact (h8.take.app h8.drop)), (by simp; omega)⟩
            · refine WC.seq ?_
              refine WC.region ?_
              refine WL.r 2 rfl ?_
              refine WL.nil ?_
              refine WC.ifP rfl (fun cd3 => ?_) (fun cd3 => ?_)
              · refine WC.plan [([0, 1, 3, 4, 2, 5, 6], some (7, [])), ([8], none)] (by kernel_rfl) (by kernel_rfl) ?_
                refine WQ.r 4 rfl ?_
                refine WQ.slHi rfl rfl (v := (i0 : Int)) 3 (i0) (by8 ((eOp (tidy x)).take i0)) el_23 hS rfl rfl rfl (by omega) (by omega) (by8_take _ _) (fun a4 hS => ?_)
                replace hS : St g (Sh 5 1 (by8 ((eOp (tidy x)).take i0)) a4 c1 :: Own 5 1 (by8 (((eOp (tidy x)).take i0) ++ [z])) a3 c2 :: Sh 5 1 (by8 ((eOp (tidy x)).take i0)) a2 c1 :: Sh 5 1 (by8 [z]) (some ⟨b2, 0, none⟩) (List.length (by8 [z])) :: Sh 5 1 (by8 (eOp (tidy x))) a1 c1 :: Sh 5 1 (by8 (tidy x).bytes) ab1 cb1 :: Sh 40 2 (en2 (tidy x).ents) ae1 ce1 :: Sh 63 4 (ch4 (tidy x).chs) ac1 cc1 :: Sh 5 1 (by8 x.bytes) ab cb :: Sh 40 2 (en2 x.ents) ae ce :: Sh 63 4 (ch4 x.chs) ac cc :: cel b1 #[.int .i64 x.code, .int .u64 x.a, .int .u64 x.b, .int .i64 x.key, .int .i64 x.val, .int .i64 x.lo, .int .i64 x.hi, .int .i64 x.n, .bool x.flag, .string x.name, .slice ab (List.length (by8 x.bytes)) cb, .slice ae (List.length (en2 x.ents)) ce, .slice ac (List.length (ch4 x.chs)) cc] 27 :: Sh 5 1 (by8 bs) a c :: L) w := hS
                refine WQ.r 1 rfl ?_
                refine WQ.nw 72 rfl (w64 (by omega)) ?_
                refine WQ.slLo rfl rfl (v := (i0 : Int) + 1) 4 (i0 + 1) (by8 ((eOp (tidy x)).drop (i0 + 1))) el_23 hS rfl rfl rfl (by omega) (by omega) (by8_drop _ _) (fun a5 hS => ?_)
                replace hS : St g (Sh 5 1 (by8 ((eOp (tidy x)).drop (i0 + 1))) a5 (c1 - (i0 + 1)) :: Sh 5 1 (by8 ((eOp (tidy x)).take i0)) a4 c1 :: Own 5 1 (by8 (((eOp (tidy x)).take i0) ++ [z])) a3 c2 :: Sh 5 1 (by8 ((eOp (tidy x)).take i0)) a2 c1 :: Sh 5 1 (by8 [z]) (some ⟨b2, 0, none⟩) (List.length (by8 [z])) :: Sh 5 1 (by8 (eOp (tidy x))) a1 c1 :: Sh 5 1 (by8 (tidy x).bytes) ab1 cb1 :: Sh 40 2 (en2 (tidy x).ents) ae1 ce1 :: Sh 63 4 (ch4 (tidy x).chs) ac1 cc1 :: Sh 5 1 (by8 x.bytes) ab cb :: Sh 40 2 (en2 x.ents) ae ce :: Sh 63 4 (ch4 x.chs) ac cc :: cel b1 #[.int .i64 x.code, .int .u64 x.a, .int .u64 x.b, .int .i64 x.key, .int .i64 x.val, .int .i64 x.lo, .int .i64 x.hi, .int .i64 x.n, .bool x.flag, .string x.name, .slice ab (List.length (by8 x.bytes)) cb, .slice ae (List.length (en2 x.ents)) ce, .slice ac (List.length (ch4 x.chs)) cc] 27 :: Sh 5 1 (by8 bs) a c :: L) w := hS
                refine WQ.nil ?_
                intro m1
                replace hS := hS.drewN m1; generalize hwm1 : World.drewN _ _ = w at *; clear hwm1
                refine WL.call rfl rfl (rjoin (xs := (eOp (tidy x)).take i0) (ys := (eOp (tidy x)).drop (i0 + 1)) (a := a4) (b := a5) (c := c1) (d := c1 - (i0 + 1)) (hx := (by simp; omega)) (hS := (hS.sel 2 [1, 0] rfl))) rfl ?_
                clear hS; rintro _ w ⟨a6, c3, rfl, hS⟩
                replace hS : St g (Own 5 1 (by8 (((eOp (tidy x)).take i0) ++ ((eOp (tidy x)).drop (i0 + 1)))) a6 c3 :: Sh 5 1 (by8 ((eOp (tidy x)).take i0)) a4 c1 :: Sh 5 1 (by8 ((eOp (tidy x)).drop (i0 + 1))) a5 (c1 - (i0 + 1)) :: Own 5 1 (by8 (((eOp (tidy x)).take i0) ++ [z])) a3 c2 :: Sh 5 1 (by8 ((eOp (tidy x)).take i0)) a2 c1 :: Sh 5 1 (by8 [z]) (some ⟨b2, 0, none⟩) (List.length (by8 [z])) :: Sh 5 1 (by8 (eOp (tidy x))) a1 c1 :: Sh 5 1 (by8 (tidy x).bytes) ab1 cb1 :: Sh 40 2 (en2 (tidy x).ents) ae1 ce1 :: Sh 63 4 (ch4 (tidy x).chs) ac1 cc1 :: Sh 5 1 (by8 x.bytes) ab cb :: Sh 40 2 (en2 x.ents) ae ce :: Sh 63 4 (ch4 x.chs) ac cc :: cel b1 #[.int .i64 x.code, .int .u64 x.a, .int .u64 x.b, .int .i64 x.key, .int .i64 x.val, .int .i64 x.lo, .int .i64 x.hi, .int .i64 x.n, .bool x.flag, .string x.name, .slice ab (List.length (by8 x.bytes)) cb, .slice ae (List.length (en2 x.ents)) ce, .slice ac (List.length (ch4 x.chs)) cc] 27 :: Sh 5 1 (by8 bs) a c :: L) w := hS
                refine WL.nil ?_
                refine ⟨by exact trivial, ?_⟩
                refine WQ.r 1 rfl ?_
                refine WQ.nil ?_
                intro m2
                replace hS := hS.drewN m2; generalize hwm2 : World.drewN _ _ = w at *; clear hwm2
                exact ⟨((eOp (tidy x)).take i0) ++ ((eOp (tidy x)).drop (i0 + 1)), _, _, rfl, (hS.sel 14 [0] rfl), (by first | exact ((h8.take.app (B8.one hz)).app h8.drop) | exact (h8.take.app h8.drop)), (by simp; omega)⟩
              · refine WC.region ?_
                refine WL.r 3 rfl ?_
                refine WL.slLo rfl rfl (v := (i0 : Int)) 3 (i0) (by8 ((eOp (tidy x)).drop i0)) el_23 hS rfl rfl rfl (by omega) (by omega) (by8_drop _ _) (fun a4 hS => ?_)
                replace hS : St g (Sh 5 1 (by8 ((eOp (tidy x)).drop i0)) a4 (c1 - i0) :: Own 5 1 (by8 (((eOp (tidy x)).take i0) ++ [z])) a3 c2 :: Sh 5 1 (by8 ((eOp (tidy x)).take i0)) a2 c1 :: Sh 5 1 (by8 [z]) (some ⟨b2, 0, none⟩) (List.length (by8 [z])) :: Sh 5 1 (by8 (eOp (tidy x))) a1 c1 :: Sh 5 1 (by8 (tidy x).bytes) ab1 cb1 :: Sh 40 2 (en2 (tidy x).ents) ae1 ce1 :: Sh 63 4 (ch4 (tidy x).chs) ac1 cc1 :: Sh 5 1 (by8 x.bytes) ab cb :: Sh 40 2 (en2 x.ents) ae ce :: Sh 63 4 (ch4 x.chs) ac cc :: cel b1 #[.int .i64 x.code, .int .u64 x.a, .int .u64 x.b, .int .i64 x.key, .int .i64 x.val, .int .i64 x.lo, .int .i64 x.hi, .int .i64 x.n, .bool x.flag, .string x.name, .slice ab (List.length (by8 x.bytes)) cb, .slice ae (List.length (en2 x.ents)) ce, .slice ac (List.length (ch4 x.chs)) cc] 27 :: Sh 5 1 (by8 bs) a c :: L) w := hS
                replace hS := (hS.at_ 1 rfl).share
                replace hS : St g (Sh 5 1 (by8 (((eOp (tidy x)).take i0) ++ [z])) a3 c2 :: Sh 5 1 (by8 ((eOp (tidy x)).drop i0)) a4 (c1 - i0) :: Sh 5 1 (by8 ((eOp (tidy x)).take i0)) a2 c1 :: Sh 5 1 (by8 [z]) (some ⟨b2, 0, none⟩) (List.length (by8 [z])) :: Sh 5 1 (by8 (eOp (tidy x))) a1 c1 :: Sh 5 1 (by8 (tidy x).bytes) ab1 cb1 :: Sh 40 2 (en2 (tidy x).ents) ae1 ce1 :: Sh 63 4 (ch4 (tidy x).chs) ac1 cc1 :: Sh 5 1 (by8 x.bytes) ab cb :: Sh 40 2 (en2 x.ents) ae ce :: Sh 63 4 (ch4 x.chs) ac cc :: cel b1 #[.int .i64 x.code, .int .u64 x.a, .int .u64 x.b, .int .i64 x.key, .int .i64 x.val, .int .i64 x.lo, .int .i64 x.hi, .int .i64 x.n, .bool x.flag, .string x.name, .slice ab (List.length (by8 x.bytes)) cb, .slice ae (List.length (en2 x.ents)) ce, .slice ac (List.length (ch4 x.chs)) cc] 27 :: Sh 5 1 (by8 bs) a c :: L) w := hS
                refine WL.call rfl rfl (rjoin (xs := ((eOp (tidy x)).take i0) ++ [z]) (ys := (eOp (tidy x)).drop i0) (a := a3) (b := a4) (c := c2) (d := c1 - i0) (hx := (by simp; omega)) (hS := hS)) rfl ?_
                clear hS; rintro _ w ⟨a5, c3, rfl, hS⟩
                replace hS : St g (Own 5 1 (by8 ((((eOp (tidy x)).take i0) ++ [z]) ++ ((eOp (tidy x)).drop i0))) a5 c3 :: Sh 5 1 (by8 (((eOp (tidy x)).take i0) ++ [z])) a3 c2 :: Sh 5 1 (by8 ((eOp (tidy x)).drop i0)) a4 (c1 - i0) :: Sh 5 1 (by8 ((eOp (tidy x)).take i0)) a2 c1 :: Sh 5 1 (by8 [z]) (some ⟨b2, 0, none⟩) (List.length (by8 [z])) :: Sh 5 1 (by8 (eOp (tidy x))) a1 c1 :: Sh 5 1 (by8 (tidy x).bytes) ab1 cb1 :: Sh 40 2 (en2 (tidy x).ents) ae1 ce1 :: Sh 63 4 (ch4 (tidy x).chs) ac1 cc1 :: Sh 5 1 (by8 x.bytes) ab cb :: Sh 40 2 (en2 x.ents) ae ce :: Sh 63 4 (ch4 x.chs) ac cc :: cel b1 #[.int .i64 x.code, .int .u64 x.a, .int .u64 x.b, .int .i64 x.key, .int .i64 x.val, .int .i64 x.lo, .int .i64 x.hi, .int .i64 x.n, .bool x.flag, .string x.name, .slice ab (List.length (by8 x.bytes)) cb, .slice ae (List.length (en2 x.ents)) ce, .slice ac (List.length (ch4 x.chs)) cc] 27 :: Sh 5 1 (by8 bs) a c :: L) w := hS
                refine WL.r 1 rfl ?_
                refine WL.nil ?_
                exact ⟨(((eOp (tidy x)).take i0) ++ [z]) ++ ((eOp (tidy x)).drop i0), _, _, rfl, (hS.sel 13 [0] rfl), (by first | exact ((h8.take.app (B8.one hz)).app h8.drop) | exact (h8.take.app h8.drop)), (by simp; omega)⟩
          clear hS; rintro _ w j ⟨us, a3, c3, rfl, hS, hu8, hul⟩
          refine WC.seq ?_
          refine WC.region ?_
          refine WL.r 2 rfl ?_
          refine WL.call rfl rfl (next_spec (a := a) (c := c) (bs := bs) (p := p) (hl := (by omega)) (hb := hb) (hS := (hS.sel 2 [1, 0] rfl))) rfl ?_
          generalize hN1 : rNx bs p = N1
          clear hS; rintro _ w ⟨ab2, ae2, ac2, cb2, ce2, cc2, rfl, hS⟩
          replace hS : St g (Sh 5 1 (by8 bs) a c :: Own 5 1 (by8 N1.1.bytes) ab2 cb2 :: Own 40 2 (en2 N1.1.ents) ae2 ce2 :: Own 63 4 (ch4 N1.1.chs) ac2 cc2 :: Own 5 1 (by8 us) a3 c3 :: L) w := hS
          refine WL.r 4 rfl ?_
          refine WL.new rfl rfl zv_27 hS (fun b3 w hS => ?_)
          refine WL.stF rfl rfl rfl 0 hS rfl rfl rfl rfl rfl ag_27 (fun w hS => ?_)
          replace hS : St g (cel b3 #[.int .i64 N1.1.code, .int .u64 N1.1.a, .int .u64 N1.1.b, .int .i64 N1.1.key, .int .i64 N1.1.val, .int .i64 N1.1.lo, .int .i64 N1.1.hi, .int .i64 N1.1.n, .bool N1.1.flag, .string N1.1.name, .slice ab2 (List.length (by8 N1.1.bytes)) cb2, .slice ae2 (List.length (en2 N1.1.ents)) ce2, .slice ac2 (List.length (ch4 N1.1.chs)) cc2] 27 :: Sh 5 1 (by8 bs) a c :: Own 5 1 (by8 N1.1.bytes) ab2 cb2 :: Own 40 2 (en2 N1.1.ents) ae2 ce2 :: Own 63 4 (ch4 N1.1.chs) ac2 cc2 :: Own 5 1 (by8 us) a3 c3 :: L) w := hS
          refine WL.r 2 rfl ?_
          refine WL.nil ?_
          refine WC.seq ?_
          refine WC.region ?_
          refine WL.r 2 rfl ?_
          refine WL.call rfl rfl (qnext_spec (a := a) (c := c) (bs := bs) (p := p) (hl := (by omega)) (hb := hb) (hS := (hS.sel 2 [1, 0] rfl))) rfl ?_
          generalize hN2 : qNx bs p = N2
          clear hS; rintro _ w ⟨ab3, ae3, ac3, cb3, ce3, cc3, rfl, hS⟩
          replace hS : St g (Sh 5 1 (by8 bs) a c :: Own 5 1 (by8 N2.1.bytes) ab3 cb3 :: Own 40 2 (en2 N2.1.ents) ae3 ce3 :: Own 63 4 (ch4 N2.1.chs) ac3 cc3 :: cel b3 #[.int .i64 N1.1.code, .int .u64 N1.1.a, .int .u64 N1.1.b, .int .i64 N1.1.key, .int .i64 N1.1.val, .int .i64 N1.1.lo, .int .i64 N1.1.hi, .int .i64 N1.1.n, .bool N1.1.flag, .string N1.1.name, .slice ab2 (List.length (by8 N1.1.bytes)) cb2, .slice ae2 (List.length (en2 N1.1.ents)) ce2, .slice ac2 (List.length (ch4 N1.1.chs)) cc2] 27 :: Own 5 1 (by8 N1.1.bytes) ab2 cb2 :: Own 40 2 (en2 N1.1.ents) ae2 ce2 :: Own 63 4 (ch4 N1.1.chs) ac2 cc2 :: Own 5 1 (by8 us) a3 c3 :: L) w := hS
          refine WL.r 4 rfl ?_
          refine WL.new rfl rfl zv_27 hS (fun b4 w hS => ?_)
          refine WL.stF rfl rfl rfl 0 hS rfl rfl rfl rfl rfl ag_27 (fun w hS => ?_)
          replace hS : St g (cel b4 #[.int .i64 N2.1.code, .int .u64 N2.1.a, .int .u64 N2.1.b, .int .i64 N2.1.key, .int .i64 N2.1.val, .int .i64 N2.1.lo, .int .i64 N2.1.hi, .int .i64 N2.1.n, .bool N2.1.flag, .string N2.1.name, .slice ab3 (List.length (by8 N2.1.bytes)) cb3, .slice ae3 (List.length (en2 N2.1.ents)) ce3, .slice ac3 (List.length (ch4 N2.1.chs)) cc3] 27 :: Sh 5 1 (by8 bs) a c :: Own 5 1 (by8 N2.1.bytes) ab3 cb3 :: Own 40 2 (en2 N2.1.ents) ae3 ce3 :: Own 63 4 (ch4 N2.1.chs) ac3 cc3 :: cel b3 #[.int .i64 N1.1.code, .int .u64 N1.1.a, .int .u64 N1.1.b, .int .i64 N1.1.key, .int .i64 N1.1.val, .int .i64 N1.1.lo, .int .i64 N1.1.hi, .int .i64 N1.1.n, .bool N1.1.flag, .string N1.1.name, .slice ab2 (List.length (by8 N1.1.bytes)) cb2, .slice ae2 (List.length (en2 N1.1.ents)) ce2, .slice ac2 (List.length (ch4 N1.1.chs)) cc2] 27 :: Own 5 1 (by8 N1.1.bytes) ab2 cb2 :: Own 40 2 (en2 N1.1.ents) ae2 ce2 :: Own 63 4 (ch4 N1.1.chs) ac2 cc2 :: Own 5 1 (by8 us) a3 c3 :: L) w := hS
          refine WL.r 2 rfl ?_
          refine WL.nil ?_
          as_aux_lemma =>
            refine WC.seq ?_
            refine WC.region ?_
            refine WL.r 1 rfl ?_
            replace hS := (hS.at_ 9 rfl).share
            replace hS : St g (Sh 5 1 (by8 us) a3 c3 :: cel b4 #[.int .i64 N2.1.code, .int .u64 N2.1.a, .int .u64 N2.1.b, .int .i64 N2.1.key, .int .i64 N2.1.val, .int .i64 N2.1.lo, .int .i64 N2.1.hi, .int .i64 N2.1.n, .bool N2.1.flag, .string N2.1.name, .slice ab3 (List.length (by8 N2.1.bytes)) cb3, .slice ae3 (List.length (en2 N2.1.ents)) ce3, .slice ac3 (List.length (ch4 N2.1.chs)) cc3] 27 :: Sh 5 1 (by8 bs) a c :: Own 5 1 (by8 N2.1.bytes) ab3 cb3 :: Own 40 2 (en2 N2.1.ents) ae3 ce3 :: Own 63 4 (ch4 N2.1.chs) ac3 cc3 :: cel b3 #[.int .i64 N1.1.code, .int .u64 N1.1.a, .int .u64 N1.1.b, .int .i64 N1.1.key, .int .i64 N1.1.val, .int .i64 N1.1.lo, .int .i64 N1.1.hi, .int .i64 N1.1.n, .bool N1.1.flag, .string N1.1.name, .slice ab2 (List.length (by8 N1.1.bytes)) cb2, .slice ae2 (List.length (en2 N1.1.ents)) ce2, .slice ac2 (List.length (ch4 N1.1.chs)) cc2] 27 :: Own 5 1 (by8 N1.1.bytes) ab2 cb2 :: Own 40 2 (en2 N1.1.ents) ae2 ce2 :: Own 63 4 (ch4 N1.1.chs) ac2 cc2 :: L) w := hS
            refine WL.call rfl rfl (next_spec (a := a3) (c := c3) (bs := us) (p := 0) (hl := (by omega)) (hb := hu8) (hS := hS)) rfl ?_
            generalize hN3 : rNx us 0 = N3
            clear hS; rintro _ w ⟨ab4, ae4, ac4, cb4, ce4, cc4, rfl, hS⟩
            replace hS : St g (Sh 5 1 (by8 us) a3 c3 :: Own 5 1 (by8 N3.1.bytes) ab4 cb4 :: Own 40 2 (en2 N3.1.ents) ae4 ce4 :: Own 63 4 (ch4 N3.1.chs) ac4 cc4 :: cel b4 #[.int .i64 N2.1.code, .int .u64 N2.1.a, .int .u64 N2.1.b, .int .i64 N2.1.key, .int .i64 N2.1.val, .int .i64 N2.1.lo, .int .i64 N2.1.hi, .int .i64 N2.1.n, .bool N2.1.flag, .string N2.1.name, .slice ab3 (List.length (by8 N2.1.bytes)) cb3, .slice ae3 (List.length (en2 N2.1.ents)) ce3, .slice ac3 (List.length (ch4 N2.1.chs)) cc3] 27 :: Sh 5 1 (by8 bs) a c :: Own 5 1 (by8 N2.1.bytes) ab3 cb3 :: Own 40 2 (en2 N2.1.ents) ae3 ce3 :: Own 63 4 (ch4 N2.1.chs) ac3 cc3 :: cel b3 #[.int .i64 N1.1.code, .int .u64 N1.1.a, .int .u64 N1.1.b, .int .i64 N1.1.key, .int .i64 N1.1.val, .int .i64 N1.1.lo, .int .i64 N1.1.hi, .int .i64 N1.1.n, .bool N1.1.flag, .string N1.1.name, .slice ab2 (List.length (by8 N1.1.bytes)) cb2, .slice ae2 (List.length (en2 N1.1.ents)) ce2, .slice ac2 (List.length (ch4 N1.1.chs)) cc2] 27 :: Own 5 1 (by8 N1.1.bytes) ab2 cb2 :: Own 40 2 (en2 N1.1.ents) ae2 ce2 :: Own 63 4 (ch4 N1.1.chs) ac2 cc2 :: L) w := hS
            refine WL.r 4 rfl ?_
            refine WL.new rfl rfl zv_27 hS (fun b5 w hS => ?_)
            refine WL.stF rfl rfl rfl 0 hS rfl rfl rfl rfl rfl ag_27 (fun w hS => ?_)
            replace hS : St g (cel b5 #[.int .i64 N3.1.code, .int .u64 N3.1.a, .int .u64 N3.1.b, .int .i64 N3.1.key, .int .i64 N3.1.val, .int .i64 N3.1.lo, .int .i64 N3.1.hi, .int .i64 N3.1.n, .bool N3.1.flag, .string N3.1.name, .slice ab4 (List.length (by8 N3.1.bytes)) cb4, .slice ae4 (List.length (en2 N3.1.ents)) ce4, .slice ac4 (List.length (ch4 N3.1.chs)) cc4] 27 :: Sh 5 1 (by8 us) a3 c3 :: Own 5 1 (by8 N3.1.bytes) ab4 cb4 :: Own 40 2 (en2 N3.1.ents) ae4 ce4 :: Own 63 4 (ch4 N3.1.chs) ac4 cc4 :: cel b4 #[.int .i64 N2.1.code, .int .u64 N2.1.a, .int .u64 N2.1.b, .int .i64 N2.1.key, .int .i64 N2.1.val, .int .i64 N2.1.lo, .int .i64 N2.1.hi, .int .i64 N2.1.n, .bool N2.1.flag, .string N2.1.name, .slice ab3 (List.length (by8 N2.1.bytes)) cb3, .slice ae3 (List.length (en2 N2.1.ents)) ce3, .slice ac3 (List.length (ch4 N2.1.chs)) cc3] 27 :: Sh 5 1 (by8 bs) a c :: Own 5 1 (by8 N2.1.bytes) ab3 cb3 :: Own 40 2 (en2 N2.1.ents) ae3 ce3 :: Own 63 4 (ch4 N2.1.chs) ac3 cc3 :: cel b3 #[.int .i64 N1.1.code, .int .u64 N1.1.a, .int .u64 N1.1.b, .int .i64 N1.1.key, .int .i64 N1.1.val, .int .i64 N1.1.lo, .int .i64 N1.1.hi, .int .i64 N1.1.n, .bool N1.1.flag, .string N1.1.name, .slice ab2 (List.length (by8 N1.1.bytes)) cb2, .slice ae2 (List.length (en2 N1.1.ents)) ce2, .slice ac2 (List.length (ch4 N1.1.chs)) cc2] 27 :: Own 5 1 (by8 N1.1.bytes) ab2 cb2 :: Own 40 2 (en2 N1.1.ents) ae2 ce2 :: Own 63 4 (ch4 N1.1.chs) ac2 cc2 :: L) w := hS
            refine WL.r 2 rfl ?_
            refine WL.nil ?_
            refine WC.seq ?_
            refine WC.region ?_
            refine WL.r 1 rfl ?_
            refine WL.call rfl rfl (qnext_spec (a := a3) (c := c3) (bs := us) (p := 0) (hl := (by omega)) (hb := hu8) (hS := (hS.sel 2 [1, 0] rfl))) rfl ?_
            generalize hN4 : qNx us 0 = N4
            clear hS; rintro _ w ⟨ab5, ae5, ac5, cb5, ce5, cc5, rfl, hS⟩
            replace hS : St g (Sh 5 1 (by8 us) a3 c3 :: Own 5 1 (by8 N4.1.bytes) ab5 cb5 :: Own 40 2 (en2 N4.1.ents) ae5 ce5 :: Own 63 4 (ch4 N4.1.chs) ac5 cc5 :: cel b5 #[.int .i64 N3.1.code, .int .u64 N3.1.a, .int .u64 N3.1.b, .int .i64 N3.1.key, .int .i64 N3.1.val, .int .i64 N3.1.lo, .int .i64 N3.1.hi, .int .i64 N3.1.n, .bool N3.1.flag, .string N3.1.name, .slice ab4 (List.length (by8 N3.1.bytes)) cb4, .slice ae4 (List.length (en2 N3.1.ents)) ce4, .slice ac4 (List.length (ch4 N3.1.chs)) cc4] 27 :: Own 5 1 (by8 N3.1.bytes) ab4 cb4 :: Own 40 2 (en2 N3.1.ents) ae4 ce4 :: Own 63 4 (ch4 N3.1.chs) ac4 cc4 :: cel b4 #[.int .i64 N2.1.code, .int .u64 N2.1.a, .int .u64 N2.1.b, .int .i64 N2.1.key, .int .i64 N2.1.val, .int .i64 N2.1.lo, .int .i64 N2.1.hi, .int .i64 N2.1.n, .bool N2.1.flag, .string N2.1.name, .slice ab3 (List.length (by8 N2.1.bytes)) cb3, .slice ae3 (List.length (en2 N2.1.ents)) ce3, .slice ac3 (List.length (ch4 N2.1.chs)) cc3] 27 :: Sh 5 1 (by8 bs) a c :: Own 5 1 (by8 N2.1.bytes) ab3 cb3 :: Own 40 2 (en2 N2.1.ents) ae3 ce3 :: Own 63 4 (ch4 N2.1.chs) ac3 cc3 :: cel b3 #[.int .i64 N1.1.code, .int .u64 N1.1.a, .int .u64 N1.1.b, .int .i64 N1.1.key, .int .i64 N1.1.val, .int .i64 N1.1.lo, .int .i64 N1.1.hi, .int .i64 N1.1.n, .bool N1.1.flag, .string N1.1.name, .slice ab2 (List.length (by8 N1.1.bytes)) cb2, .slice ae2 (List.length (en2 N1.1.ents)) ce2, .slice ac2 (List.length (ch4 N1.1.chs)) cc2] 27 :: Own 5 1 (by8 N1.1.bytes) ab2 cb2 :: Own 40 2 (en2 N1.1.ents) ae2 ce2 :: Own 63 4 (ch4 N1.1.chs) ac2 cc2 :: L) w := hS
            refine WL.r 4 rfl ?_
            refine WL.new rfl rfl zv_27 hS (fun b6 w hS => ?_)
            refine WL.stF rfl rfl rfl 0 hS rfl rfl rfl rfl rfl ag_27 (fun w hS => ?_)
            replace hS : St g (cel b6 #[.int .i64 N4.1.code, .int .u64 N4.1.a, .int .u64 N4.1.b, .int .i64 N4.1.key, .int .i64 N4.1.val, .int .i64 N4.1.lo, .int .i64 N4.1.hi, .int .i64 N4.1.n, .bool N4.1.flag, .string N4.1.name, .slice ab5 (List.length (by8 N4.1.bytes)) cb5, .slice ae5 (List.length (en2 N4.1.ents)) ce5, .slice ac5 (List.length (ch4 N4.1.chs)) cc5] 27 :: Sh 5 1 (by8 us) a3 c3 :: Own 5 1 (by8 N4.1.bytes) ab5 cb5 :: Own 40 2 (en2 N4.1.ents) ae5 ce5 :: Own 63 4 (ch4 N4.1.chs) ac5 cc5 :: cel b5 #[.int .i64 N3.1.code, .int .u64 N3.1.a, .int .u64 N3.1.b, .int .i64 N3.1.key, .int .i64 N3.1.val, .int .i64 N3.1.lo, .int .i64 N3.1.hi, .int .i64 N3.1.n, .bool N3.1.flag, .string N3.1.name, .slice ab4 (List.length (by8 N3.1.bytes)) cb4, .slice ae4 (List.length (en2 N3.1.ents)) ce4, .slice ac4 (List.length (ch4 N3.1.chs)) cc4] 27 :: Own 5 1 (by8 N3.1.bytes) ab4 cb4 :: Own 40 2 (en2 N3.1.ents) ae4 ce4 :: Own 63 4 (ch4 N3.1.chs) ac4 cc4 :: cel b4 #[.int .i64 N2.1.code, .int .u64 N2.1.a, .int .u64 N2.1.b, .int .i64 N2.1.key, .int .i64 N2.1.val, .int .i64 N2.1.lo, .int .i64 N2.1.hi, .int .i64 N2.1.n, .bool N2.1.flag, .string N2.1.name, .slice ab3 (List.length (by8 N2.1.bytes)) cb3, .slice ae3 (List.length (en2 N2.1.ents)) ce3, .slice ac3 (List.length (ch4 N2.1.chs)) cc3] 27 :: Sh 5 1 (by8 bs) a c :: Own 5 1 (by8 N2.1.bytes) ab3 cb3 :: Own 40 2 (en2 N2.1.ents) ae3 ce3 :: Own 63 4 (ch4 N2.1.chs) ac3 cc3 :: cel b3 #[.int .i64 N1.1.code, .int .u64 N1.1.a, .int .u64 N1.1.b, .int .i64 N1.1.key, .int .i64 N1.1.val, .int .i64 N1.1.lo, .int .i64 N1.1.hi, .int .i64 N1.1.n, .bool N1.1.flag, .string N1.1.name, .slice ab2 (List.length (by8 N1.1.bytes)) cb2, .slice ae2 (List.length (en2 N1.1.ents)) ce2, .slice ac2 (List.length (ch4 N1.1.chs)) cc2] 27 :: Own 5 1 (by8 N1.1.bytes) ab2 cb2 :: Own 40 2 (en2 N1.1.ents) ae2 ce2 :: Own 63 4 (ch4 N1.1.chs) ac2 cc2 :: L) w := hS
            refine WL.r 2 rfl ?_
            refine WL.nil ?_
            as_aux_lemma =>
              refine WC.seq ?_
              refine WC.region ?_
              have hN : N1 = N2 := by rw [← hN1, ← hN2]; exact nx_eq hb p
              have hM : N3 = N4 := by rw [← hN3, ← hN4]; exact nx_eq hu8 0
              have hR1 : OpR N1.1 := hN1 ▸ rNx_R hb p; have hR3 : OpR N3.1 := hN3 ▸ rNx_R hu8 0
              have hR2 : OpR N2.1 := hN ▸ hR1; have hR4 : OpR N4.1 := hM ▸ hR3
              have hl1 := hR1.l.ents; have hl2 := hR1.l.chs; have hl3 := hR3.l.ents; have hl4 := hR3.l.chs
              refine WL.call rfl rfl (awake_spec   (hS := hS)) rfl ?_
              clear hS; rintro _ w ⟨rfl, hS⟩
              replace hS : St g (cel b6 #[.int .i64 N4.1.code, .int .u64 N4.1.a, .int .u64 N4.1.b, .int .i64 N4.1.key, .int .i64 N4.1.val, .int .i64 N4.1.lo, .int .i64 N4.1.hi, .int .i64 N4.1.n, .bool N4.1.flag, .string N4.1.name, .slice ab5 (List.length (by8 N4.1.bytes)) cb5, .slice ae5 (List.length (en2 N4.1.ents)) ce5, .slice ac5 (List.length (ch4 N4.1.chs)) cc5] 27 :: Sh 5 1 (by8 us) a3 c3 :: Own 5 1 (by8 N4.1.bytes) ab5 cb5 :: Own 40 2 (en2 N4.1.ents) ae5 ce5 :: Own 63 4 (ch4 N4.1.chs) ac5 cc5 :: cel b5 #[.int .i64 N3.1.code, .int .u64 N3.1.a, .int .u64 N3.1.b, .int .i64 N3.1.key, .int .i64 N3.1.val, .int .i64 N3.1.lo, .int .i64 N3.1.hi, .int .i64 N3.1.n, .bool N3.1.flag, .string N3.1.name, .slice ab4 (List.length (by8 N3.1.bytes)) cb4, .slice ae4 (List.length (en2 N3.1.ents)) ce4, .slice ac4 (List.length (ch4 N3.1.chs)) cc4] 27 :: Own 5 1 (by8 N3.1.bytes) ab4 cb4 :: Own 40 2 (en2 N3.1.ents) ae4 ce4 :: Own 63 4 (ch4 N3.1.chs) ac4 cc4 :: cel b4 #[.int .i64 N2.1.code, .int .u64 N2.1.a, .int .u64 N2.1.b, .int .i64 N2.1.key, .int .i64 N2.1.val, .int .i64 N2.1.lo, .int .i64 N2.1.hi, .int .i64 N2.1.n, .bool N2.1.flag, .string N2.1.name, .slice ab3 (List.length (by8 N2.1.bytes)) cb3, .slice ae3 (List.length (en2 N2.1.ents)) ce3, .slice ac3 (List.length (ch4 N2.1.chs)) cc3] 27 :: Sh 5 1 (by8 bs) a c :: Own 5 1 (by8 N2.1.bytes) ab3 cb3 :: Own 40 2 (en2 N2.1.ents) ae3 ce3 :: Own 63 4 (ch4 N2.1.chs) ac3 cc3 :: cel b3 #[.int .i64 N1.1.code, .int .u64 N1.1.a, .int .u64 N1.1.b, .int .i64 N1.1.key, .int .i64 N1.1.val, .int .i64 N1.1.lo, .int .i64 N1.1.hi, .int .i64 N1.1.n, .bool N1.1.flag, .string N1.1.name, .slice ab2 (List.length (by8 N1.1.bytes)) cb2, .slice ae2 (List.length (en2 N1.1.ents)) ce2, .slice ac2 (List.length (ch4 N1.1.chs)) cc2] 27 :: Own 5 1 (by8 N1.1.bytes) ab2 cb2 :: Own 40 2 (en2 N1.1.ents) ae2 ce2 :: Own 63 4 (ch4 N1.1.chs) ac2 cc2 :: L) w := hS
              refine WL.r 1 rfl ?_
              refine WL.ung rfl rfl rfl ?_
              refine WL.ldF rfl rfl 14 hS rfl rfl ag_27 ?_
              refine WL.ung rfl rfl rfl ?_
              refine WL.ldF rfl rfl 9 hS rfl rfl ag_27 ?_
              refine WL.ung rfl rfl rfl ?_
              replace hS := (hS.at_ 15 rfl).share
              replace hS : St g (Sh 5 1 (by8 N1.1.bytes) ab2 cb2 :: cel b6 #[.int .i64 N4.1.code, .int .u64 N4.1.a, .int .u64 N4.1.b, .int .i64 N4.1.key, .int .i64 N4.1.val, .int .i64 N4.1.lo, .int .i64 N4.1.hi, .int .i64 N4.1.n, .bool N4.1.flag, .string N4.1.name, .slice ab5 (List.length (by8 N4.1.bytes)) cb5, .slice ae5 (List.length (en2 N4.1.ents)) ce5, .slice ac5 (List.length (ch4 N4.1.chs)) cc5] 27 :: Sh 5 1 (by8 us) a3 c3 :: Own 5 1 (by8 N4.1.bytes) ab5 cb5 :: Own 40 2 (en2 N4.1.ents) ae5 ce5 :: Own 63 4 (ch4 N4.1.chs) ac5 cc5 :: cel b5 #[.int .i64 N3.1.code, .int .u64 N3.1.a, .int .u64 N3.1.b, .int .i64 N3.1.key, .int .i64 N3.1.val, .int .i64 N3.1.lo, .int .i64 N3.1.hi, .int .i64 N3.1.n, .bool N3.1.flag, .string N3.1.name, .slice ab4 (List.length (by8 N3.1.bytes)) cb4, .slice ae4 (List.length (en2 N3.1.ents)) ce4, .slice ac4 (List.length (ch4 N3.1.chs)) cc4] 27 :: Own 5 1 (by8 N3.1.bytes) ab4 cb4 :: Own 40 2 (en2 N3.1.ents) ae4 ce4 :: Own 63 4 (ch4 N3.1.chs) ac4 cc4 :: cel b4 #[.int .i64 N2.1.code, .int .u64 N2.1.a, .int .u64 N2.1.b, .int .i64 N2.1.key, .int .i64 N2.1.val, .int .i64 N2.1.lo, .int .i64 N2.1.hi, .int .i64 N2.1.n, .bool N2.1.flag, .string N2.1.name, .slice ab3 (List.length (by8 N2.1.bytes)) cb3, .slice ae3 (List.length (en2 N2.1.ents)) ce3, .slice ac3 (List.length (ch4 N2.1.chs)) cc3] 27 :: Sh 5 1 (by8 bs) a c :: Own 5 1 (by8 N2.1.bytes) ab3 cb3 :: Own 40 2 (en2 N2.1.ents) ae3 ce3 :: Own 63 4 (ch4 N2.1.chs) ac3 cc3 :: cel b3 #[.int .i64 N1.1.code, .int .u64 N1.1.a, .int .u64 N1.1.b, .int .i64 N1.1.key, .int .i64 N1.1.val, .int .i64 N1.1.lo, .int .i64 N1.1.hi, .int .i64 N1.1.n, .bool N1.1.flag, .string N1.1.name, .slice ab2 (List.length (by8 N1.1.bytes)) cb2, .slice ae2 (List.length (en2 N1.1.ents)) ce2, .slice ac2 (List.length (ch4 N1.1.chs)) cc2] 27 :: Own 40 2 (en2 N1.1.ents) ae2 ce2 :: Own 63 4 (ch4 N1.1.chs) ac2 cc2 :: L) w := hS
              replace hS := (hS.at_ 16 rfl).share
              replace hS : St g (Sh 40 2 (en2 N1.1.ents) ae2 ce2 :: Sh 5 1 (by8 N1.1.bytes) ab2 cb2 :: cel b6 #[.int .i64 N4.1.code, .int .u64 N4.1.a, .int .u64 N4.1.b, .int .i64 N4.1.key, .int .i64 N4.1.val, .int .i64 N4.1.lo, .int .i64 N4.1.hi, .int .i64 N4.1.n, .bool N4.1.flag, .string N4.1.name, .slice ab5 (List.length (by8 N4.1.bytes)) cb5, .slice ae5 (List.length (en2 N4.1.ents)) ce5, .slice ac5 (List.length (ch4 N4.1.chs)) cc5] 27 :: Sh 5 1 (by8 us) a3 c3 :: Own 5 1 (by8 N4.1.bytes) ab5 cb5 :: Own 40 2 (en2 N4.1.ents) ae5 ce5 :: Own 63 4 (ch4 N4.1.chs) ac5 cc5 :: cel b5 #[.int .i64 N3.1.code, .int .u64 N3.1.a, .int .u64 N3.1.b, .int .i64 N3.1.key, .int .i64 N3.1.val, .int .i64 N3.1.lo, .int .i64 N3.1.hi, .int .i64 N3.1.n, .bool N3.1.flag, .string N3.1.name, .slice ab4 (List.length (by8 N3.1.bytes)) cb4, .slice ae4 (List.length (en2 N3.1.ents)) ce4, .slice ac4 (List.length (ch4 N3.1.chs)) cc4] 27 :: Own 5 1 (by8 N3.1.bytes) ab4 cb4 :: Own 40 2 (en2 N3.1.ents) ae4 ce4 :: Own 63 4 (ch4 N3.1.chs) ac4 cc4 :: cel b4 #[.int .i64 N2.1.code, .int .u64 N2.1.a, .int .u64 N2.1.b, .int .i64 N2.1.key, .int .i64 N2.1.val, .int .i64 N2.1.lo, .int .i64 N2.1.hi, .int .i64 N2.1.n, .bool N2.1.flag, .string N2.1.name, .slice ab3 (List.length (by8 N2.1.bytes)) cb3, .slice ae3 (List.length (en2 N2.1.ents)) ce3, .slice ac3 (List.length (ch4 N2.1.chs)) cc3] 27 :: Sh 5 1 (by8 bs) a c :: Own 5 1 (by8 N2.1.bytes) ab3 cb3 :: Own 40 2 (en2 N2.1.ents) ae3 ce3 :: Own 63 4 (ch4 N2.1.chs) ac3 cc3 :: cel b3 #[.int .i64 N1.1.code, .int .u64 N1.1.a, .int .u64 N1.1.b, .int .i64 N1.1.key, .int .i64 N1.1.val, .int .i64 N1.1.lo, .int .i64 N1.1.hi, .int .i64 N1.1.n, .bool N1.1.flag, .string N1.1.name, .slice ab2 (List.length (by8 N1.1.bytes)) cb2, .slice ae2 (List.length (en2 N1.1.ents)) ce2, .slice ac2 (List.length (ch4 N1.1.chs)) cc2] 27 :: Own 63 4 (ch4 N1.1.chs) ac2 cc2 :: L) w := hS
              replace hS := (hS.at_ 17 rfl).share
              replace hS : St g (Sh 63 4 (ch4 N1.1.chs) ac2 cc2 :: Sh 40 2 (en2 N1.1.ents) ae2 ce2 :: Sh 5 1 (by8 N1.1.bytes) ab2 cb2 :: cel b6 #[.int .i64 N4.1.code, .int .u64 N4.1.a, .int .u64 N4.1.b, .int .i64 N4.1.key, .int .i64 N4.1.val, .int .i64 N4.1.lo, .int .i64 N4.1.hi, .int .i64 N4.1.n, .bool N4.1.flag, .string N4.1.name, .slice ab5 (List.length (by8 N4.1.bytes)) cb5, .slice ae5 (List.length (en2 N4.1.ents)) ce5, .slice ac5 (List.length (ch4 N4.1.chs)) cc5] 27 :: Sh 5 1 (by8 us) a3 c3 :: Own 5 1 (by8 N4.1.bytes) ab5 cb5 :: Own 40 2 (en2 N4.1.ents) ae5 ce5 :: Own 63 4 (ch4 N4.1.chs) ac5 cc5 :: cel b5 #[.int .i64 N3.1.code, .int .u64 N3.1.a, .int .u64 N3.1.b, .int .i64 N3.1.key, .int .i64 N3.1.val, .int .i64 N3.1.lo, .int .i64 N3.1.hi, .int .i64 N3.1.n, .bool N3.1.flag, .string N3.1.name, .slice ab4 (List.length (by8 N3.1.bytes)) cb4, .slice ae4 (List.length (en2 N3.1.ents)) ce4, .slice ac4 (List.length (ch4 N3.1.chs)) cc4] 27 :: Own 5 1 (by8 N3.1.bytes) ab4 cb4 :: Own 40 2 (en2 N3.1.ents) ae4 ce4 :: Own 63 4 (ch4 N3.1.chs) ac4 cc4 :: cel b4 #[.int .i64 N2.1.code, .int .u64 N2.1.a, .int .u64 N2.1.b, .int .i64 N2.1.key, .int .i64 N2.1.val, .int .i64 N2.1.lo, .int .i64 N2.1.hi, .int .i64 N2.1.n, .bool N2.1.flag, .string N2.1.name, .slice ab3 (List.length (by8 N2.1.bytes)) cb3, .slice ae3 (List.length (en2 N2.1.ents)) ce3, .slice ac3 (List.length (ch4 N2.1.chs)) cc3] 27 :: Sh 5 1 (by8 bs) a c :: Own 5 1 (by8 N2.1.bytes) ab3 cb3 :: Own 40 2 (en2 N2.1.ents) ae3 ce3 :: Own 63 4 (ch4 N2.1.chs) ac3 cc3 :: cel b3 #[.int .i64 N1.1.code, .int .u64 N1.1.a, .int .u64 N1.1.b, .int .i64 N1.1.key, .int .i64 N1.1.val, .int .i64 N1.1.lo, .int .i64 N1.1.hi, .int .i64 N1.1.n, .bool N1.1.flag, .string N1.1.name, .slice ab2 (List.length (by8 N1.1.bytes)) cb2, .slice ae2 (List.length (en2 N1.1.ents)) ce2, .slice ac2 (List.length (ch4 N1.1.chs)) cc2] 27 :: L) w := hS
              replace hS := (hS.at_ 14 rfl).share
              replace hS : St g (Sh 5 1 (by8 N2.1.bytes) ab3 cb3 :: Sh 63 4 (ch4 N1.1.chs) ac2 cc2 :: Sh 40 2 (en2 N1.1.ents) ae2 ce2 :: Sh 5 1 (by8 N1.1.bytes) ab2 cb2 :: cel b6 #[.int .i64 N4.1.code, .int .u64 N4.1.a, .int .u64 N4.1.b, .int .i64 N4.1.key, .int .i64 N4.1.val, .int .i64 N4.1.lo, .int .i64 N4.1.hi, .int .i64 N4.1.n, .bool N4.1.flag, .string N4.1.name, .slice ab5 (List.length (by8 N4.1.bytes)) cb5, .slice ae5 (List.length (en2 N4.1.ents)) ce5, .slice ac5 (List.length (ch4 N4.1.chs)) cc5] 27 :: Sh 5 1 (by8 us) a3 c3 :: Own 5 1 (by8 N4.1.bytes) ab5 cb5 :: Own 40 2 (en2 N4.1.ents) ae5 ce5 :: Own 63 4 (ch4 N4.1.chs) ac5 cc5 :: cel b5 #[.int .i64 N3.1.code, .int .u64 N3.1.a, .int .u64 N3.1.b, .int .i64 N3.1.key, .int .i64 N3.1.val, .int .i64 N3.1.lo, .int .i64 N3.1.hi, .int .i64 N3.1.n, .bool N3.1.flag, .string N3.1.name, .slice ab4 (List.length (by8 N3.1.bytes)) cb4, .slice ae4 (List.length (en2 N3.1.ents)) ce4, .slice ac4 (List.length (ch4 N3.1.chs)) cc4] 27 :: Own 5 1 (by8 N3.1.bytes) ab4 cb4 :: Own 40 2 (en2 N3.1.ents) ae4 ce4 :: Own 63 4 (ch4 N3.1.chs) ac4 cc4 :: cel b4 #[.int .i64 N2.1.code, .int .u64 N2.1.a, .int .u64 N2.1.b, .int .i64 N2.1.key, .int .i64 N2.1.val, .int .i64 N2.1.lo, .int .i64 N2.1.hi, .int .i64 N2.1.n, .bool N2.1.flag, .string N2.1.name, .slice ab3 (List.length (by8 N2.1.bytes)) cb3, .slice ae3 (List.length (en2 N2.1.ents)) ce3, .slice ac3 (List.length (ch4 N2.1.chs)) cc3] 27 :: Sh 5 1 (by8 bs) a c :: Own 40 2 (en2 N2.1.ents) ae3 ce3 :: Own 63 4 (ch4 N2.1.chs) ac3 cc3 :: cel b3 #[.int .i64 N1.1.code, .int .u64 N1.1.a, .int .u64 N1.1.b, .int .i64 N1.1.key, .int .i64 N1.1.val, .int .i64 N1.1.lo, .int .i64 N1.1.hi, .int .i64 N1.1.n, .bool N1.1.flag, .string N1.1.name, .slice ab2 (List.length (by8 N1.1.bytes)) cb2, .slice ae2 (List.length (en2 N1.1.ents)) ce2, .slice ac2 (List.length (ch4 N1.1.chs)) cc2] 27 :: L) w := hS
              replace hS := (hS.at_ 15 rfl).share
              replace hS : St g (Sh 40 2 (en2 N2.1.ents) ae3 ce3 :: Sh 5 1 (by8 N2.1.bytes) ab3 cb3 :: Sh 63 4 (ch4 N1.1.chs) ac2 cc2 :: Sh 40 2 (en2 N1.1.ents) ae2 ce2 :: Sh 5 1 (by8 N1.1.bytes) ab2 cb2 :: cel b6 #[.int .i64 N4.1.code, .int .u64 N4.1.a, .int .u64 N4.1.b, .int .i64 N4.1.key, .int .i64 N4.1.val, .int .i64 N4.1.lo, .int .i64 N4.1.hi, .int .i64 N4.1.n, .bool N4.1.flag, .string N4.1.name, .slice ab5 (List.length (by8 N4.1.bytes)) cb5, .slice ae5 (List.length (en2 N4.1.ents)) ce5, .slice ac5 (List.length (ch4 N4.1.chs)) cc5] 27 :: Sh 5 1 (by8 us) a3 c3 :: Own 5 1 (by8 N4.1.bytes) ab5 cb5 :: Own 40 2 (en2 N4.1.ents) ae5 ce5 :: Own 63 4 (ch4 N4.1.chs) ac5 cc5 :: cel b5 #[.int .i64 N3.1.code, .int .u64 N3.1.a, .int .u64 N3.1.b, .int .i64 N3.1.key, .int .i64 N3.1.val, .int .i64 N3.1.lo, .int .i64 N3.1.hi, .int .i64 N3.1.n, .bool N3.1.flag, .string N3.1.name, .slice ab4 (List.length (by8 N3.1.bytes)) cb4, .slice ae4 (List.length (en2 N3.1.ents)) ce4, .slice ac4 (List.length (ch4 N3.1.chs)) cc4] 27 :: Own 5 1 (by8 N3.1.bytes) ab4 cb4 :: Own 40 2 (en2 N3.1.ents) ae4 ce4 :: Own 63 4 (ch4 N3.1.chs) ac4 cc4 :: cel b4 #[.int .i64 N2.1.code, .int .u64 N2.1.a, .int .u64 N2.1.b, .int .i64 N2.1.key, .int .i64 N2.1.val, .int .i64 N2.1.lo, .int .i64 N2.1.hi, .int .i64 N2.1.n, .bool N2.1.flag, .string N2.1.name, .slice ab3 (List.length (by8 N2.1.bytes)) cb3, .slice ae3 (List.length (en2 N2.1.ents)) ce3, .slice ac3 (List.length (ch4 N2.1.chs)) cc3] 27 :: Sh 5 1 (by8 bs) a c :: Own 63 4 (ch4 N2.1.chs) ac3 cc3 :: cel b3 #[.int .i64 N1.1.code, .int .u64 N1.1.a, .int .u64 N1.1.b, .int .i64 N1.1.key, .int .i64 N1.1.val, .int .i64 N1.1.lo, .int .i64 N1.1.hi, .int .i64 N1.1.n, .bool N1.1.flag, .string N1.1.name, .slice ab2 (List.length (by8 N1.1.bytes)) cb2, .slice ae2 (List.length (en2 N1.1.ents)) ce2, .slice ac2 (List.length (ch4 N1.1.chs)) cc2] 27 :: L) w := hS
              replace hS := (hS.at_ 16 rfl).share
              replace hS : St g (Sh 63 4 (ch4 N2.1.chs) ac3 cc3 :: Sh 40 2 (en2 N2.1.ents) ae3 ce3 :: Sh 5 1 (by8 N2.1.bytes) ab3 cb3 :: Sh 63 4 (ch4 N1.1.chs) ac2 cc2 :: Sh 40 2 (en2 N1.1.ents) ae2 ce2 :: Sh 5 1 (by8 N1.1.bytes) ab2 cb2 :: cel b6 #[.int .i64 N4.1.code, .int .u64 N4.1.a, .int .u64 N4.1.b, .int .i64 N4.1.key, .int .i64 N4.1.val, .int .i64 N4.1.lo, .int .i64 N4.1.hi, .int .i64 N4.1.n, .bool N4.1.flag, .string N4.1.name, .slice ab5 (List.length (by8 N4.1.bytes)) cb5, .slice ae5 (List.length (en2 N4.1.ents)) ce5, .slice ac5 (List.length (ch4 N4.1.chs)) cc5] 27 :: Sh 5 1 (by8 us) a3 c3 :: Own 5 1 (by8 N4.1.bytes) ab5 cb5 :: Own 40 2 (en2 N4.1.ents) ae5 ce5 :: Own 63 4 (ch4 N4.1.chs) ac5 cc5 :: cel b5 #[.int .i64 N3.1.code, .int .u64 N3.1.a, .int .u64 N3.1.b, .int .i64 N3.1.key, .int .i64 N3.1.val, .int .i64 N3.1.lo, .int .i64 N3.1.hi, .int .i64 N3.1.n, .bool N3.1.flag, .string N3.1.name, .slice ab4 (List.length (by8 N3.1.bytes)) cb4, .slice ae4 (List.length (en2 N3.1.ents)) ce4, .slice ac4 (List.length (ch4 N3.1.chs)) cc4] 27 :: Own 5 1 (by8 N3.1.bytes) ab4 cb4 :: Own 40 2 (en2 N3.1.ents) ae4 ce4 :: Own 63 4 (ch4 N3.1.chs) ac4 cc4 :: cel b4 #[.int .i64 N2.1.code, .int .u64 N2.1.a, .int .u64 N2.1.b, .int .i64 N2.1.key, .int .i64 N2.1.val, .int .i64 N2.1.lo, .int .i64 N2.1.hi, .int .i64 N2.1.n, .bool N2.1.flag, .string N2.1.name, .slice ab3 (List.length (by8 N2.1.bytes)) cb3, .slice ae3 (List.length (en2 N2.1.ents)) ce3, .slice ac3 (List.length (ch4 N2.1.chs)) cc3] 27 :: Sh 5 1 (by8 bs) a c :: cel b3 #[.int .i64 N1.1.code, .int .u64 N1.1.a, .int .u64 N1.1.b, .int .i64 N1.1.key, .int .i64 N1.1.val, .int .i64 N1.1.lo, .int .i64 N1.1.hi, .int .i64 N1.1.n, .bool N1.1.flag, .string N1.1.name, .slice ab2 (List.length (by8 N1.1.bytes)) cb2, .slice ae2 (List.length (en2 N1.1.ents)) ce2, .slice ac2 (List.length (ch4 N1.1.chs)) cc2] 27 :: L) w := hS
              refine WL.call rfl rfl (sameop_spec (x := N1.1) (y := N2.1) (ab := ab2) (ae := ae2) (ac := ac2) (ab2 := ab3) (ae2 := ae3) (ac2 := ac3) (cb := cb2) (ce := ce2) (cc := cc2) (cb2 := cb3) (ce2 := ce3) (cc2 := cc3) (h1 := (by omega)) (h2 := (by omega)) (hbx := hR1.t.by_) (hby := hR2.t.by_) (hS := (hS.sel 6 [5, 4, 3, 2, 1, 0] rfl))) rfl ?_
              clear hS; rintro _ w ⟨ok1, rfl, hS, f1⟩
              replace hS : St g (Sh 5 1 (by8 N1.1.bytes) ab2 cb2 :: Sh 40 2 (en2 N1.1.ents) ae2 ce2 :: Sh 63 4 (ch4 N1.1.chs) ac2 cc2 :: Sh 5 1 (by8 N2.1.bytes) ab3 cb3 :: Sh 40 2 (en2 N2.1.ents) ae3 ce3 :: Sh 63 4 (ch4 N2.1.chs) ac3 cc3 :: cel b6 #[.int .i64 N4.1.code, .int .u64 N4.1.a, .int .u64 N4.1.b, .int .i64 N4.1.key, .int .i64 N4.1.val, .int .i64 N4.1.lo, .int .i64 N4.1.hi, .int .i64 N4.1.n, .bool N4.1.flag, .string N4.1.name, .slice ab5 (List.length (by8 N4.1.bytes)) cb5, .slice ae5 (List.length (en2 N4.1.ents)) ce5, .slice ac5 (List.length (ch4 N4.1.chs)) cc5] 27 :: Sh 5 1 (by8 us) a3 c3 :: Own 5 1 (by8 N4.1.bytes) ab5 cb5 :: Own 40 2 (en2 N4.1.ents) ae5 ce5 :: Own 63 4 (ch4 N4.1.chs) ac5 cc5 :: cel b5 #[.int .i64 N3.1.code, .int .u64 N3.1.a, .int .u64 N3.1.b, .int .i64 N3.1.key, .int .i64 N3.1.val, .int .i64 N3.1.lo, .int .i64 N3.1.hi, .int .i64 N3.1.n, .bool N3.1.flag, .string N3.1.name, .slice ab4 (List.length (by8 N3.1.bytes)) cb4, .slice ae4 (List.length (en2 N3.1.ents)) ce4, .slice ac4 (List.length (ch4 N3.1.chs)) cc4] 27 :: Own 5 1 (by8 N3.1.bytes) ab4 cb4 :: Own 40 2 (en2 N3.1.ents) ae4 ce4 :: Own 63 4 (ch4 N3.1.chs) ac4 cc4 :: cel b4 #[.int .i64 N2.1.code, .int .u64 N2.1.a, .int .u64 N2.1.b, .int .i64 N2.1.key, .int .i64 N2.1.val, .int .i64 N2.1.lo, .int .i64 N2.1.hi, .int .i64 N2.1.n, .bool N2.1.flag, .string N2.1.name, .slice ab3 (List.length (by8 N2.1.bytes)) cb3, .slice ae3 (List.length (en2 N2.1.ents)) ce3, .slice ac3 (List.length (ch4 N2.1.chs)) cc3] 27 :: Sh 5 1 (by8 bs) a c :: cel b3 #[.int .i64 N1.1.code, .int .u64 N1.1.a, .int .u64 N1.1.b, .int .i64 N1.1.key, .int .i64 N1.1.val, .int .i64 N1.1.lo, .int .i64 N1.1.hi, .int .i64 N1.1.n, .bool N1.1.flag, .string N1.1.name, .slice ab2 (List.length (by8 N1.1.bytes)) cb2, .slice ae2 (List.length (en2 N1.1.ents)) ce2, .slice ac2 (List.length (ch4 N1.1.chs)) cc2] 27 :: L) w := hS
              refine WL.r 2 rfl ?_
              by_cases cg2 : ok1 = true
              · refine WL.reb 107 (.bool true) (congrArg Value.bool cg2) ?_
                refine WL.ung rfl rfl rfl ?_
                refine WL.r 1 rfl ?_
                refine WL.ung rfl rfl rfl ?_
                refine WL.r 1 rfl ?_
                refine WL.ung rfl rfl rfl ?_
                refine WL.r 3 rfl ?_
                by_cases cg3 : N1.2.1 = N2.2.1
                · refine WL.reb 112 (.bool true) (congrArg Value.bool (decide_eq_true cg3)) ?_
                  refine WL.ung rfl rfl rfl ?_
                  refine WL.r 1 rfl ?_
                  refine WL.ung rfl rfl rfl ?_
                  refine WL.r 1 rfl ?_
                  refine WL.ung rfl rfl rfl ?_
                  refine WL.r 3 rfl ?_
                  by_cases cg4 : N1.2.2 = N2.2.2
                  · refine WL.reb 117 (.bool true) (congrArg Value.bool (decide_eq_true cg4)) ?_
                    refine WL.ung rfl rfl rfl ?_
                    refine WL.ldF rfl rfl 11 hS rfl rfl ag_27 ?_
                    refine WL.ung rfl rfl rfl ?_
                    refine WL.ldF rfl rfl 6 hS rfl rfl ag_27 ?_
                    refine WL.ung rfl rfl rfl ?_
                    replace hS := (hS.at_ 12 rfl).share
                    replace hS : St g (Sh 5 1 (by8 N3.1.bytes) ab4 cb4 :: Sh 5 1 (by8 N1.1.bytes) ab2 cb2 :: Sh 40 2 (en2 N1.1.ents) ae2 ce2 :: Sh 63 4 (ch4 N1.1.chs) ac2 cc2 :: Sh 5 1 (by8 N2.1.bytes) ab3 cb3 :: Sh 40 2 (en2 N2.1.ents) ae3 ce3 :: Sh 63 4 (ch4 N2.1.chs) ac3 cc3 :: cel b6 #[.int .i64 N4.1.code, .int .u64 N4.1.a, .int .u64 N4.1.b, .int .i64 N4.1.key, .int .i64 N4.1.val, .int .i64 N4.1.lo, .int .i64 N4.1.hi, .int .i64 N4.1.n, .bool N4.1.flag, .string N4.1.name, .slice ab5 (List.length (by8 N4.1.bytes)) cb5, .slice ae5 (List.length (en2 N4.1.ents)) ce5, .slice ac5 (List.length (ch4 N4.1.chs)) cc5] 27 :: Sh 5 1 (by8 us) a3 c3 :: Own 5 1 (by8 N4.1.bytes) ab5 cb5 :: Own 40 2 (en2 N4.1.ents) ae5 ce5 :: Own 63 4 (ch4 N4.1.chs) ac5 cc5 :: cel b5 #[.int .i64 N3.1.code, .int .u64 N3.1.a, .int .u64 N3.1.b, .int .i64 N3.1.key, .int .i64 N3.1.val, .int .i64 N3.1.lo, .int .i64 N3.1.hi, .int .i64 N3.1.n, .bool N3.1.flag, .string N3.1.name, .slice ab4 (List.length (by8 N3.1.bytes)) cb4, .slice ae4 (List.length (en2 N3.1.ents)) ce4, .slice ac4 (List.length (ch4 N3.1.chs)) cc4] 27 :: Own 40 2 (en2 N3.1.ents) ae4 ce4 :: Own 63 4 (ch4 N3.1.chs) ac4 cc4 :: cel b4 #[.int .i64 N2.1.code, .int .u64 N2.1.a, .int .u64 N2.1.b, .int .i64 N2.1.key, .int .i64 N2.1.val, .int .i64 N2.1.lo, .int .i64 N2.1.hi, .int .i64 N2.1.n, .bool N2.1.flag, .string N2.1.name, .slice ab3 (List.length (by8 N2.1.bytes)) cb3, .slice ae3 (List.length (en2 N2.1.ents)) ce3, .slice ac3 (List.length (ch4 N2.1.chs)) cc3] 27 :: Sh 5 1 (by8 bs) a c :: cel b3 #[.int .i64 N1.1.code, .int .u64 N1.1.a, .int .u64 N1.1.b, .int .i64 N1.1.key, .int .i64 N1.1.val, .int .i64 N1.1.lo, .int .i64 N1.1.hi, .int .i64 N1.1.n, .bool N1.1.flag, .string N1.1.name, .slice ab2 (List.length (by8 N1.1.bytes)) cb2, .slice ae2 (List.length (en2 N1.1.ents)) ce2, .slice ac2 (List.length (ch4 N1.1.chs)) cc2] 27 :: L) w := hS
                    replace hS := (hS.at_ 13 rfl).share
                    replace hS : St g (Sh 40 2 (en2 N3.1.ents) ae4 ce4 :: Sh 5 1 (by8 N3.1.bytes) ab4 cb4 :: Sh 5 1 (by8 N1.1.bytes) ab2 cb2 :: Sh 40 2 (en2 N1.1.ents) ae2 ce2 :: Sh 63 4 (ch4 N1.1.chs) ac2 cc2 :: Sh 5 1 (by8 N2.1.bytes) ab3 cb3 :: Sh 40 2 (en2 N2.1.ents) ae3 ce3 :: Sh 63 4 (ch4 N2.1.chs) ac3 cc3 :: cel b6 #[.int .i64 N4.1.code, .int .u64 N4.1.a, .int .u64 N4.1.b, .int .i64 N4.1.key, .int .i64 N4.1.val, .int .i64 N4.1.lo, .int .i64 N4.1.hi, .int .i64 N4.1.n, .bool N4.1.flag, .string N4.1.name, .slice ab5 (List.length (by8 N4.1.bytes)) cb5, .slice ae5 (List.length (en2 N4.1.ents)) ce5, .slice ac5 (List.length (ch4 N4.1.chs)) cc5] 27 :: Sh 5 1 (by8 us) a3 c3 :: Own 5 1 (by8 N4.1.bytes) ab5 cb5 :: Own 40 2 (en2 N4.1.ents) ae5 ce5 :: Own 63 4 (ch4 N4.1.chs) ac5 cc5 :: cel b5 #[.int .i64 N3.1.code, .int .u64 N3.1.a, .int .u64 N3.1.b, .int .i64 N3.1.key, .int .i64 N3.1.val, .int .i64 N3.1.lo, .int .i64 N3.1.hi, .int .i64 N3.1.n, .bool N3.1.flag, .string N3.1.name, .slice ab4 (List.length (by8 N3.1.bytes)) cb4, .slice ae4 (List.length (en2 N3.1.ents)) ce4, .slice ac4 (List.length (ch4 N3.1.chs)) cc4] 27 :: Own 63 4 (ch4 N3.1.chs) ac4 cc4 :: cel b4 #[.int .i64 N2.1.code, .int .u64 N2.1.a, .int .u64 N2.1.b, .int .i64 N2.1.key, .int .i64 N2.1.val, .int .i64 N2.1.lo, .int .i64 N2.1.hi, .int .i64 N2.1.n, .bool N2.1.flag, .string N2.1.name, .slice ab3 (List.length (by8 N2.1.bytes)) cb3, .slice ae3 (List.length (en2 N2.1.ents)) ce3, .slice ac3 (List.length (ch4 N2.1.chs)) cc3] 27 :: Sh 5 1 (by8 bs) a c :: cel b3 #[.int .i64 N1.1.code, .int .u64 N1.1.a, .int .u64 N1.1.b, .int .i64 N1.1.key, .int .i64 N1.1.val, .int .i64 N1.1.lo, .int .i64 N1.1.hi, .int .i64 N1.1.n, .bool N1.1.flag, .string N1.1.name, .slice ab2 (List.length (by8 N1.1.bytes)) cb2, .slice ae2 (List.length (en2 N1.1.ents)) ce2, .slice ac2 (List.length (ch4 N1.1.chs)) cc2] 27 :: L) w := hS
                    replace hS := (hS.at_ 14 rfl).share
                    replace hS : St g (Sh 63 4 (ch4 N3.1.chs) ac4 cc4 :: Sh 40 2 (en2 N3.1.ents) ae4 ce4 :: Sh 5 1 (by8 N3.1.bytes) ab4 cb4 :: Sh 5 1 (by8 N1.1.bytes) ab2 cb2 :: Sh 40 2 (en2 N1.1.ents) ae2 ce2 :: Sh 63 4 (ch4 N1.1.chs) ac2 cc2 :: Sh 5 1 (by8 N2.1.bytes) ab3 cb3 :: Sh 40 2 (en2 N2.1.ents) ae3 ce3 :: Sh 63 4 (ch4 N2.1.chs) ac3 cc3 :: cel b6 #[.int .i64 N4.1.code, .int .u64 N4.1.a, .int .u64 N4.1.b, .int .i64 N4.1.key, .int .i64 N4.1.val, .int .i64 N4.1.lo, .int .i64 N4.1.hi, .int .i64 N4.1.n, .bool N4.1.flag, .string N4.1.name, .slice ab5 (List.length (by8 N4.1.bytes)) cb5, .slice ae5 (List.length (en2 N4.1.ents)) ce5, .slice ac5 (List.length (ch4 N4.1.chs)) cc5] 27 :: Sh 5 1 (by8 us) a3 c3 :: Own 5 1 (by8 N4.1.bytes) ab5 cb5 :: Own 40 2 (en2 N4.1.ents) ae5 ce5 :: Own 63 4 (ch4 N4.1.chs) ac5 cc5 :: cel b5 #[.int .i64 N3.1.code, .int .u64 N3.1.a, .int .u64 N3.1.b, .int .i64 N3.1.key, .int .i64 N3.1.val, .int .i64 N3.1.lo, .int .i64 N3.1.hi, .int .i64 N3.1.n, .bool N3.1.flag, .string N3.1.name, .slice ab4 (List.length (by8 N3.1.bytes)) cb4, .slice ae4 (List.length (en2 N3.1.ents)) ce4, .slice ac4 (List.length (ch4 N3.1.chs)) cc4] 27 :: cel b4 #[.int .i64 N2.1.code, .int .u64 N2.1.a, .int .u64 N2.1.b, .int .i64 N2.1.key, .int .i64 N2.1.val, .int .i64 N2.1.lo, .int .i64 N2.1.hi, .int .i64 N2.1.n, .bool N2.1.flag, .string N2.1.name, .slice ab3 (List.length (by8 N2.1.bytes)) cb3, .slice ae3 (List.length (en2 N2.1.ents)) ce3, .slice ac3 (List.length (ch4 N2.1.chs)) cc3] 27 :: Sh 5 1 (by8 bs) a c :: cel b3 #[.int .i64 N1.1.code, .int .u64 N1.1.a, .int .u64 N1.1.b, .int .i64 N1.1.key, .int .i64 N1.1.val, .int .i64 N1.1.lo, .int .i64 N1.1.hi, .int .i64 N1.1.n, .bool N1.1.flag, .string N1.1.name, .slice ab2 (List.length (by8 N1.1.bytes)) cb2, .slice ae2 (List.length (en2 N1.1.ents)) ce2, .slice ac2 (List.length (ch4 N1.1.chs)) cc2] 27 :: L) w := hS
                    replace hS := (hS.at_ 11 rfl).share
                    replace hS : St g (Sh 5 1 (by8 N4.1.bytes) ab5 cb5 :: Sh 63 4 (ch4 N3.1.chs) ac4 cc4 :: Sh 40 2 (en2 N3.1.ents) ae4 ce4 :: Sh 5 1 (by8 N3.1.bytes) ab4 cb4 :: Sh 5 1 (by8 N1.1.bytes) ab2 cb2 :: Sh 40 2 (en2 N1.1.ents) ae2 ce2 :: Sh 63 4 (ch4 N1.1.chs) ac2 cc2 :: Sh 5 1 (by8 N2.1.bytes) ab3 cb3 :: Sh 40 2 (en2 N2.1.ents) ae3 ce3 :: Sh 63 4 (ch4 N2.1.chs) ac3 cc3 :: cel b6 #[.int .i64 N4.1.code, .int .u64 N4.1.a, .int .u64 N4.1.b, .int .i64 N4.1.key, .int .i64 N4.1.val, .int .i64 N4.1.lo, .int .i64 N4.1.hi, .int .i64 N4.1.n, .bool N4.1.flag, .string N4.1.name, .slice ab5 (List.length (by8 N4.1.bytes)) cb5, .slice ae5 (List.length (en2 N4.1.ents)) ce5, .slice ac5 (List.length (ch4 N4.1.chs)) cc5] 27 :: Sh 5 1 (by8 us) a3 c3 :: Own 40 2 (en2 N4.1.ents) ae5 ce5 :: Own 63 4 (ch4 N4.1.chs) ac5 cc5 :: cel b5 #[.int .i64 N3.1.code, .int .u64 N3.1.a, .int .u64 N3.1.b, .int .i64 N3.1.key, .int .i64 N3.1.val, .int .i64 N3.1.lo, .int .i64 N3.1.hi, .int .i64 N3.1.n, .bool N3.1.flag, .string N3.1.name, .slice ab4 (List.length (by8 N3.1.bytes)) cb4, .slice ae4 (List.length (en2 N3.1.ents)) ce4, .slice ac4 (List.length (ch4 N3.1.chs)) cc4] 27 :: cel b4 #[.int .i64 N2.1.code, .int .u64 N2.1.a, .int .u64 N2.1.b, .int .i64 N2.1.key, .int .i64 N2.1.val, .int .i64 N2.1.lo, .int .i64 N2.1.hi, .int .i64 N2.1.n, .bool N2.1.flag, .string N2.1.name, .slice ab3 (List.length (by8 N2.1.bytes)) cb3, .slice ae3 (List.length (en2 N2.1.ents)) ce3, .slice ac3 (List.length (ch4 N2.1.chs)) cc3] 27 :: Sh 5 1 (by8 bs) a c :: cel b3 #[.int .i64 N1.1.code, .int .u64 N1.1.a, .int .u64 N1.1.b, .int .i64 N1.1.key, .int .i64 N1.1.val, .int .i64 N1.1.lo, .int .i64 N1.1.hi, .int .i64 N1.1.n, .bool N1.1.flag, .string N1.1.name, .slice ab2 (List.length (by8 N1.1.bytes)) cb2, .slice ae2 (List.length (en2 N1.1.ents)) ce2, .slice ac2 (List.length (ch4 N1.1.chs)) cc2] 27 :: L) w := hS
                    replace hS := (hS.at_ 12 rfl).share
                    replace hS : St g (Sh 40 2 (en2 N4.1.ents) ae5 ce5 :: Sh 5 1 (by8 N4.1.bytes) ab5 cb5 :: Sh 63 4 (ch4 N3.1.chs) ac4 cc4 :: Sh 40 2 (en2 N3.1.ents) ae4 ce4 :: Sh 5 1 (by8 N3.1.bytes) ab4 cb4 :: Sh 5 1 (by8 N1.1.bytes) ab2 cb2 :: Sh 40 2 (en2 N1.1.ents) ae2 ce2 :: Sh 63 4 (ch4 N1.1.chs) ac2 cc2 :: Sh 5 1 (by8 N2.1.bytes) ab3 cb3 :: Sh 40 2 (en2 N2.1.ents) ae3 ce3 :: Sh 63 4 (ch4 N2.1.chs) ac3 cc3 :: cel b6 #[.int .i64 N4.1.code, .int .u64 N4.1.a, .int .u64 N4.1.b, .int .i64 N4.1.key, .int .i64 N4.1.val, .int .i64 N4.1.lo, .int .i64 N4.1.hi, .int .i64 N4.1.n, .bool N4.1.flag, .string N4.1.name, .slice ab5 (List.length (by8 N4.1.bytes)) cb5, .slice ae5 (List.length (en2 N4.1.ents)) ce5, .slice ac5 (List.length (ch4 N4.1.chs)) cc5] 27 :: Sh 5 1 (by8 us) a3 c3 :: Own 63 4 (ch4 N4.1.chs) ac5 cc5 :: cel b5 #[.int .i64 N3.1.code, .int .u64 N3.1.a, .int .u64 N3.1.b, .int .i64 N3.1.key, .int .i64 N3.1.val, .int .i64 N3.1.lo, .int .i64 N3.1.hi, .int .i64 N3.1.n, .bool N3.1.flag, .string N3.1.name, .slice ab4 (List.length (by8 N3.1.bytes)) cb4, .slice ae4 (List.length (en2 N3.1.ents)) ce4, .slice ac4 (List.length (ch4 N3.1.chs)) cc4] 27 :: cel b4 #[.int .i64 N2.1.code, .int .u64 N2.1.a, .int .u64 N2.1.b, .int .i64 N2.1.key, .int .i64 N2.1.val, .int .i64 N2.1.lo, .int .i64 N2.1.hi, .int .i64 N2.1.n, .bool N2.1.flag, .string N2.1.name, .slice ab3 (List.length (by8 N2.1.bytes)) cb3, .slice ae3 (List.length (en2 N2.1.ents)) ce3, .slice ac3 (List.length (ch4 N2.1.chs)) cc3] 27 :: Sh 5 1 (by8 bs) a c :: cel b3 #[.int .i64 N1.1.code, .int .u64 N1.1.a, .int .u64 N1.1.b, .int .i64 N1.1.key, .int .i64 N1.1.val, .int .i64 N1.1.lo, .int .i64 N1.1.hi, .int .i64 N1.1.n, .bool N1.1.flag, .string N1.1.name, .slice ab2 (List.length (by8 N1.1.bytes)) cb2, .slice ae2 (List.length (en2 N1.1.ents)) ce2, .slice ac2 (List.length (ch4 N1.1.chs)) cc2] 27 :: L) w := hS
                    replace hS := (hS.at_ 13 rfl).share
                    replace hS : St g (Sh 63 4 (ch4 N4.1.chs) ac5 cc5 :: Sh 40 2 (en2 N4.1.ents) ae5 ce5 :: Sh 5 1 (by8 N4.1.bytes) ab5 cb5 :: Sh 63 4 (ch4 N3.1.chs) ac4 cc4 :: Sh 40 2 (en2 N3.1.ents) ae4 ce4 :: Sh 5 1 (by8 N3.1.bytes) ab4 cb4 :: Sh 5 1 (by8 N1.1.bytes) ab2 cb2 :: Sh 40 2 (en2 N1.1.ents) ae2 ce2 :: Sh 63 4 (ch4 N1.1.chs) ac2 cc2 :: Sh 5 1 (by8 N2.1.bytes) ab3 cb3 :: Sh 40 2 (en2 N2.1.ents) ae3 ce3 :: Sh 63 4 (ch4 N2.1.chs) ac3 cc3 :: cel b6 #[.int .i64 N4.1.code, .int .u64 N4.1.a, .int .u64 N4.1.b, .int .i64 N4.1.key, .int .i64 N4.1.val, .int .i64 N4.1.lo, .int .i64 N4.1.hi, .int .i64 N4.1.n, .bool N4.1.flag, .string N4.1.name, .slice ab5 (List.length (by8 N4.1.bytes)) cb5, .slice ae5 (List.length (en2 N4.1.ents)) ce5, .slice ac5 (List.length (ch4 N4.1.chs)) cc5] 27 :: Sh 5 1 (by8 us) a3 c3 :: cel b5 #[.int .i64 N3.1.code, .int .u64 N3.1.a, .int .u64 N3.1.b, .int .i64 N3.1.key, .int .i64 N3.1.val, .int .i64 N3.1.lo, .int .i64 N3.1.hi, .int .i64 N3.1.n, .bool N3.1.flag, .string N3.1.name, .slice ab4 (List.length (by8 N3.1.bytes)) cb4, .slice ae4 (List.length (en2 N3.1.ents)) ce4, .slice ac4 (List.length (ch4 N3.1.chs)) cc4] 27 :: cel b4 #[.int .i64 N2.1.code, .int .u64 N2.1.a, .int .u64 N2.1.b, .int .i64 N2.1.key, .int .i64 N2.1.val, .int .i64 N2.1.lo, .int .i64 N2.1.hi, .int .i64 N2.1.n, .bool N2.1.flag, .string N2.1.name, .slice ab3 (List.length (by8 N2.1.bytes)) cb3, .slice ae3 (List.length (en2 N2.1.ents)) ce3, .slice ac3 (List.length (ch4 N2.1.chs)) cc3] 27 :: Sh 5 1 (by8 bs) a c :: cel b3 #[.int .i64 N1.1.code, .int .u64 N1.1.a, .int .u64 N1.1.b, .int .i64 N1.1.key, .int .i64 N1.1.val, .int .i64 N1.1.lo, .int .i64 N1.1.hi, .int .i64 N1.1.n, .bool N1.1.flag, .string N1.1.name, .slice ab2 (List.length (by8 N1.1.bytes)) cb2, .slice ae2 (List.length (en2 N1.1.ents)) ce2, .slice ac2 (List.length (ch4 N1.1.chs)) cc2] 27 :: L) w := hS
                    refine WL.call rfl rfl (sameop_spec (x := N3.1) (y := N4.1) (ab := ab4) (ae := ae4) (ac := ac4) (ab2 := ab5) (ae2 := ae5) (ac2 := ac5) (cb := cb4) (ce := ce4) (cc := cc4) (cb2 := cb5) (ce2 := ce5) (cc2 := cc5) (h1 := (by omega)) (h2 := (by omega)) (hbx := hR3.t.by_) (hby := hR4.t.by_) (hS := (hS.sel 6 [5, 4, 3, 2, 1, 0] rfl))) rfl ?_
                    clear hS; rintro _ w ⟨ok2, rfl, hS, f2⟩
                    replace hS : St g (Sh 5 1 (by8 N3.1.bytes) ab4 cb4 :: Sh 40 2 (en2 N3.1.ents) ae4 ce4 :: Sh 63 4 (ch4 N3.1.chs) ac4 cc4 :: Sh 5 1 (by8 N4.1.bytes) ab5 cb5 :: Sh 40 2 (en2 N4.1.ents) ae5 ce5 :: Sh 63 4 (ch4 N4.1.chs) ac5 cc5 :: Sh 5 1 (by8 N1.1.bytes) ab2 cb2 :: Sh 40 2 (en2 N1.1.ents) ae2 ce2 :: Sh 63 4 (ch4 N1.1.chs) ac2 cc2 :: Sh 5 1 (by8 N2.1.bytes) ab3 cb3 :: Sh 40 2 (en2 N2.1.ents) ae3 ce3 :: Sh 63 4 (ch4 N2.1.chs) ac3 cc3 :: cel b6 #[.int .i64 N4.1.code, .int .u64 N4.1.a, .int .u64 N4.1.b, .int .i64 N4.1.key, .int .i64 N4.1.val, .int .i64 N4.1.lo, .int .i64 N4.1.hi, .int .i64 N4.1.n, .bool N4.1.flag, .string N4.1.name, .slice ab5 (List.length (by8 N4.1.bytes)) cb5, .slice ae5 (List.length (en2 N4.1.ents)) ce5, .slice ac5 (List.length (ch4 N4.1.chs)) cc5] 27 :: Sh 5 1 (by8 us) a3 c3 :: cel b5 #[.int .i64 N3.1.code, .int .u64 N3.1.a, .int .u64 N3.1.b, .int .i64 N3.1.key, .int .i64 N3.1.val, .int .i64 N3.1.lo, .int .i64 N3.1.hi, .int .i64 N3.1.n, .bool N3.1.flag, .string N3.1.name, .slice ab4 (List.length (by8 N3.1.bytes)) cb4, .slice ae4 (List.length (en2 N3.1.ents)) ce4, .slice ac4 (List.length (ch4 N3.1.chs)) cc4] 27 :: cel b4 #[.int .i64 N2.1.code, .int .u64 N2.1.a, .int .u64 N2.1.b, .int .i64 N2.1.key, .int .i64 N2.1.val, .int .i64 N2.1.lo, .int .i64 N2.1.hi, .int .i64 N2.1.n, .bool N2.1.flag, .string N2.1.name, .slice ab3 (List.length (by8 N2.1.bytes)) cb3, .slice ae3 (List.length (en2 N2.1.ents)) ce3, .slice ac3 (List.length (ch4 N2.1.chs)) cc3] 27 :: Sh 5 1 (by8 bs) a c :: cel b3 #[.int .i64 N1.1.code, .int .u64 N1.1.a, .int .u64 N1.1.b, .int .i64 N1.1.key, .int .i64 N1.1.val, .int .i64 N1.1.lo, .int .i64 N1.1.hi, .int .i64 N1.1.n, .bool N1.1.flag, .string N1.1.name, .slice ab2 (List.length (by8 N1.1.bytes)) cb2, .slice ae2 (List.length (en2 N1.1.ents)) ce2, .slice ac2 (List.length (ch4 N1.1.chs)) cc2] 27 :: L) w := hS
                    refine WL.r 2 rfl ?_
                    by_cases cg5 : ok2 = true
                    · refine WL.reb 122 (.bool true) (congrArg Value.bool cg5) ?_
                      refine WL.ung rfl rfl rfl ?_
                      refine WL.r 1 rfl ?_
                      refine WL.ung rfl rfl rfl ?_
                      refine WL.r 1 rfl ?_
                      refine WL.ung rfl rfl rfl ?_
                      refine WL.r 3 rfl ?_
                      by_cases cg6 : N3.2.1 = N4.2.1
                      · refine WL.reb 127 (.bool true) (congrArg Value.bool (decide_eq_true cg6)) ?_
                        refine WL.ung rfl rfl rfl ?_
                        refine WL.r 1 rfl ?_
                        refine WL.ung rfl rfl rfl ?_
                        refine WL.r 1 rfl ?_
                        refine WL.ung rfl rfl rfl ?_
                        refine WL.r 3 rfl ?_
                        refine WL.nil ?_
                        as_aux_lemma =>
                          refine WC.ret ?_
                          refine ⟨[.bool (decide (N3.2.2 = N4.2.2))], rfl, ?_⟩
                          replace hS := (hS.sel 18 [] rfl)
                          exact ⟨congrArg Value.bool (decide_eq_true (by rw [hM])), hS⟩
                      · refine WL.reb 127 (.bool false) (congrArg Value.bool (decide_eq_false cg6)) ?_
                        refine WL.skp rfl rfl rfl rfl ?_
                        refine WL.skp rfl rfl rfl rfl ?_
                        refine WL.skp rfl rfl rfl rfl ?_
                        refine WL.r 2 rfl ?_
                        refine WL.nil ?_
                        as_aux_lemma =>
                          refine WC.ret ?_
                          refine ⟨[.bool false], rfl, ?_⟩
                          replace hS := (hS.sel 18 [] rfl)
                          exact absurd (by rw [hM]) cg6
                    · refine WL.reb 122 (.bool false) (congrArg Value.bool (Bool.eq_false_iff.2 cg5)) ?_
                      refine WL.skp rfl rfl rfl rfl ?_
                      refine WL.skp rfl rfl rfl rfl ?_
                      refine WL.skp rfl rfl rfl rfl ?_
                      refine WL.r 2 rfl ?_
                      refine WL.skp rfl rfl rfl rfl ?_
                      refine WL.skp rfl rfl rfl rfl ?_
                      refine WL.skp rfl rfl rfl rfl ?_
                      refine WL.r 2 rfl ?_
                      refine WL.nil ?_
                      as_aux_lemma =>
                        refine WC.ret ?_
                        refine ⟨[.bool false], rfl, ?_⟩
                        replace hS := (hS.sel 18 [] rfl)
                        exact absurd (f2.2 (by rw [hM])) cg5
                  · refine WL.reb 117 (.bool false) (congrArg Value.bool (decide_eq_false cg4)) ?_
                    refine WL.skp rfl rfl rfl rfl ?_
                    refine WL.skp rfl rfl rfl rfl ?_
                    refine WL.skp rfl rfl rfl rfl ?_
                    refine WL.r 2 rfl ?_
                    refine WL.skp rfl rfl rfl rfl ?_
                    refine WL.skp rfl rfl rfl rfl ?_
                    refine WL.skp rfl rfl rfl rfl ?_
                    refine WL.r 2 rfl ?_
                    refine WL.skp rfl rfl rfl rfl ?_
                    refine WL.skp rfl rfl rfl rfl ?_
                    refine WL.skp rfl rfl rfl rfl ?_
                    refine WL.r 2 rfl ?_
                    refine WL.nil ?_
                    as_aux_lemma =>
                      refine WC.ret ?_
                      refine ⟨[.bool false], rfl, ?_⟩
                      replace hS := (hS.sel 18 [] rfl)
                      exact absurd (by rw [hN]) cg4
                · refine WL.reb 112 (.bool false) (congrArg Value.bool (decide_eq_false cg3)) ?_
                  refine WL.skp rfl rfl rfl rfl ?_
                  refine WL.skp rfl rfl rfl rfl ?_
                  refine WL.skp rfl rfl rfl rfl ?_
                  refine WL.r 2 rfl ?_
                  refine WL.skp rfl rfl rfl rfl ?_
                  refine WL.skp rfl rfl rfl rfl ?_
                  refine WL.skp rfl rfl rfl rfl ?_
                  refine WL.r 2 rfl ?_
                  refine WL.skp rfl rfl rfl rfl ?_
                  refine WL.skp rfl rfl rfl rfl ?_
                  refine WL.skp rfl rfl rfl rfl ?_
                  refine WL.r 2 rfl ?_
                  refine WL.skp rfl rfl rfl rfl ?_
                  refine WL.skp rfl rfl rfl rfl ?_
                  refine WL.skp rfl rfl rfl rfl ?_
                  refine WL.r 2 rfl ?_
                  refine WL.nil ?_
                  as_aux_lemma =>
                    refine WC.ret ?_
                    refine ⟨[.bool false], rfl, ?_⟩
                    replace hS := (hS.sel 18 [] rfl)
                    exact absurd (by rw [hN]) cg3
              · refine WL.reb 107 (.bool false) (congrArg Value.bool (Bool.eq_false_iff.2 cg2)) ?_
                refine WL.skp rfl rfl rfl rfl ?_
                refine WL.skp rfl rfl rfl rfl ?_
                refine WL.skp rfl rfl rfl rfl ?_
                refine WL.r 2 rfl ?_
                refine WL.skp rfl rfl rfl rfl ?_
                refine WL.skp rfl rfl rfl rfl ?_
                refine WL.skp rfl rfl rfl rfl ?_
                refine WL.r 2 rfl ?_
                refine WL.skp rfl rfl rfl rfl ?_
                refine WL.skp rfl rfl rfl rfl ?_
                refine WL.skp rfl rfl rfl rfl ?_
                refine WL.r 2 rfl ?_
                refine WL.skp rfl rfl rfl rfl ?_
                refine WL.skp rfl rfl rfl rfl ?_
                refine WL.skp rfl rfl rfl rfl ?_
                refine WL.r 2 rfl ?_
                refine WL.skp rfl rfl rfl rfl ?_
                refine WL.skp rfl rfl rfl rfl ?_
                refine WL.skp rfl rfl rfl rfl ?_
                refine WL.r 2 rfl ?_
                refine WL.nil ?_
                as_aux_lemma =>
                  refine WC.ret ?_
                  refine ⟨[.bool false], rfl, ?_⟩
                  replace hS := (hS.sel 18 [] rfl)
                  exact absurd (f1.2 (by rw [hN])) cg2
end Go.Proofs.Ytofnoopjlmdelaa
