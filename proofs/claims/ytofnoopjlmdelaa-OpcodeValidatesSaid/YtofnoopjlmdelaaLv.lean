/-
  The law OpcodeValidates, walked.
  Conditions: the arguments lie in their kinds.
-/
import Derived.Test.YtofnoopjlmdelaaLw
namespace Go.Proofs.Ytofnoopjlmdelaa
open Go Go.V


theorem three_ops {g w : World} {L : List HP} {x t y o : OpM} {b1 b2 b3 b4 b5 : Nat} {k1 k2 k3 k4 : Array Value} {ab ae ac ab1 ae1 ac1 ae2 ob oe oc a : Option Addr} {cb ce cc cb1 ce1 cc1 ce2 db de dc c : Nat} {bs : List Int}
    (hS : St g (Own 27 13 [opC ⟨x, ab, ae, ac, cb, ce, cc⟩, opC ⟨t, ab1, ae1, ac1, cb1, ce1, cc1⟩, opC ⟨y, ab1, ae2, ac1, cb1, ce2, cc1⟩] (some ⟨b5, 0, none⟩) 3 :: Sh 40 2 (en2 y.ents) ae2 ce2 :: cel b4 k4 27 :: cel b3 k3 27 :: Sh 5 1 (by8 t.bytes) ab1 cb1 :: Sh 40 2 (en2 t.ents) ae1 ce1 :: Sh 63 4 (ch4 t.chs) ac1 cc1 ::
      Sh 5 1 (by8 x.bytes) ab cb :: Sh 40 2 (en2 x.ents) ae ce :: Sh 63 4 (ch4 x.chs) ac cc :: cel b2 k2 27 :: cel b1 k1 27 :: Sh 5 1 (by8 o.bytes) ob db :: Sh 40 2 (en2 o.ents) oe de :: Sh 63 4 (ch4 o.chs) oc dc :: Sh 5 1 (by8 bs) a c :: L) w)
    (hx : OpT x ∧ fewOp x) (ht : OpT t ∧ fewOp t) (hy : OpT y ∧ fewOp y) (hb : y.bytes = t.bytes ∧ y.chs = t.chs) :
    ∃ zs : List OpZ, zs.length = 3 ∧ (∀ z ∈ zs, OpT z.m ∧ fewOp z.m) ∧ St g (Own 27 13 (enOp zs) (some ⟨b5, 0, none⟩) 3 :: Shs opF zs :: Sh 5 1 (by8 bs) a c :: L) w := by
  refine ⟨[⟨x, ab, ae, ac, cb, ce, cc⟩, ⟨t, ab1, ae1, ac1, cb1, ce1, cc1⟩, ⟨y, ab1, ae2, ac1, cb1, ce2, cc1⟩], rfl, fun z hz => ?_, ?_⟩
  · simp only [List.mem_cons, List.not_mem_nil, or_false] at hz
    rcases hz with rfl | rfl | rfl
    · exact hx
    · exact ht
    · exact hy
  · have h1 := hS.shsNil opF
    have h2 := h1.shsCons (z := ⟨y, ab1, ae2, ac1, cb1, ce2, cc1⟩) (opF_sht _) [4, 1, 4] (by simp only [opF, hb.1, hb.2]; rfl)
    have h3 := h2.shsCons (z := ⟨t, ab1, ae1, ac1, cb1, ce1, cc1⟩) (opF_sht _) [4, 4, 4] rfl
    have h4 := h3.shsCons (z := ⟨x, ab, ae, ac, cb, ce, cc⟩) (opF_sht _) [7, 7, 7] rfl
    exact h4.sel 17 [1, 0, 14] rfl

set_option maxHeartbeats 4000000 in
theorem law_validates {g w : World} {L : List HP} (x o : OpM) (ab ae ac ob oe oc : Option Addr) (cb ce cc db de dc : Nat) (bs : List Int) (a : Option Addr) (c : Nat) (f : Int) (hx : OpT x) (ho : OpT o) (hf : 0 ≤ f ∧ f ≤ 255) (hS : St g (Sh 5 1 (by8 x.bytes) ab cb :: Sh 40 2 (en2 x.ents) ae ce :: Sh 63 4 (ch4 x.chs) ac cc :: Sh 5 1 (by8 o.bytes) ob db :: Sh 40 2 (en2 o.ents) oe de :: Sh 63 4 (ch4 o.chs) oc dc :: Sh 5 1 (by8 bs) a c :: L) w) :
    Sp Try.prog 3 [.agg #[.int .i64 x.code, .int .u64 x.a, .int .u64 x.b, .int .i64 x.key, .int .i64 x.val, .int .i64 x.lo, .int .i64 x.hi, .int .i64 x.n, .bool x.flag, .string x.name, .slice ab (List.length (by8 x.bytes)) cb, .slice ae (List.length (en2 x.ents)) ce, .slice ac (List.length (ch4 x.chs)) cc], .slice a (List.length (by8 bs)) c, .agg #[.int .i64 o.code, .int .u64 o.a, .int .u64 o.b, .int .i64 o.key, .int .i64 o.val, .int .i64 o.lo, .int .i64 o.hi, .int .i64 o.n, .bool o.flag, .string o.name, .slice ob (List.length (by8 o.bytes)) db, .slice oe (List.length (en2 o.ents)) de, .slice oc (List.length (ch4 o.chs)) dc], .int .u8 f] w (fun v w' => v = .bool true ∧ St g (L) w') := by
  refine Sp.enter Try.func3 rfl (by kernel_rfl) (by kernel_rfl) ?_
  have _ := hf
  refine WC.seq ?_
  refine WC.region ?_
  refine WL.box rfl rfl #[.int .i64 x.code, .int .u64 x.a, .int .u64 x.b, .int .i64 x.key, .int .i64 x.val, .int .i64 x.lo, .int .i64 x.hi, .int .i64 x.n, .bool x.flag, .string x.name, .slice ab (List.length (by8 x.bytes)) cb, .slice ae (List.length (en2 x.ents)) ce, .slice ac (List.length (ch4 x.chs)) cc] hS rfl rfl (fun b1 w hS => ?_)
  refine WL.box rfl rfl #[.int .i64 o.code, .int .u64 o.a, .int .u64 o.b, .int .i64 o.key, .int .i64 o.val, .int .i64 o.lo, .int .i64 o.hi, .int .i64 o.n, .bool o.flag, .string o.name, .slice ob (List.length (by8 o.bytes)) db, .slice oe (List.length (en2 o.ents)) de, .slice oc (List.length (ch4 o.chs)) dc] hS rfl rfl (fun b2 w hS => ?_)
  refine WL.r 1 rfl ?_
  refine WL.nil ?_
  refine WC.seq ?_
  refine WC.seq ?_
  refine WC.region ?_
  have hl8 := by8_len bs
  refine WL.ldF rfl rfl 1 hS rfl rfl ag_27 ?_
  refine WL.call rfl rfl (small_spec (x := x) (ab := ab) (ae := ae) (ac := ac) (cb := cb) (ce := ce) (cc := cc)  (hS := hS)) rfl ?_
  rintro _ w ⟨rfl, hS⟩
  replace hS : St g (cel b2 #[.int .i64 o.code, .int .u64 o.a, .int .u64 o.b, .int .i64 o.key, .int .i64 o.val, .int .i64 o.lo, .int .i64 o.hi, .int .i64 o.n, .bool o.flag, .string o.name, .slice ob (List.length (by8 o.bytes)) db, .slice oe (List.length (en2 o.ents)) de, .slice oc (List.length (ch4 o.chs)) dc] 27 :: cel b1 #[.int .i64 x.code, .int .u64 x.a, .int .u64 x.b, .int .i64 x.key, .int .i64 x.val, .int .i64 x.lo, .int .i64 x.hi, .int .i64 x.n, .bool x.flag, .string x.name, .slice ab (List.length (by8 x.bytes)) cb, .slice ae (List.length (en2 x.ents)) ce, .slice ac (List.length (ch4 x.chs)) cc] 27 :: Sh 5 1 (by8 x.bytes) ab cb :: Sh 40 2 (en2 x.ents) ae ce :: Sh 63 4 (ch4 x.chs) ac cc :: Sh 5 1 (by8 o.bytes) ob db :: Sh 40 2 (en2 o.ents) oe de :: Sh 63 4 (ch4 o.chs) oc dc :: Sh 5 1 (by8 bs) a c :: L) w := hS
  refine WL.r 1 rfl ?_
  refine WL.prop 18 rfl (bnot (dd _)) ?_
  refine WL.r 1 rfl ?_
  by_cases cg1 : ¬ (smallOp x)
  · refine WL.reb 19 (.bool true) (congrArg Value.bool (decide_eq_true cg1)) ?_
    refine WL.skp rfl rfl rfl rfl ?_
    refine WL.skp rfl rfl rfl rfl ?_
    refine WL.skp rfl rfl rfl rfl ?_
    refine WL.r 2 rfl ?_
    refine WL.skp rfl rfl rfl rfl ?_
    refine WL.skp rfl rfl rfl rfl ?_
    refine WL.skp rfl rfl rfl rfl ?_
    refine WL.r 1 rfl ?_
    refine WL.nil ?_
    as_aux_lemma =>
      refine WC.ifT rfl rfl ?_
      refine WC.seq ?_
      refine WC.region ?_
      refine WL.call rfl rfl (awake_spec   (hS := hS)) rfl ?_
      rintro _ w ⟨rfl, hS⟩
      replace hS : St g (cel b2 #[.int .i64 o.code, .int .u64 o.a, .int .u64 o.b, .int .i64 o.key, .int .i64 o.val, .int .i64 o.lo, .int .i64 o.hi, .int .i64 o.n, .bool o.flag, .string o.name, .slice ob (List.length (by8 o.bytes)) db, .slice oe (List.length (en2 o.ents)) de, .slice oc (List.length (ch4 o.chs)) dc] 27 :: cel b1 #[.int .i64 x.code, .int .u64 x.a, .int .u64 x.b, .int .i64 x.key, .int .i64 x.val, .int .i64 x.lo, .int .i64 x.hi, .int .i64 x.n, .bool x.flag, .string x.name, .slice ab (List.length (by8 x.bytes)) cb, .slice ae (List.length (en2 x.ents)) ce, .slice ac (List.length (ch4 x.chs)) cc] 27 :: Sh 5 1 (by8 x.bytes) ab cb :: Sh 40 2 (en2 x.ents) ae ce :: Sh 63 4 (ch4 x.chs) ac cc :: Sh 5 1 (by8 o.bytes) ob db :: Sh 40 2 (en2 o.ents) oe de :: Sh 63 4 (ch4 o.chs) oc dc :: Sh 5 1 (by8 bs) a c :: L) w := hS
      refine WL.r 1 rfl ?_
      refine WL.nil ?_
      refine WC.ret ?_
      refine ⟨[.bool true], rfl, ?_⟩
      replace hS := (hS.sel 9 [] rfl)
      exact ⟨rfl, hS⟩
  · refine WL.reb 19 (.bool false) (congrArg Value.bool (decide_eq_false cg1)) ?_
    refine WL.ung rfl rfl rfl ?_
    refine WL.ldF rfl rfl 0 hS rfl rfl ag_27 ?_
    refine WL.ung rfl rfl rfl ?_
    refine WL.call rfl rfl (small_spec (x := o) (ab := ob) (ae := oe) (ac := oc) (cb := db) (ce := de) (cc := dc)  (hS := hS)) rfl ?_
    rintro _ w ⟨rfl, hS⟩
    replace hS : St g (cel b2 #[.int .i64 o.code, .int .u64 o.a, .int .u64 o.b, .int .i64 o.key, .int .i64 o.val, .int .i64 o.lo, .int .i64 o.hi, .int .i64 o.n, .bool o.flag, .string o.name, .slice ob (List.length (by8 o.bytes)) db, .slice oe (List.length (en2 o.ents)) de, .slice oc (List.length (ch4 o.chs)) dc] 27 :: cel b1 #[.int .i64 x.code, .int .u64 x.a, .int .u64 x.b, .int .i64 x.key, .int .i64 x.val, .int .i64 x.lo, .int .i64 x.hi, .int .i64 x.n, .bool x.flag, .string x.name, .slice ab (List.length (by8 x.bytes)) cb, .slice ae (List.length (en2 x.ents)) ce, .slice ac (List.length (ch4 x.chs)) cc] 27 :: Sh 5 1 (by8 x.bytes) ab cb :: Sh 40 2 (en2 x.ents) ae ce :: Sh 63 4 (ch4 x.chs) ac cc :: Sh 5 1 (by8 o.bytes) ob db :: Sh 40 2 (en2 o.ents) oe de :: Sh 63 4 (ch4 o.chs) oc dc :: Sh 5 1 (by8 bs) a c :: L) w := hS
    refine WL.ung rfl rfl rfl ?_
    refine WL.r 1 rfl ?_
    refine WL.prop 22 rfl (bnot (dd _)) ?_
    refine WL.r 2 rfl ?_
    by_cases cg2 : ¬ (smallOp o)
    · refine WL.reb 24 (.bool true) (congrArg Value.bool (decide_eq_true cg2)) ?_
      refine WL.skp rfl rfl rfl rfl ?_
      refine WL.skp rfl rfl rfl rfl ?_
      refine WL.skp rfl rfl rfl rfl ?_
      refine WL.r 1 rfl ?_
      refine WL.nil ?_
      as_aux_lemma =>
        refine WC.ifT rfl rfl ?_
        refine WC.seq ?_
        refine WC.region ?_
        refine WL.call rfl rfl (awake_spec   (hS := hS)) rfl ?_
        rintro _ w ⟨rfl, hS⟩
        replace hS : St g (cel b2 #[.int .i64 o.code, .int .u64 o.a, .int .u64 o.b, .int .i64 o.key, .int .i64 o.val, .int .i64 o.lo, .int .i64 o.hi, .int .i64 o.n, .bool o.flag, .string o.name, .slice ob (List.length (by8 o.bytes)) db, .slice oe (List.length (en2 o.ents)) de, .slice oc (List.length (ch4 o.chs)) dc] 27 :: cel b1 #[.int .i64 x.code, .int .u64 x.a, .int .u64 x.b, .int .i64 x.key, .int .i64 x.val, .int .i64 x.lo, .int .i64 x.hi, .int .i64 x.n, .bool x.flag, .string x.name, .slice ab (List.length (by8 x.bytes)) cb, .slice ae (List.length (en2 x.ents)) ce, .slice ac (List.length (ch4 x.chs)) cc] 27 :: Sh 5 1 (by8 x.bytes) ab cb :: Sh 40 2 (en2 x.ents) ae ce :: Sh 63 4 (ch4 x.chs) ac cc :: Sh 5 1 (by8 o.bytes) ob db :: Sh 40 2 (en2 o.ents) oe de :: Sh 63 4 (ch4 o.chs) oc dc :: Sh 5 1 (by8 bs) a c :: L) w := hS
        refine WL.r 1 rfl ?_
        refine WL.nil ?_
        refine WC.ret ?_
        refine ⟨[.bool true], rfl, ?_⟩
        replace hS := (hS.sel 9 [] rfl)
        exact ⟨rfl, hS⟩
    · refine WL.reb 24 (.bool false) (congrArg Value.bool (decide_eq_false cg2)) ?_
      refine WL.ung rfl rfl rfl ?_
      refine WL.r 1 rfl ?_
      refine WL.ung rfl rfl rfl ?_
      refine WL.r 1 rfl ?_
      refine WL.ung rfl rfl rfl ?_
      refine WL.r 2 rfl ?_
      refine WL.nil ?_
      as_aux_lemma =>
        refine WC.ifP rfl (fun cd1 => ?_) (fun cd1 => ?_)
        · refine WC.seq ?_
          refine WC.region ?_
          refine WL.call rfl rfl (awake_spec   (hS := hS)) rfl ?_
          rintro _ w ⟨rfl, hS⟩
          replace hS : St g (cel b2 #[.int .i64 o.code, .int .u64 o.a, .int .u64 o.b, .int .i64 o.key, .int .i64 o.val, .int .i64 o.lo, .int .i64 o.hi, .int .i64 o.n, .bool o.flag, .string o.name, .slice ob (List.length (by8 o.bytes)) db, .slice oe (List.length (en2 o.ents)) de, .slice oc (List.length (ch4 o.chs)) dc] 27 :: cel b1 #[.int .i64 x.code, .int .u64 x.a, .int .u64 x.b, .int .i64 x.key, .int .i64 x.val, .int .i64 x.lo, .int .i64 x.hi, .int .i64 x.n, .bool x.flag, .string x.name, .slice ab (List.length (by8 x.bytes)) cb, .slice ae (List.length (en2 x.ents)) ce, .slice ac (List.length (ch4 x.chs)) cc] 27 :: Sh 5 1 (by8 x.bytes) ab cb :: Sh 40 2 (en2 x.ents) ae ce :: Sh 63 4 (ch4 x.chs) ac cc :: Sh 5 1 (by8 o.bytes) ob db :: Sh 40 2 (en2 o.ents) oe de :: Sh 63 4 (ch4 o.chs) oc dc :: Sh 5 1 (by8 bs) a c :: L) w := hS
          refine WL.r 1 rfl ?_
          refine WL.nil ?_
          refine WC.ret ?_
          refine ⟨[.bool true], rfl, ?_⟩
          replace hS := (hS.sel 9 [] rfl)
          exact ⟨rfl, hS⟩
        · refine WC.skip ?_
          refine WC.seq ?_
          refine WC.region ?_
          have hs := Classical.not_not.1 cg1; have hs2 := Classical.not_not.1 cg2; have hT := tidy_T hx; have hTf := tidy_few hs
          refine WL.ldF rfl rfl 1 hS rfl rfl ag_27 ?_
          refine WL.call rfl rfl (tidy_spec (x := x) (ab := ab) (ae := ae) (ac := ac) (cb := cb) (ce := ce) (cc := cc) (hw := (by assumption)) (hs := (by assumption)) (hS := (hS.sel 9 [2, 2, 2, 0, 0, 0, 0, 0, 0] rfl))) rfl ?_
          rintro _ w ⟨ab1, ae1, ac1, cb1, ce1, cc1, rfl, hS⟩
          replace hS : St g (Sh 5 1 (by8 (tidy x).bytes) ab1 cb1 :: Sh 40 2 (en2 (tidy x).ents) ae1 ce1 :: Sh 63 4 (ch4 (tidy x).chs) ac1 cc1 :: Sh 5 1 (by8 x.bytes) ab cb :: Sh 40 2 (en2 x.ents) ae ce :: Sh 63 4 (ch4 x.chs) ac cc :: cel b2 #[.int .i64 o.code, .int .u64 o.a, .int .u64 o.b, .int .i64 o.key, .int .i64 o.val, .int .i64 o.lo, .int .i64 o.hi, .int .i64 o.n, .bool o.flag, .string o.name, .slice ob (List.length (by8 o.bytes)) db, .slice oe (List.length (en2 o.ents)) de, .slice oc (List.length (ch4 o.chs)) dc] 27 :: cel b1 #[.int .i64 x.code, .int .u64 x.a, .int .u64 x.b, .int .i64 x.key, .int .i64 x.val, .int .i64 x.lo, .int .i64 x.hi, .int .i64 x.n, .bool x.flag, .string x.name, .slice ab (List.length (by8 x.bytes)) cb, .slice ae (List.length (en2 x.ents)) ce, .slice ac (List.length (ch4 x.chs)) cc] 27 :: Sh 5 1 (by8 o.bytes) ob db :: Sh 40 2 (en2 o.ents) oe de :: Sh 63 4 (ch4 o.chs) oc dc :: Sh 5 1 (by8 bs) a c :: L) w := hS
          refine WL.new rfl rfl zv_27 hS (fun b3 w hS => ?_)
          refine WL.stF rfl rfl rfl 0 hS rfl rfl rfl rfl rfl ag_27 (fun w hS => ?_)
          replace hS : St g (cel b3 #[.int .i64 (tidy x).code, .int .u64 (tidy x).a, .int .u64 (tidy x).b, .int .i64 (tidy x).key, .int .i64 (tidy x).val, .int .i64 (tidy x).lo, .int .i64 (tidy x).hi, .int .i64 (tidy x).n, .bool (tidy x).flag, .string (tidy x).name, .slice ab1 (List.length (by8 (tidy x).bytes)) cb1, .slice ae1 (List.length (en2 (tidy x).ents)) ce1, .slice ac1 (List.length (ch4 (tidy x).chs)) cc1] 27 :: Sh 5 1 (by8 (tidy x).bytes) ab1 cb1 :: Sh 40 2 (en2 (tidy x).ents) ae1 ce1 :: Sh 63 4 (ch4 (tidy x).chs) ac1 cc1 :: Sh 5 1 (by8 x.bytes) ab cb :: Sh 40 2 (en2 x.ents) ae ce :: Sh 63 4 (ch4 x.chs) ac cc :: cel b2 #[.int .i64 o.code, .int .u64 o.a, .int .u64 o.b, .int .i64 o.key, .int .i64 o.val, .int .i64 o.lo, .int .i64 o.hi, .int .i64 o.n, .bool o.flag, .string o.name, .slice ob (List.length (by8 o.bytes)) db, .slice oe (List.length (en2 o.ents)) de, .slice oc (List.length (ch4 o.chs)) dc] 27 :: cel b1 #[.int .i64 x.code, .int .u64 x.a, .int .u64 x.b, .int .i64 x.key, .int .i64 x.val, .int .i64 x.lo, .int .i64 x.hi, .int .i64 x.n, .bool x.flag, .string x.name, .slice ab (List.length (by8 x.bytes)) cb, .slice ae (List.length (en2 x.ents)) ce, .slice ac (List.length (ch4 x.chs)) cc] 27 :: Sh 5 1 (by8 o.bytes) ob db :: Sh 40 2 (en2 o.ents) oe de :: Sh 63 4 (ch4 o.chs) oc dc :: Sh 5 1 (by8 bs) a c :: L) w := hS
          refine WL.nil ?_
          refine WC.seq ?_
          refine WC.region ?_
          refine WL.ldF rfl rfl 0 hS rfl rfl ag_27 ?_
          refine WL.new rfl rfl zv_27 hS (fun b4 w hS => ?_)
          refine WL.stF rfl rfl rfl 0 hS rfl rfl rfl rfl rfl ag_27 (fun w hS => ?_)
          replace hS : St g (cel b4 #[.int .i64 (tidy x).code, .int .u64 (tidy x).a, .int .u64 (tidy x).b, .int .i64 (tidy x).key, .int .i64 (tidy x).val, .int .i64 (tidy x).lo, .int .i64 (tidy x).hi, .int .i64 (tidy x).n, .bool (tidy x).flag, .string (tidy x).name, .slice ab1 (List.length (by8 (tidy x).bytes)) cb1, .slice ae1 (List.length (en2 (tidy x).ents)) ce1, .slice ac1 (List.length (ch4 (tidy x).chs)) cc1] 27 :: cel b3 #[.int .i64 (tidy x).code, .int .u64 (tidy x).a, .int .u64 (tidy x).b, .int .i64 (tidy x).key, .int .i64 (tidy x).val, .int .i64 (tidy x).lo, .int .i64 (tidy x).hi, .int .i64 (tidy x).n, .bool (tidy x).flag, .string (tidy x).name, .slice ab1 (List.length (by8 (tidy x).bytes)) cb1, .slice ae1 (List.length (en2 (tidy x).ents)) ce1, .slice ac1 (List.length (ch4 (tidy x).chs)) cc1] 27 :: Sh 5 1 (by8 (tidy x).bytes) ab1 cb1 :: Sh 40 2 (en2 (tidy x).ents) ae1 ce1 :: Sh 63 4 (ch4 (tidy x).chs) ac1 cc1 :: Sh 5 1 (by8 x.bytes) ab cb :: Sh 40 2 (en2 x.ents) ae ce :: Sh 63 4 (ch4 x.chs) ac cc :: cel b2 #[.int .i64 o.code, .int .u64 o.a, .int .u64 o.b, .int .i64 o.key, .int .i64 o.val, .int .i64 o.lo, .int .i64 o.hi, .int .i64 o.n, .bool o.flag, .string o.name, .slice ob (List.length (by8 o.bytes)) db, .slice oe (List.length (en2 o.ents)) de, .slice oc (List.length (ch4 o.chs)) dc] 27 :: cel b1 #[.int .i64 x.code, .int .u64 x.a, .int .u64 x.b, .int .i64 x.key, .int .i64 x.val, .int .i64 x.lo, .int .i64 x.hi, .int .i64 x.n, .bool x.flag, .string x.name, .slice ab (List.length (by8 x.bytes)) cb, .slice ae (List.length (en2 x.ents)) ce, .slice ac (List.length (ch4 x.chs)) cc] 27 :: Sh 5 1 (by8 o.bytes) ob db :: Sh 40 2 (en2 o.ents) oe de :: Sh 63 4 (ch4 o.chs) oc dc :: Sh 5 1 (by8 bs) a c :: L) w := hS
          refine WL.nil ?_
          refine WC.seq ?_
          refine WC.seq ?_
          refine WC.region ?_
          replace hS : St g (Sh 40 2 (en2 (tidy x).ents) ae1 ce1 :: cel b4 #[.int .i64 (tidy x).code, .int .u64 (tidy x).a, .int .u64 (tidy x).b, .int .i64 (tidy x).key, .int .i64 (tidy x).val, .int .i64 (tidy x).lo, .int .i64 (tidy x).hi, .int .i64 (tidy x).n, .bool (tidy x).flag, .string (tidy x).name, .slice ab1 (List.length (by8 (tidy x).bytes)) cb1, .slice ae1 (List.length (en2 (tidy x).ents)) ce1, .slice ac1 (List.length (ch4 (tidy x).chs)) cc1] 27 :: cel b3 #[.int .i64 (tidy x).code, .int .u64 (tidy x).a, .int .u64 (tidy x).b, .int .i64 (tidy x).key, .int .i64 (tidy x).val, .int .i64 (tidy x).lo, .int .i64 (tidy x).hi, .int .i64 (tidy x).n, .bool (tidy x).flag, .string (tidy x).name, .slice ab1 (List.length (by8 (tidy x).bytes)) cb1, .slice ae1 (List.length (en2 (tidy x).ents)) ce1, .slice ac1 (List.length (ch4 (tidy x).chs)) cc1] 27 :: Sh 5 1 (by8 (tidy x).bytes) ab1 cb1 :: Sh 40 2 (en2 (tidy x).ents) ae1 ce1 :: Sh 63 4 (ch4 (tidy x).chs) ac1 cc1 :: Sh 5 1 (by8 x.bytes) ab cb :: Sh 40 2 (en2 x.ents) ae ce :: Sh 63 4 (ch4 x.chs) ac cc :: cel b2 #[.int .i64 o.code, .int .u64 o.a, .int .u64 o.b, .int .i64 o.key, .int .i64 o.val, .int .i64 o.lo, .int .i64 o.hi, .int .i64 o.n, .bool o.flag, .string o.name, .slice ob (List.length (by8 o.bytes)) db, .slice oe (List.length (en2 o.ents)) de, .slice oc (List.length (ch4 o.chs)) dc] 27 :: cel b1 #[.int .i64 x.code, .int .u64 x.a, .int .u64 x.b, .int .i64 x.key, .int .i64 x.val, .int .i64 x.lo, .int .i64 x.hi, .int .i64 x.n, .bool x.flag, .string x.name, .slice ab (List.length (by8 x.bytes)) cb, .slice ae (List.length (en2 x.ents)) ce, .slice ac (List.length (ch4 x.chs)) cc] 27 :: Sh 5 1 (by8 o.bytes) ob db :: Sh 40 2 (en2 o.ents) oe de :: Sh 63 4 (ch4 o.chs) oc dc :: Sh 5 1 (by8 bs) a c :: L) w := hS.dup 3 rfl fun _ _ h => Sh.dup h
          refine WL.r 2 rfl ?_
          refine WL.reb 34 (.int .u8 (f % 6)) (congrArg (Value.int .u8) (Int.tmod_eq_emod_of_nonneg (a := f) (by omega))) ?_
          refine WL.nil ?_
          as_aux_lemma =>
            refine WC.cut [1, 4, 8, 9, 10] (fun vs w => ∃ (y : OpM) (ae2 : Option Addr) (ce2 : Nat), vs = [.slice a (List.length (by8 bs)) c, .pointer (some ⟨b1, 0, none⟩), .bool false, .pointer (some ⟨b3, 0, none⟩), .pointer (some ⟨b4, 0, none⟩)] ∧ St g (Sh 40 2 (en2 y.ents) ae2 ce2 :: cel b4 #[.int .i64 y.code, .int .u64 y.a, .int .u64 y.b, .int .i64 y.key, .int .i64 y.val, .int .i64 y.lo, .int .i64 y.hi, .int .i64 y.n, .bool y.flag, .string y.name, .slice ab1 (List.length (by8 y.bytes)) cb1, .slice ae2 (List.length (en2 y.ents)) ce2, .slice ac1 (List.length (ch4 y.chs)) cc1] 27 :: cel b3 #[.int .i64 (tidy x).code, .int .u64 (tidy x).a, .int .u64 (tidy x).b, .int .i64 (tidy x).key, .int .i64 (tidy x).val, .int .i64 (tidy x).lo, .int .i64 (tidy x).hi, .int .i64 (tidy x).n, .bool (tidy x).flag, .string (tidy x).name, .slice ab1 (List.length (by8 (tidy x).bytes)) cb1, .slice ae1 (List.length (en2 (tidy x).ents)) ce1, .slice ac1 (List.length (ch4 (tidy x).chs)) cc1] 27 :: Sh 5 1 (by8 (tidy x).bytes) ab1 cb1 :: Sh 40 2 (en2 (tidy x).ents) ae1 ce1 :: Sh 63 4 (ch4 (tidy x).chs) ac1 cc1 :: Sh 5 1 (by8 x.bytes) ab cb :: Sh 40 2 (en2 x.ents) ae ce :: Sh 63 4 (ch4 x.chs) ac cc :: cel b2 #[.int .i64 o.code, .int .u64 o.a, .int .u64 o.b, .int .i64 o.key, .int .i64 o.val, .int .i64 o.lo, .int .i64 o.hi, .int .i64 o.n, .bool o.flag, .string o.name, .slice ob (List.length (by8 o.bytes)) db, .slice oe (List.length (en2 o.ents)) de, .slice oc (List.length (ch4 o.chs)) dc] 27 :: cel b1 #[.int .i64 x.code, .int .u64 x.a, .int .u64 x.b, .int .i64 x.key, .int .i64 x.val, .int .i64 x.lo, .int .i64 x.hi, .int .i64 x.n, .bool x.flag, .string x.name, .slice ab (List.length (by8 x.bytes)) cb, .slice ae (List.length (en2 x.ents)) ce, .slice ac (List.length (ch4 x.chs)) cc] 27 :: Sh 5 1 (by8 o.bytes) ob db :: Sh 40 2 (en2 o.ents) oe de :: Sh 63 4 (ch4 o.chs) oc dc :: Sh 5 1 (by8 bs) a c :: L) w ∧ (OpT y ∧ fewOp y) ∧ (y.bytes = (tidy x).bytes ∧ y.chs = (tidy x).chs)) ?_ ?_
            · refine WC.block ?_
              refine WC.seq ?_
              refine WC.region ?_
              refine WL.r 2 rfl ?_
              refine WL.nil ?_
              refine WC.ifP rfl (fun cd2 => ?_) (fun cd2 => ?_)
              · refine WC.region ?_
                refine WL.run 3 [.int .u64 o.b] rfl (by exact hS.ld 9 rfl rfl) ?_
                refine WL.st rfl rfl rfl 1 hS rfl rfl rfl rfl rfl rfl (fun w hS => ?_)
                replace hS : St g (Sh 40 2 (en2 (tidy x).ents) ae1 ce1 :: cel b4 #[.int .i64 (tidy x).code, .int .u64 (tidy x).a, .int .u64 o.b, .int .i64 (tidy x).key, .int .i64 (tidy x).val, .int .i64 (tidy x).lo, .int .i64 (tidy x).hi, .int .i64 (tidy x).n, .bool (tidy x).flag, .string (tidy x).name, .slice ab1 (List.length (by8 (tidy x).bytes)) cb1, .slice ae1 (List.length (en2 (tidy x).ents)) ce1, .slice ac1 (List.length (ch4 (tidy x).chs)) cc1] 27 :: cel b3 #[.int .i64 (tidy x).code, .int .u64 (tidy x).a, .int .u64 (tidy x).b, .int .i64 (tidy x).key, .int .i64 (tidy x).val, .int .i64 (tidy x).lo, .int .i64 (tidy x).hi, .int .i64 (tidy x).n, .bool (tidy x).flag, .string (tidy x).name, .slice ab1 (List.length (by8 (tidy x).bytes)) cb1, .slice ae1 (List.length (en2 (tidy x).ents)) ce1, .slice ac1 (List.length (ch4 (tidy x).chs)) cc1] 27 :: Sh 5 1 (by8 (tidy x).bytes) ab1 cb1 :: Sh 40 2 (en2 (tidy x).ents) ae1 ce1 :: Sh 63 4 (ch4 (tidy x).chs) ac1 cc1 :: Sh 5 1 (by8 x.bytes) ab cb :: Sh 40 2 (en2 x.ents) ae ce :: Sh 63 4 (ch4 x.chs) ac cc :: cel b2 #[.int .i64 o.code, .int .u64 o.a, .int .u64 o.b, .int .i64 o.key, .int .i64 o.val, .int .i64 o.lo, .int .i64 o.hi, .int .i64 o.n, .bool o.flag, .string o.name, .slice ob (List.length (by8 o.bytes)) db, .slice oe (List.length (en2 o.ents)) de, .slice oc (List.length (ch4 o.chs)) dc] 27 :: cel b1 #[.int .i64 x.code, .int .u64 x.a, .int .u64 x.b, .int .i64 x.key, .int .i64 x.val, .int .i64 x.lo, .int .i64 x.hi, .int .i64 x.n, .bool x.flag, .string x.name, .slice ab (List.length (by8 x.bytes)) cb, .slice ae (List.length (en2 x.ents)) ce, .slice ac (List.length (ch4 x.chs)) cc] 27 :: Sh 5 1 (by8 o.bytes) ob db :: Sh 40 2 (en2 o.ents) oe de :: Sh 63 4 (ch4 o.chs) oc dc :: Sh 5 1 (by8 bs) a c :: L) w := hS
                refine WL.nil ?_
                exact ⟨{ tidy x with b := o.b }, ae1, ce1, rfl, hS, (⟨⟨⟨hT.w.a, ho.w.b, hT.w.key, hT.w.val, hT.w.lo, hT.w.hi, hT.w.ents, hT.w.chs⟩, hT.code, hT.n, hT.by_⟩, hTf⟩), (⟨rfl, rfl⟩)⟩
              · refine WC.seq ?_
                refine WC.region ?_
                refine WL.r 2 rfl ?_
                refine WL.nil ?_
                refine WC.ifP rfl (fun cd3 => ?_) (fun cd3 => ?_)
                · refine WC.region ?_
                  refine WL.run 3 [.int .i64 o.n] rfl (by exact hS.ld 9 rfl rfl) ?_
                  refine WL.st rfl rfl rfl 1 hS rfl rfl rfl rfl rfl rfl (fun w hS => ?_)
                  replace hS : St g (Sh 40 2 (en2 (tidy x).ents) ae1 ce1 :: cel b4 #[.int .i64 (tidy x).code, .int .u64 (tidy x).a, .int .u64 (tidy x).b, .int .i64 (tidy x).key, .int .i64 (tidy x).val, .int .i64 (tidy x).lo, .int .i64 (tidy x).hi, .int .i64 o.n, .bool (tidy x).flag, .string (tidy x).name, .slice ab1 (List.length (by8 (tidy x).bytes)) cb1, .slice ae1 (List.length (en2 (tidy x).ents)) ce1, .slice ac1 (List.length (ch4 (tidy x).chs)) cc1] 27 :: cel b3 #[.int .i64 (tidy x).code, .int .u64 (tidy x).a, .int .u64 (tidy x).b, .int .i64 (tidy x).key, .int .i64 (tidy x).val, .int .i64 (tidy x).lo, .int .i64 (tidy x).hi, .int .i64 (tidy x).n, .bool (tidy x).flag, .string (tidy x).name, .slice ab1 (List.length (by8 (tidy x).bytes)) cb1, .slice ae1 (List.length (en2 (tidy x).ents)) ce1, .slice ac1 (List.length (ch4 (tidy x).chs)) cc1] 27 :: Sh 5 1 (by8 (tidy x).bytes) ab1 cb1 :: Sh 40 2 (en2 (tidy x).ents) ae1 ce1 :: Sh 63 4 (ch4 (tidy x).chs) ac1 cc1 :: Sh 5 1 (by8 x.bytes) ab cb :: Sh 40 2 (en2 x.ents) ae ce :: Sh 63 4 (ch4 x.chs) ac cc :: cel b2 #[.int .i64 o.code, .int .u64 o.a, .int .u64 o.b, .int .i64 o.key, .int .i64 o.val, .int .i64 o.lo, .int .i64 o.hi, .int .i64 o.n, .bool o.flag, .string o.name, .slice ob (List.length (by8 o.bytes)) db, .slice oe (List.length (en2 o.ents)) de, .slice oc (List.length (ch4 o.chs)) dc] 27 :: cel b1 #[.int .i64 x.code, .int .u64 x.a, .int .u64 x.b, .int .i64 x.key, .int .i64 x.val, .int .i64 x.lo, .int .i64 x.hi, .int .i64 x.n, .bool x.flag, .string x.name, .slice ab (List.length (by8 x.bytes)) cb, .slice ae (List.length (en2 x.ents)) ce, .slice ac (List.length (ch4 x.chs)) cc] 27 :: Sh 5 1 (by8 o.bytes) ob db :: Sh 40 2 (en2 o.ents) oe de :: Sh 63 4 (ch4 o.chs) oc dc :: Sh 5 1 (by8 bs) a c :: L) w := hS
                  refine WL.nil ?_
                  exact ⟨{ tidy x with n := o.n }, ae1, ce1, rfl, hS, (⟨⟨⟨hT.w.a, hT.w.b, hT.w.key, hT.w.val, hT.w.lo, hT.w.hi, hT.w.ents, hT.w.chs⟩, hT.code, ho.n, hT.by_⟩, hTf⟩), (⟨rfl, rfl⟩)⟩
                · refine WC.seq ?_
                  refine WC.region ?_
                  refine WL.r 2 rfl ?_
                  refine WL.nil ?_
                  refine WC.ifP rfl (fun cd4 => ?_) (fun cd4 => ?_)
                  · refine WC.region ?_
                    refine WL.r 1 rfl ?_
                    refine WL.st rfl rfl rfl 1 hS rfl rfl rfl rfl rfl rfl (fun w hS => ?_)
                    replace hS : St g (Sh 40 2 (en2 (tidy x).ents) ae1 ce1 :: cel b4 #[.int .i64 (tidy x).code, .int .u64 (tidy x).a, .int .u64 (tidy x).b, .int .i64 (tidy x).key, .int .i64 (tidy x).val, .int .i64 (tidy x).lo, .int .i64 (tidy x).hi, .int .i64 (tidy x).n, .bool true, .string (tidy x).name, .slice ab1 (List.length (by8 (tidy x).bytes)) cb1, .slice ae1 (List.length (en2 (tidy x).ents)) ce1, .slice ac1 (List.length (ch4 (tidy x).chs)) cc1] 27 :: cel b3 #[.int .i64 (tidy x).code, .int .u64 (tidy x).a, .int .u64 (tidy x).b, .int .i64 (tidy x).key, .int .i64 (tidy x).val, .int .i64 (tidy x).lo, .int .i64 (tidy x).hi, .int .i64 (tidy x).n, .bool (tidy x).flag, .string (tidy x).name, .slice ab1 (List.length (by8 (tidy x).bytes)) cb1, .slice ae1 (List.length (en2 (tidy x).ents)) ce1, .slice ac1 (List.length (ch4 (tidy x).chs)) cc1] 27 :: Sh 5 1 (by8 (tidy x).bytes) ab1 cb1 :: Sh 40 2 (en2 (tidy x).ents) ae1 ce1 :: Sh 63 4 (ch4 (tidy x).chs) ac1 cc1 :: Sh 5 1 (by8 x.bytes) ab cb :: Sh 40 2 (en2 x.ents) ae ce :: Sh 63 4 (ch4 x.chs) ac cc :: cel b2 #[.int .i64 o.code, .int .u64 o.a, .int .u64 o.b, .int .i64 o.key, .int .i64 o.val, .int .i64 o.lo, .int .i64 o.hi, .int .i64 o.n, .bool o.flag, .string o.name, .slice ob (List.length (by8 o.bytes)) db, .slice oe (List.length (en2 o.ents)) de, .slice oc (List.length (ch4 o.chs)) dc] 27 :: cel b1 #[.int .i64 x.code, .int .u64 x.a, .int .u64 x.b, .int .i64 x.key, .int .i64 x.val, .int .i64 x.lo, .int .i64 x.hi, .int .i64 x.n, .bool x.flag, .string x.name, .slice ab (List.length (by8 x.bytes)) cb, .slice ae (List.length (en2 x.ents)) ce, .slice ac (List.length (ch4 x.chs)) cc] 27 :: Sh 5 1 (by8 o.bytes) ob db :: Sh 40 2 (en2 o.ents) oe de :: Sh 63 4 (ch4 o.chs) oc dc :: Sh 5 1 (by8 bs) a c :: L) w := hS
                    refine WL.nil ?_
                    exact ⟨{ tidy x with flag := true }, ae1, ce1, rfl, hS, (⟨⟨⟨hT.w.a, hT.w.b, hT.w.key, hT.w.val, hT.w.lo, hT.w.hi, hT.w.ents, hT.w.chs⟩, hT.code, hT.n, hT.by_⟩, hTf⟩), (⟨rfl, rfl⟩)⟩
                  · refine WC.seq ?_
                    refine WC.region ?_
                    refine WL.r 2 rfl ?_
                    refine WL.nil ?_
                    refine WC.ifP rfl (fun cd5 => ?_) (fun cd5 => ?_)
                    · refine WC.region ?_
                      refine WL.run 3 [.string o.name] rfl (by exact hS.ld 9 rfl rfl) ?_
                      refine WL.st rfl rfl rfl 1 hS rfl rfl rfl rfl rfl rfl (fun w hS => ?_)
                      replace hS : St g (Sh 40 2 (en2 (tidy x).ents) ae1 ce1 :: cel b4 #[.int .i64 (tidy x).code, .int .u64 (tidy x).a, .int .u64 (tidy x).b, .int .i64 (tidy x).key, .int .i64 (tidy x).val, .int .i64 (tidy x).lo, .int .i64 (tidy x).hi, .int .i64 (tidy x).n, .bool (tidy x).flag, .string o.name, .slice ab1 (List.length (by8 (tidy x).bytes)) cb1, .slice ae1 (List.length (en2 (tidy x).ents)) ce1, .slice ac1 (List.length (ch4 (tidy x).chs)) cc1] 27 :: cel b3 #[.int .i64 (tidy x).code, .int .u64 (tidy x).a, .int .u64 (tidy x).b, .int .i64 (tidy x).key, .int .i64 (tidy x).val, .int .i64 (tidy x).lo, .int .i64 (tidy x).hi, .int .i64 (tidy x).n, .bool (tidy x).flag, .string (tidy x).name, .slice ab1 (List.length (by8 (tidy x).bytes)) cb1, .slice ae1 (List.length (en2 (tidy x).ents)) ce1, .slice ac1 (List.length (ch4 (tidy x).chs)) cc1] 27 :: Sh 5 1 (by8 (tidy x).bytes) ab1 cb1 :: Sh 40 2 (en2 (tidy x).ents) ae1 ce1 :: Sh 63 4 (ch4 (tidy x).chs) ac1 cc1 :: Sh 5 1 (by8 x.bytes) ab cb :: Sh 40 2 (en2 x.ents) ae ce :: Sh 63 4 (ch4 x.chs) ac cc :: cel b2 #[.int .i64 o.code, .int .u64 o.a, .int .u64 o.b, .int .i64 o.key, .int .i64 o.val, .int .i64 o.lo, .int .i64 o.hi, .int .i64 o.n, .bool o.flag, .string o.name, .slice ob (List.length (by8 o.bytes)) db, .slice oe (List.length (en2 o.ents)) de, .slice oc (List.length (ch4 o.chs)) dc] 27 :: cel b1 #[.int .i64 x.code, .int .u64 x.a, .int .u64 x.b, .int .i64 x.key, .int .i64 x.val, .int .i64 x.lo, .int .i64 x.hi, .int .i64 x.n, .bool x.flag, .string x.name, .slice ab (List.length (by8 x.bytes)) cb, .slice ae (List.length (en2 x.ents)) ce, .slice ac (List.length (ch4 x.chs)) cc] 27 :: Sh 5 1 (by8 o.bytes) ob db :: Sh 40 2 (en2 o.ents) oe de :: Sh 63 4 (ch4 o.chs) oc dc :: Sh 5 1 (by8 bs) a c :: L) w := hS
                      refine WL.nil ?_
                      exact ⟨{ tidy x with name := o.name }, ae1, ce1, rfl, hS, (⟨⟨⟨hT.w.a, hT.w.b, hT.w.key, hT.w.val, hT.w.lo, hT.w.hi, hT.w.ents, hT.w.chs⟩, hT.code, hT.n, hT.by_⟩, hTf⟩), (⟨rfl, rfl⟩)⟩
                    · refine WC.seq ?_
                      refine WC.region ?_
                      refine WL.r 2 rfl ?_
                      refine WL.nil ?_
                      as_aux_lemma =>
                        refine WC.ifP rfl (fun cd6 => ?_) (fun cd6 => ?_)
                        · refine WC.region ?_
                          replace hS : St g (Sh 40 2 (en2 o.ents) oe de :: Sh 40 2 (en2 (tidy x).ents) ae1 ce1 :: cel b4 #[.int .i64 (tidy x).code, .int .u64 (tidy x).a, .int .u64 (tidy x).b, .int .i64 (tidy x).key, .int .i64 (tidy x).val, .int .i64 (tidy x).lo, .int .i64 (tidy x).hi, .int .i64 (tidy x).n, .bool (tidy x).flag, .string (tidy x).name, .slice ab1 (List.length (by8 (tidy x).bytes)) cb1, .slice ae1 (List.length (en2 (tidy x).ents)) ce1, .slice ac1 (List.length (ch4 (tidy x).chs)) cc1] 27 :: cel b3 #[.int .i64 (tidy x).code, .int .u64 (tidy x).a, .int .u64 (tidy x).b, .int .i64 (tidy x).key, .int .i64 (tidy x).val, .int .i64 (tidy x).lo, .int .i64 (tidy x).hi, .int .i64 (tidy x).n, .bool (tidy x).flag, .string (tidy x).name, .slice ab1 (List.length (by8 (tidy x).bytes)) cb1, .slice ae1 (List.length (en2 (tidy x).ents)) ce1, .slice ac1 (List.length (ch4 (tidy x).chs)) cc1] 27 :: Sh 5 1 (by8 (tidy x).bytes) ab1 cb1 :: Sh 40 2 (en2 (tidy x).ents) ae1 ce1 :: Sh 63 4 (ch4 (tidy x).chs) ac1 cc1 :: Sh 5 1 (by8 x.bytes) ab cb :: Sh 40 2 (en2 x.ents) ae ce :: Sh 63 4 (ch4 x.chs) ac cc :: cel b2 #[.int .i64 o.code, .int .u64 o.a, .int .u64 o.b, .int .i64 o.key, .int .i64 o.val, .int .i64 o.lo, .int .i64 o.hi, .int .i64 o.n, .bool o.flag, .string o.name, .slice ob (List.length (by8 o.bytes)) db, .slice oe (List.length (en2 o.ents)) de, .slice oc (List.length (ch4 o.chs)) dc] 27 :: cel b1 #[.int .i64 x.code, .int .u64 x.a, .int .u64 x.b, .int .i64 x.key, .int .i64 x.val, .int .i64 x.lo, .int .i64 x.hi, .int .i64 x.n, .bool x.flag, .string x.name, .slice ab (List.length (by8 x.bytes)) cb, .slice ae (List.length (en2 x.ents)) ce, .slice ac (List.length (ch4 x.chs)) cc] 27 :: Sh 5 1 (by8 o.bytes) ob db :: Sh 40 2 (en2 o.ents) oe de :: Sh 63 4 (ch4 o.chs) oc dc :: Sh 5 1 (by8 bs) a c :: L) w := hS.dup 12 rfl fun _ _ h => Sh.dup h
                          refine WL.run 3 [.slice oe (List.length (en2 o.ents)) de] rfl (by exact hS.ld 10 rfl rfl) ?_
                          refine WL.st rfl rfl rfl 2 hS rfl rfl rfl rfl rfl rfl (fun w hS => ?_)
                          replace hS : St g (Sh 40 2 (en2 o.ents) oe de :: Sh 40 2 (en2 (tidy x).ents) ae1 ce1 :: cel b4 #[.int .i64 (tidy x).code, .int .u64 (tidy x).a, .int .u64 (tidy x).b, .int .i64 (tidy x).key, .int .i64 (tidy x).val, .int .i64 (tidy x).lo, .int .i64 (tidy x).hi, .int .i64 (tidy x).n, .bool (tidy x).flag, .string (tidy x).name, .slice ab1 (List.length (by8 (tidy x).bytes)) cb1, .slice oe (List.length (en2 o.ents)) de, .slice ac1 (List.length (ch4 (tidy x).chs)) cc1] 27 :: cel b3 #[.int .i64 (tidy x).code, .int .u64 (tidy x).a, .int .u64 (tidy x).b, .int .i64 (tidy x).key, .int .i64 (tidy x).val, .int .i64 (tidy x).lo, .int .i64 (tidy x).hi, .int .i64 (tidy x).n, .bool (tidy x).flag, .string (tidy x).name, .slice ab1 (List.length (by8 (tidy x).bytes)) cb1, .slice ae1 (List.length (en2 (tidy x).ents)) ce1, .slice ac1 (List.length (ch4 (tidy x).chs)) cc1] 27 :: Sh 5 1 (by8 (tidy x).bytes) ab1 cb1 :: Sh 40 2 (en2 (tidy x).ents) ae1 ce1 :: Sh 63 4 (ch4 (tidy x).chs) ac1 cc1 :: Sh 5 1 (by8 x.bytes) ab cb :: Sh 40 2 (en2 x.ents) ae ce :: Sh 63 4 (ch4 x.chs) ac cc :: cel b2 #[.int .i64 o.code, .int .u64 o.a, .int .u64 o.b, .int .i64 o.key, .int .i64 o.val, .int .i64 o.lo, .int .i64 o.hi, .int .i64 o.n, .bool o.flag, .string o.name, .slice ob (List.length (by8 o.bytes)) db, .slice oe (List.length (en2 o.ents)) de, .slice oc (List.length (ch4 o.chs)) dc] 27 :: cel b1 #[.int .i64 x.code, .int .u64 x.a, .int .u64 x.b, .int .i64 x.key, .int .i64 x.val, .int .i64 x.lo, .int .i64 x.hi, .int .i64 x.n, .bool x.flag, .string x.name, .slice ab (List.length (by8 x.bytes)) cb, .slice ae (List.length (en2 x.ents)) ce, .slice ac (List.length (ch4 x.chs)) cc] 27 :: Sh 5 1 (by8 o.bytes) ob db :: Sh 40 2 (en2 o.ents) oe de :: Sh 63 4 (ch4 o.chs) oc dc :: Sh 5 1 (by8 bs) a c :: L) w := hS
                          refine WL.nil ?_
                          exact ⟨{ tidy x with ents := o.ents }, oe, de, rfl, (hS.sel 16 [0, 1, 1, 1, 0, 1, 1, 1, 1, 1, 1, 1, 1, 1, 1] rfl), (⟨⟨⟨hT.w.a, hT.w.b, hT.w.key, hT.w.val, hT.w.lo, hT.w.hi, ho.w.ents, hT.w.chs⟩, hT.code, hT.n, hT.by_⟩, ⟨hs2.2.2.1, hTf.2⟩⟩), (⟨rfl, rfl⟩)⟩
                        · refine WC.region ?_
                          refine WL.run 3 [.int .i64 o.code] rfl (by exact hS.ld 9 rfl rfl) ?_
                          refine WL.st rfl rfl rfl 1 hS rfl rfl rfl rfl rfl rfl (fun w hS => ?_)
                          replace hS : St g (Sh 40 2 (en2 (tidy x).ents) ae1 ce1 :: cel b4 #[.int .i64 o.code, .int .u64 (tidy x).a, .int .u64 (tidy x).b, .int .i64 (tidy x).key, .int .i64 (tidy x).val, .int .i64 (tidy x).lo, .int .i64 (tidy x).hi, .int .i64 (tidy x).n, .bool (tidy x).flag, .string (tidy x).name, .slice ab1 (List.length (by8 (tidy x).bytes)) cb1, .slice ae1 (List.length (en2 (tidy x).ents)) ce1, .slice ac1 (List.length (ch4 (tidy x).chs)) cc1] 27 :: cel b3 #[.int .i64 (tidy x).code, .int .u64 (tidy x).a, .int .u64 (tidy x).b, .int .i64 (tidy x).key, .int .i64 (tidy x).val, .int .i64 (tidy x).lo, .int .i64 (tidy x).hi, .int .i64 (tidy x).n, .bool (tidy x).flag, .string (tidy x).name, .slice ab1 (List.length (by8 (tidy x).bytes)) cb1, .slice ae1 (List.length (en2 (tidy x).ents)) ce1, .slice ac1 (List.length (ch4 (tidy x).chs)) cc1] 27 :: Sh 5 1 (by8 (tidy x).bytes) ab1 cb1 :: Sh 40 2 (en2 (tidy x).ents) ae1 ce1 :: Sh 63 4 (ch4 (tidy x).chs) ac1 cc1 :: Sh 5 1 (by8 x.bytes) ab cb :: Sh 40 2 (en2 x.ents) ae ce :: Sh 63 4 (ch4 x.chs) ac cc :: cel b2 #[.int .i64 o.code, .int .u64 o.a, .int .u64 o.b, .int .i64 o.key, .int .i64 o.val, .int .i64 o.lo, .int .i64 o.hi, .int .i64 o.n, .bool o.flag, .string o.name, .slice ob (List.length (by8 o.bytes)) db, .slice oe (List.length (en2 o.ents)) de, .slice oc (List.length (ch4 o.chs)) dc] 27 :: cel b1 #[.int .i64 x.code, .int .u64 x.a, .int .u64 x.b, .int .i64 x.key, .int .i64 x.val, .int .i64 x.lo, .int .i64 x.hi, .int .i64 x.n, .bool x.flag, .string x.name, .slice ab (List.length (by8 x.bytes)) cb, .slice ae (List.length (en2 x.ents)) ce, .slice ac (List.length (ch4 x.chs)) cc] 27 :: Sh 5 1 (by8 o.bytes) ob db :: Sh 40 2 (en2 o.ents) oe de :: Sh 63 4 (ch4 o.chs) oc dc :: Sh 5 1 (by8 bs) a c :: L) w := hS
                          refine WL.nil ?_
                          exact ⟨{ tidy x with code := o.code }, ae1, ce1, rfl, hS, (⟨⟨⟨hT.w.a, hT.w.b, hT.w.key, hT.w.val, hT.w.lo, hT.w.hi, hT.w.ents, hT.w.chs⟩, ho.code, hT.n, hT.by_⟩, hTf⟩), (⟨rfl, rfl⟩)⟩
            clear hS; rintro _ w j ⟨y, ae2, ce2, rfl, hS, hy, hyb⟩
            refine WC.seq ?_
            refine WC.seq ?_
            refine WC.region ?_
            refine WL.ldF rfl rfl 10 hS rfl rfl ag_27 ?_
            refine WL.ldF rfl rfl 2 hS rfl rfl ag_27 ?_
            refine WL.ldF rfl rfl 1 hS rfl rfl ag_27 ?_
            refine WL.lit rfl rfl ([[.int .i64 x.code, .int .u64 x.a, .int .u64 x.b, .int .i64 x.key, .int .i64 x.val, .int .i64 x.lo, .int .i64 x.hi, .int .i64 x.n, .bool x.flag, .string x.name, .slice ab (List.length (by8 x.bytes)) cb, .slice ae (List.length (en2 x.ents)) ce, .slice ac (List.length (ch4 x.chs)) cc], [.int .i64 (tidy x).code, .int .u64 (tidy x).a, .int .u64 (tidy x).b, .int .i64 (tidy x).key, .int .i64 (tidy x).val, .int .i64 (tidy x).lo, .int .i64 (tidy x).hi, .int .i64 (tidy x).n, .bool (tidy x).flag, .string (tidy x).name, .slice ab1 (List.length (by8 (tidy x).bytes)) cb1, .slice ae1 (List.length (en2 (tidy x).ents)) ce1, .slice ac1 (List.length (ch4 (tidy x).chs)) cc1], [.int .i64 y.code, .int .u64 y.a, .int .u64 y.b, .int .i64 y.key, .int .i64 y.val, .int .i64 y.lo, .int .i64 y.hi, .int .i64 y.n, .bool y.flag, .string y.name, .slice ab1 (List.length (by8 y.bytes)) cb1, .slice ae2 (List.length (en2 y.ents)) ce2, .slice ac1 (List.length (ch4 y.chs)) cc1]]) el_31 hS (by exact ⟨rfl, rfl, rfl, rfl, rfl, rfl⟩) (by simp [OkE, Value.oneCell']) rfl (by decide) (fun b5 w hS => ?_)
            refine WL.r 2 rfl ?_
            refine WL.nil ?_
            refine WC.block ?_
            obtain ⟨zs, hzl, hzp, hS⟩ := three_ops hS ⟨hx, hs.2.2.1, hs.2.2.2⟩ ⟨hT, hTf⟩ hy hyb
            replace hS : St g (Own 27 13 (enOp zs) (some ⟨b5, 0, none⟩) 3 :: Shs opF zs :: Sh 5 1 (by8 bs) a c :: L) w := hS
            refine WC.loop [1, 64, 65, 66] (fun kM vs w => ∃ (k : Nat), vs = [.slice a (List.length (by8 bs)) c, .slice (some ⟨b5, 0, none⟩) 3 3, .int .i64 3, .int .i64 (k : Int)] ∧ St g (Own 27 13 (enOp zs) (some ⟨b5, 0, none⟩) 3 :: Shs opF zs :: Sh 5 1 (by8 bs) a c :: L) w ∧ (k ≤ 3) ∧ (3 - k) = kM) (3 - 0) ⟨0, rfl, hS, (Nat.zero_le _), rfl⟩ ?_
            clear hS; rintro _ _ w j ⟨k, rfl, hS, hk, rfl⟩
            refine WC.seq ?_
            refine WC.region ?_
            refine WL.r 1 rfl ?_
            refine WL.nil ?_
            refine WC.seq ?_
            refine WC.ifP rfl (fun cd2 => ?_) (fun cd2 => ?_)
            · refine WC.skip ?_
              refine WC.seq ?_
              refine WC.block ?_
              refine WC.seq ?_
              refine WC.region ?_
              have hzl2 := enOp_len zs; obtain ⟨z, hz⟩ : ∃ z, zs[k]? = some z := ⟨_, List.getElem?_eq_getElem (by omega)⟩; obtain ⟨hzT, hzf⟩ := hzp z (List.mem_of_getElem? hz)
              refine WL.ix rfl rfl (i := (k : Int)) (k) el_31 rfl rfl (by omega) (by omega) (hS.rdO 0 rfl (enOp_at hz)).1 ?_
              refine WL.ldC rfl rfl [.int .i64 z.m.code, .int .u64 z.m.a, .int .u64 z.m.b, .int .i64 z.m.key, .int .i64 z.m.val, .int .i64 z.m.lo, .int .i64 z.m.hi, .int .i64 z.m.n, .bool z.m.flag, .string z.m.name, .slice z.ab (List.length (by8 z.m.bytes)) z.cb, .slice z.ae (List.length (en2 z.m.ents)) z.ce, .slice z.ac (List.length (ch4 z.m.chs)) z.cc] ag_27 rfl (hS.rdO 0 rfl (enOp_at hz)).2 ?_
              refine WL.new rfl rfl zv_27 hS (fun b6 w hS => ?_)
              refine WL.stF rfl rfl rfl 0 hS rfl rfl rfl rfl rfl ag_27 (fun w hS => ?_)
              replace hS : St g (cel b6 #[.int .i64 z.m.code, .int .u64 z.m.a, .int .u64 z.m.b, .int .i64 z.m.key, .int .i64 z.m.val, .int .i64 z.m.lo, .int .i64 z.m.hi, .int .i64 z.m.n, .bool z.m.flag, .string z.m.name, .slice z.ab (List.length (by8 z.m.bytes)) z.cb, .slice z.ae (List.length (en2 z.m.ents)) z.ce, .slice z.ac (List.length (ch4 z.m.chs)) z.cc] 27 :: Own 27 13 (enOp zs) (some ⟨b5, 0, none⟩) 3 :: Shs opF zs :: Sh 5 1 (by8 bs) a c :: L) w := hS
              refine WL.nil ?_
              as_aux_lemma =>
                refine WC.seq ?_
                refine WC.region ?_
                replace hS : St g (Sh 5 1 (by8 z.m.bytes) z.ab z.cb :: Sh 40 2 (en2 z.m.ents) z.ae z.ce :: Sh 63 4 (ch4 z.m.chs) z.ac z.cc :: cel b6 #[.int .i64 z.m.code, .int .u64 z.m.a, .int .u64 z.m.b, .int .i64 z.m.key, .int .i64 z.m.val, .int .i64 z.m.lo, .int .i64 z.m.hi, .int .i64 z.m.n, .bool z.m.flag, .string z.m.name, .slice z.ab (List.length (by8 z.m.bytes)) z.cb, .slice z.ae (List.length (en2 z.m.ents)) z.ce, .slice z.ac (List.length (ch4 z.m.chs)) z.cc] 27 :: Own 27 13 (enOp zs) (some ⟨b5, 0, none⟩) 3 :: Shs opF zs :: Sh 5 1 (by8 bs) a c :: L) w := hS.shsGet 2 rfl (List.mem_of_getElem? hz)
                refine WL.ldF rfl rfl 3 hS rfl rfl ag_27 ?_
                refine WL.call rfl rfl (rvalid_spec (x := z.m) (ab := z.ab) (ae := z.ae) (ac := z.ac) (cb := z.cb) (ce := z.ce) (cc := z.cc) (h1 := (by have := hzf.1; omega)) (h2 := (by have := hzf.2; omega)) (hbx := hzT.by_) (hS := hS)) rfl ?_
                rintro _ w ⟨ok1, rfl, hS, f1⟩
                replace hS : St g (Sh 5 1 (by8 z.m.bytes) z.ab z.cb :: Sh 40 2 (en2 z.m.ents) z.ae z.ce :: Sh 63 4 (ch4 z.m.chs) z.ac z.cc :: cel b6 #[.int .i64 z.m.code, .int .u64 z.m.a, .int .u64 z.m.b, .int .i64 z.m.key, .int .i64 z.m.val, .int .i64 z.m.lo, .int .i64 z.m.hi, .int .i64 z.m.n, .bool z.m.flag, .string z.m.name, .slice z.ab (List.length (by8 z.m.bytes)) z.cb, .slice z.ae (List.length (en2 z.m.ents)) z.ce, .slice z.ac (List.length (ch4 z.m.chs)) z.cc] 27 :: Own 27 13 (enOp zs) (some ⟨b5, 0, none⟩) 3 :: Shs opF zs :: Sh 5 1 (by8 bs) a c :: L) w := hS
                refine WL.r 1 rfl ?_
                refine WL.nil ?_
                refine WC.seq ?_
                refine WC.region ?_
                refine WL.r 1 rfl ?_
                refine WL.ldF rfl rfl 3 hS rfl rfl ag_27 ?_
                refine WL.call rfl rfl (append_spec (bs := bs) (a := a) (c := c) (x := z.m) (ab := z.ab) (ae := z.ae) (ac := z.ac) (cb := z.cb) (ce := z.ce) (cc := z.cc) (hbs := (by have := by8_len bs; omega)) (hw := hzT.w) (hS := (hS.sel 7 [6, 0, 0, 0, 0, 0, 0] rfl))) rfl ?_
                rintro _ w ⟨ok2, ys1, a1, c1, rfl, hS, f2, f3⟩
                replace hS : St g (Own 5 1 (by8 ys1) a1 c1 :: Sh 5 1 (by8 bs) a c :: Sh 5 1 (by8 z.m.bytes) z.ab z.cb :: Sh 40 2 (en2 z.m.ents) z.ae z.ce :: Sh 63 4 (ch4 z.m.chs) z.ac z.cc :: cel b6 #[.int .i64 z.m.code, .int .u64 z.m.a, .int .u64 z.m.b, .int .i64 z.m.key, .int .i64 z.m.val, .int .i64 z.m.lo, .int .i64 z.m.hi, .int .i64 z.m.n, .bool z.m.flag, .string z.m.name, .slice z.ab (List.length (by8 z.m.bytes)) z.cb, .slice z.ae (List.length (en2 z.m.ents)) z.ce, .slice z.ac (List.length (ch4 z.m.chs)) z.cc] 27 :: Own 27 13 (enOp zs) (some ⟨b5, 0, none⟩) 3 :: Shs opF zs :: L) w := hS
                refine WL.r 5 rfl ?_
                refine WL.nil ?_
                refine WC.seq ?_
                refine WC.seq ?_
                refine WC.region ?_
                refine WL.ldF rfl rfl 5 hS rfl rfl ag_27 ?_
                refine WL.call rfl rfl (valid_spec (x := z.m) (ab := z.ab) (ae := z.ae) (ac := z.ac) (cb := z.cb) (ce := z.ce) (cc := z.cc)  (hS := (hS.sel 8 [4, 0, 0, 0, 0, 0, 0, 0] rfl))) rfl ?_
                rintro _ w ⟨ok3, rfl, hS, f4⟩
                replace hS : St g (Sh 63 4 (ch4 z.m.chs) z.ac z.cc :: Own 5 1 (by8 ys1) a1 c1 :: Sh 5 1 (by8 bs) a c :: Sh 5 1 (by8 z.m.bytes) z.ab z.cb :: Sh 40 2 (en2 z.m.ents) z.ae z.ce :: cel b6 #[.int .i64 z.m.code, .int .u64 z.m.a, .int .u64 z.m.b, .int .i64 z.m.key, .int .i64 z.m.val, .int .i64 z.m.lo, .int .i64 z.m.hi, .int .i64 z.m.n, .bool z.m.flag, .string z.m.name, .slice z.ab (List.length (by8 z.m.bytes)) z.cb, .slice z.ae (List.length (en2 z.m.ents)) z.ce, .slice z.ac (List.length (ch4 z.m.chs)) z.cc] 27 :: Own 27 13 (enOp zs) (some ⟨b5, 0, none⟩) 3 :: Shs opF zs :: L) w := hS
                refine WL.r 2 rfl ?_
                refine WL.rG 19 rfl (fun j => ?_)
                refine WL.prop 100 rfl (bor (bor (bnot (dv _)) (bnot (dv _))) (band (bnot (dv _)) (bor (dd _) (dd _)))) ?_
                refine WL.nil ?_
                as_aux_lemma =>
                  refine WC.ifF rfl (decide_eq_false (v_cond f1 f2 f3 f4)) ?_
                  refine WC.skip ?_
                  refine WC.seq ?_
                  refine WC.region ?_
                  have hyl := v_len hzT.w f2 f3 (by omega)
                  refine WL.r 2 rfl ?_
                  by_cases cg3 : ok1 = true
                  · refine WL.reb 102 (.bool true) (congrArg Value.bool cg3) ?_
                    refine WL.ung rfl rfl rfl ?_
                    refine WL.r 1 rfl ?_
                    refine WL.ung rfl rfl rfl ?_
                    refine WL.r 1 rfl ?_
                    refine WL.ung rfl rfl rfl ?_
                    refine WL.ldF rfl rfl 5 hS rfl rfl ag_27 ?_
                    refine WL.ung rfl rfl rfl ?_
                    refine WL.call rfl rfl (rencode_spec (x := z.m) (ab := z.ab) (ae := z.ae) (ac := z.ac) (cb := z.cb) (ce := z.ce) (cc := z.cc) (hw := hzT.w) (hl := ((ok_iff z.m).2 (f1.1 cg3)).2.1) (hS := (hS.sel 8 [3, 3, 0, 0, 0, 0, 0, 0] rfl))) rfl ?_
                    rintro _ w ⟨a2, c2, rfl, hS⟩
                    replace hS : St g (Own 5 1 (by8 (eOp z.m)) a2 c2 :: Sh 5 1 (by8 z.m.bytes) z.ab z.cb :: Sh 40 2 (en2 z.m.ents) z.ae z.ce :: Sh 63 4 (ch4 z.m.chs) z.ac z.cc :: Own 5 1 (by8 ys1) a1 c1 :: Sh 5 1 (by8 bs) a c :: cel b6 #[.int .i64 z.m.code, .int .u64 z.m.a, .int .u64 z.m.b, .int .i64 z.m.key, .int .i64 z.m.val, .int .i64 z.m.lo, .int .i64 z.m.hi, .int .i64 z.m.n, .bool z.m.flag, .string z.m.name, .slice z.ab (List.length (by8 z.m.bytes)) z.cb, .slice z.ae (List.length (en2 z.m.ents)) z.ce, .slice z.ac (List.length (ch4 z.m.chs)) z.cc] 27 :: Own 27 13 (enOp zs) (some ⟨b5, 0, none⟩) 3 :: Shs opF zs :: L) w := hS
                    refine WL.ung rfl rfl rfl ?_
                    replace hS := (hS.at_ 0 rfl).share
                    replace hS : St g (Sh 5 1 (by8 (eOp z.m)) a2 c2 :: Sh 5 1 (by8 z.m.bytes) z.ab z.cb :: Sh 40 2 (en2 z.m.ents) z.ae z.ce :: Sh 63 4 (ch4 z.m.chs) z.ac z.cc :: Own 5 1 (by8 ys1) a1 c1 :: Sh 5 1 (by8 bs) a c :: cel b6 #[.int .i64 z.m.code, .int .u64 z.m.a, .int .u64 z.m.b, .int .i64 z.m.key, .int .i64 z.m.val, .int .i64 z.m.lo, .int .i64 z.m.hi, .int .i64 z.m.n, .bool z.m.flag, .string z.m.name, .slice z.ab (List.length (by8 z.m.bytes)) z.cb, .slice z.ae (List.length (en2 z.m.ents)) z.ce, .slice z.ac (List.length (ch4 z.m.chs)) z.cc] 27 :: Own 27 13 (enOp zs) (some ⟨b5, 0, none⟩) 3 :: Shs opF zs :: L) w := hS
                    refine WL.call rfl rfl (rjoin (xs := bs) (ys := eOp z.m) (a := a) (b := a2) (c := c) (d := c2) (hx := (by have := eOp_len hzT.w ((ok_iff z.m).2 (f1.1 cg3)).2.1; omega)) (hS := (hS.sel 9 [5, 0, 0, 0, 0, 0, 0, 0, 0] rfl))) rfl ?_
                    rintro _ w ⟨a3, c3, rfl, hS⟩
                    replace hS : St g (Own 5 1 (by8 (bs ++ (eOp z.m))) a3 c3 :: Sh 5 1 (by8 bs) a c :: Sh 5 1 (by8 (eOp z.m)) a2 c2 :: Sh 5 1 (by8 z.m.bytes) z.ab z.cb :: Sh 40 2 (en2 z.m.ents) z.ae z.ce :: Sh 63 4 (ch4 z.m.chs) z.ac z.cc :: Own 5 1 (by8 ys1) a1 c1 :: cel b6 #[.int .i64 z.m.code, .int .u64 z.m.a, .int .u64 z.m.b, .int .i64 z.m.key, .int .i64 z.m.val, .int .i64 z.m.lo, .int .i64 z.m.hi, .int .i64 z.m.n, .bool z.m.flag, .string z.m.name, .slice z.ab (List.length (by8 z.m.bytes)) z.cb, .slice z.ae (List.length (en2 z.m.ents)) z.ce, .slice z.ac (List.length (ch4 z.m.chs)) z.cc] 27 :: Own 27 13 (enOp zs) (some ⟨b5, 0, none⟩) 3 :: Shs opF zs :: L) w := hS
                    refine WL.ung rfl rfl rfl ?_
                    replace hS := (hS.at_ 6 rfl).share
                    replace hS : St g (Sh 5 1 (by8 ys1) a1 c1 :: Own 5 1 (by8 (bs ++ (eOp z.m))) a3 c3 :: Sh 5 1 (by8 bs) a c :: Sh 5 1 (by8 (eOp z.m)) a2 c2 :: Sh 5 1 (by8 z.m.bytes) z.ab z.cb :: Sh 40 2 (en2 z.m.ents) z.ae z.ce :: Sh 63 4 (ch4 z.m.chs) z.ac z.cc :: cel b6 #[.int .i64 z.m.code, .int .u64 z.m.a, .int .u64 z.m.b, .int .i64 z.m.key, .int .i64 z.m.val, .int .i64 z.m.lo, .int .i64 z.m.hi, .int .i64 z.m.n, .bool z.m.flag, .string z.m.name, .slice z.ab (List.length (by8 z.m.bytes)) z.cb, .slice z.ae (List.length (en2 z.m.ents)) z.ce, .slice z.ac (List.length (ch4 z.m.chs)) z.cc] 27 :: Own 27 13 (enOp zs) (some ⟨b5, 0, none⟩) 3 :: Shs opF zs :: L) w := hS
                    replace hS := (hS.at_ 1 rfl).share
                    replace hS : St g (Sh 5 1 (by8 (bs ++ (eOp z.m))) a3 c3 :: Sh 5 1 (by8 ys1) a1 c1 :: Sh 5 1 (by8 bs) a c :: Sh 5 1 (by8 (eOp z.m)) a2 c2 :: Sh 5 1 (by8 z.m.bytes) z.ab z.cb :: Sh 40 2 (en2 z.m.ents) z.ae z.ce :: Sh 63 4 (ch4 z.m.chs) z.ac z.cc :: cel b6 #[.int .i64 z.m.code, .int .u64 z.m.a, .int .u64 z.m.b, .int .i64 z.m.key, .int .i64 z.m.val, .int .i64 z.m.lo, .int .i64 z.m.hi, .int .i64 z.m.n, .bool z.m.flag, .string z.m.name, .slice z.ab (List.length (by8 z.m.bytes)) z.cb, .slice z.ae (List.length (en2 z.m.ents)) z.ce, .slice z.ac (List.length (ch4 z.m.chs)) z.cc] 27 :: Own 27 13 (enOp zs) (some ⟨b5, 0, none⟩) 3 :: Shs opF zs :: L) w := hS
                    refine WL.call rfl rfl (sameB (xs := ys1) (ys := bs ++ (eOp z.m)) (a := a1) (b := a3) (c := c1) (d := c3) (hl := (by omega)) (hS := (hS.sel 10 [1, 0, 0, 0, 0, 0, 0, 0, 0, 0] rfl))) rfl ?_
                    rintro _ w ⟨ok4, rfl, hS, f5⟩
                    replace hS : St g (Sh 5 1 (by8 ys1) a1 c1 :: Sh 5 1 (by8 (bs ++ (eOp z.m))) a3 c3 :: Sh 5 1 (by8 bs) a c :: Sh 5 1 (by8 (eOp z.m)) a2 c2 :: Sh 5 1 (by8 z.m.bytes) z.ab z.cb :: Sh 40 2 (en2 z.m.ents) z.ae z.ce :: Sh 63 4 (ch4 z.m.chs) z.ac z.cc :: cel b6 #[.int .i64 z.m.code, .int .u64 z.m.a, .int .u64 z.m.b, .int .i64 z.m.key, .int .i64 z.m.val, .int .i64 z.m.lo, .int .i64 z.m.hi, .int .i64 z.m.n, .bool z.m.flag, .string z.m.name, .slice z.ab (List.length (by8 z.m.bytes)) z.cb, .slice z.ae (List.length (en2 z.m.ents)) z.ce, .slice z.ac (List.length (ch4 z.m.chs)) z.cc] 27 :: Own 27 13 (enOp zs) (some ⟨b5, 0, none⟩) 3 :: Shs opF zs :: L) w := hS
                    refine WL.ung rfl rfl rfl ?_
                    refine WL.r 1 rfl ?_
                    refine WL.r 1 rfl ?_
                    refine WL.nil ?_
                    as_aux_lemma =>
                      refine WC.if_ rfl (fun cd3 => ?_) (fun cd3 => ?_)
                      · refine WC.seq ?_
                        refine WC.region ?_
                        refine WL.r 1 rfl ?_
                        refine WL.nil ?_
                        refine WC.ret ?_
                        refine ⟨[.bool false], rfl, ?_⟩
                        replace hS := (hS.sel 10 [] rfl)
                        exfalso
                        have hk := (ok_iff z.m).2 (f1.1 cg3)
                        rw [if_pos (f2.2 hk)] at f3
                        rw [f5.2 f3] at cd3; cases cd3
                      · refine WC.skip ?_
                        refine WC.region ?_
                        refine WL.r 1 rfl ?_
                        refine WL.nw 111 rfl (w64 (by omega)) ?_
                        refine WL.r 1 rfl ?_
                        refine WL.nil ?_
                        exact ⟨_, by omega, k + 1, rfl, (hS.sel 10 [8, 8, 2] rfl), (by omega), rfl⟩
                  · refine WL.reb 102 (.bool false) (congrArg Value.bool (Bool.eq_false_iff.2 cg3)) ?_
                    refine WL.skp rfl rfl rfl rfl ?_
                    refine WL.skp rfl rfl rfl rfl ?_
                    refine WL.skp rfl rfl rfl rfl ?_
                    refine WL.skp rfl rfl rfl rfl ?_
                    refine WL.skp rfl rfl rfl rfl ?_
                    refine WL.skp rfl rfl rfl rfl ?_
                    refine WL.skp rfl rfl rfl rfl ?_
                    refine WL.r 1 rfl ?_
                    refine WL.nil ?_
                    refine WC.ifF rfl rfl ?_
                    refine WC.skip ?_
                    refine WC.region ?_
                    refine WL.r 1 rfl ?_
                    refine WL.nw 111 rfl (w64 (by omega)) ?_
                    refine WL.r 1 rfl ?_
                    refine WL.nil ?_
                    exact ⟨_, by omega, k + 1, rfl, (hS.sel 8 [6, 6, 2] rfl), (by omega), rfl⟩
            · refine WC.exit ?_
              refine WC.seq ?_
              refine WC.region ?_
              refine WL.call rfl rfl (awake_spec   (hS := hS)) rfl ?_
              rintro _ w ⟨rfl, hS⟩
              replace hS : St g (Own 27 13 (enOp zs) (some ⟨b5, 0, none⟩) 3 :: Shs opF zs :: Sh 5 1 (by8 bs) a c :: L) w := hS
              refine WL.r 1 rfl ?_
              refine WL.nil ?_
              as_aux_lemma =>
                refine WC.ret ?_
                refine ⟨[.bool true], rfl, ?_⟩
                replace hS := (hS.sel 3 [] rfl)
                exact ⟨rfl, hS⟩
end Go.Proofs.Ytofnoopjlmdelaa
