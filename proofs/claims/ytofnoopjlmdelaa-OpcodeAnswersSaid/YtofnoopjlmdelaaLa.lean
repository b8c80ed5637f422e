/-
  The law OpcodeAnswers, walked.
  Conditions: the arguments lie in their kinds.
-/
import Derived.Test.YtofnoopjlmdelaaLw
import Derived.Test.YtofnoopjlmdelaaAns
import Derived.Test.YtofnoopjlmdelaaNxa
import Derived.Test.YtofnoopjlmdelaaApp
import Derived.Test.YtofnoopjlmdelaaFwd
namespace Go.Proofs.Ytofnoopjlmdelaa
open Go Go.V

set_option maxHeartbeats 1000000 in
set_option maxRecDepth 8192 in
theorem law_answers {g w : World} {L : List HP} (x : AnM) (ab ae ac ak : Option Addr) (cb ce cc ck : Nat) (bs ts : List Int) (a d : Option Addr) (c e : Nat) (hx : AnT x) (hb : B8 bs) (ht : B8 ts) (hS : St g (Sh 5 1 (by8 bs) a c :: Sh 5 1 (by8 x.bytes) ab cb :: Sh 40 2 (en2 x.ents) ae ce :: Sh 63 4 (ch4 x.chs) ac cc :: Sh 2 1 (i64s x.keys) ak ck :: Sh 5 1 (by8 ts) d e :: L) w) :
    Sp Try.prog 8 [.slice a (List.length (by8 bs)) c, .agg #[.int .i64 x.err, .int .u64 x.handle, .int .i64 x.value, .bool x.found, .int .i64 x.n, .int .i64 x.ekey, .int .i64 x.eval, .int .i64 x.count, .int .i64 x.sum, .int .i64 x.mn, .int .i64 x.mx, .slice ae (List.length (en2 x.ents)) ce, .slice ac (List.length (ch4 x.chs)) cc, .slice ak (List.length (i64s x.keys)) ck, .slice ab (List.length (by8 x.bytes)) cb], .slice d (List.length (by8 ts)) e] w (fun v w' => v = .bool true ∧ St g (L) w') := by
  refine Sp.enter Try.func8 rfl (by kernel_rfl) (by kernel_rfl) ?_
  refine WC.seq ?_
  refine WC.region ?_
  refine WL.box rfl rfl #[.int .i64 x.err, .int .u64 x.handle, .int .i64 x.value, .bool x.found, .int .i64 x.n, .int .i64 x.ekey, .int .i64 x.eval, .int .i64 x.count, .int .i64 x.sum, .int .i64 x.mn, .int .i64 x.mx, .slice ae (List.length (en2 x.ents)) ce, .slice ac (List.length (ch4 x.chs)) cc, .slice ak (List.length (i64s x.keys)) ck, .slice ab (List.length (by8 x.bytes)) cb] hS rfl rfl (fun b1 w hS => ?_)
  refine WL.r 1 rfl ?_
  refine WL.nil ?_
  refine WC.seq ?_
  refine WC.seq ?_
  refine WC.region ?_
  refine WL.r 4 rfl ?_
  by_cases cg1 : 100 < (List.length (by8 bs) : Int)
  · refine WL.reb 15 (.bool true) (congrArg Value.bool (decide_eq_true cg1)) ?_
    refine WL.skp rfl rfl rfl rfl ?_
    refine WL.skp rfl rfl rfl rfl ?_
    refine WL.skp rfl rfl rfl rfl ?_
    refine WL.r 2 rfl ?_
    refine WL.skp rfl rfl rfl rfl ?_
    refine WL.skp rfl rfl rfl rfl ?_
    refine WL.r 1 rfl ?_
    refine WL.nil ?_
    refine WC.ifT rfl rfl ?_
    refine WC.seq ?_
    refine WC.region ?_
    refine WL.call rfl rfl (awake_spec   (hS := hS)) rfl ?_
    clear hS; rintro _ w ⟨rfl, hS⟩
    replace hS : St g (cel b1 #[.int .i64 x.err, .int .u64 x.handle, .int .i64 x.value, .bool x.found, .int .i64 x.n, .int .i64 x.ekey, .int .i64 x.eval, .int .i64 x.count, .int .i64 x.sum, .int .i64 x.mn, .int .i64 x.mx, .slice ae (List.length (en2 x.ents)) ce, .slice ac (List.length (ch4 x.chs)) cc, .slice ak (List.length (i64s x.keys)) ck, .slice ab (List.length (by8 x.bytes)) cb] 45 :: Sh 5 1 (by8 bs) a c :: Sh 5 1 (by8 x.bytes) ab cb :: Sh 40 2 (en2 x.ents) ae ce :: Sh 63 4 (ch4 x.chs) ac cc :: Sh 2 1 (i64s x.keys) ak ck :: Sh 5 1 (by8 ts) d e :: L) w := hS
    refine WL.r 1 rfl ?_
    refine WL.nil ?_
    as_aux_lemma =>
      refine WC.ret ?_
      refine ⟨[.bool true], rfl, ?_⟩
      replace hS := (hS.sel 7 [] rfl)
      exact ⟨rfl, hS⟩
  · refine WL.reb 15 (.bool false) (congrArg Value.bool (decide_eq_false cg1)) ?_
    refine WL.ung rfl rfl rfl ?_
    refine WL.r 1 rfl ?_
    refine WL.ung rfl rfl rfl ?_
    refine WL.r 1 rfl ?_
    refine WL.ung rfl rfl rfl ?_
    refine WL.r 3 rfl ?_
    by_cases cg2 : 100 < (List.length (by8 ts) : Int)
    · refine WL.reb 20 (.bool true) (congrArg Value.bool (decide_eq_true cg2)) ?_
      refine WL.skp rfl rfl rfl rfl ?_
      refine WL.skp rfl rfl rfl rfl ?_
      refine WL.r 1 rfl ?_
      refine WL.nil ?_
      refine WC.ifT rfl rfl ?_
      refine WC.seq ?_
      refine WC.region ?_
      refine WL.call rfl rfl (awake_spec   (hS := hS)) rfl ?_
      clear hS; rintro _ w ⟨rfl, hS⟩
      replace hS : St g (cel b1 #[.int .i64 x.err, .int .u64 x.handle, .int .i64 x.value, .bool x.found, .int .i64 x.n, .int .i64 x.ekey, .int .i64 x.eval, .int .i64 x.count, .int .i64 x.sum, .int .i64 x.mn, .int .i64 x.mx, .slice ae (List.length (en2 x.ents)) ce, .slice ac (List.length (ch4 x.chs)) cc, .slice ak (List.length (i64s x.keys)) ck, .slice ab (List.length (by8 x.bytes)) cb] 45 :: Sh 5 1 (by8 bs) a c :: Sh 5 1 (by8 x.bytes) ab cb :: Sh 40 2 (en2 x.ents) ae ce :: Sh 63 4 (ch4 x.chs) ac cc :: Sh 2 1 (i64s x.keys) ak ck :: Sh 5 1 (by8 ts) d e :: L) w := hS
      refine WL.r 1 rfl ?_
      refine WL.nil ?_
      as_aux_lemma =>
        refine WC.ret ?_
        refine ⟨[.bool true], rfl, ?_⟩
        replace hS := (hS.sel 7 [] rfl)
        exact ⟨rfl, hS⟩
    · refine WL.reb 20 (.bool false) (congrArg Value.bool (decide_eq_false cg2)) ?_
      refine WL.ung rfl rfl rfl ?_
      refine WL.ldF rfl rfl 0 hS rfl rfl ag_45 ?_
      refine WL.ung rfl rfl rfl ?_
      refine WL.call rfl rfl (big_spec (x := x) (ab := ab) (ae := ae) (ac := ac) (ak := ak) (cb := cb) (ce := ce) (cc := cc) (ck := ck)  (hS := hS)) rfl ?_
      clear hS; rintro _ w ⟨rfl, hS⟩
      replace hS : St g (cel b1 #[.int .i64 x.err, .int .u64 x.handle, .int .i64 x.value, .bool x.found, .int .i64 x.n, .int .i64 x.ekey, .int .i64 x.eval, .int .i64 x.count, .int .i64 x.sum, .int .i64 x.mn, .int .i64 x.mx, .slice ae (List.length (en2 x.ents)) ce, .slice ac (List.length (ch4 x.chs)) cc, .slice ak (List.length (i64s x.keys)) ck, .slice ab (List.length (by8 x.bytes)) cb] 45 :: Sh 5 1 (by8 bs) a c :: Sh 5 1 (by8 x.bytes) ab cb :: Sh 40 2 (en2 x.ents) ae ce :: Sh 63 4 (ch4 x.chs) ac cc :: Sh 2 1 (i64s x.keys) ak ck :: Sh 5 1 (by8 ts) d e :: L) w := hS
      refine WL.r 1 rfl ?_
      refine WL.nil ?_
      as_aux_lemma =>
        refine WC.ifP rfl (fun cd1 => ?_) (fun cd1 => ?_)
        · refine WC.seq ?_
          refine WC.region ?_
          refine WL.call rfl rfl (awake_spec   (hS := hS)) rfl ?_
          clear hS; rintro _ w ⟨rfl, hS⟩
          replace hS : St g (cel b1 #[.int .i64 x.err, .int .u64 x.handle, .int .i64 x.value, .bool x.found, .int .i64 x.n, .int .i64 x.ekey, .int .i64 x.eval, .int .i64 x.count, .int .i64 x.sum, .int .i64 x.mn, .int .i64 x.mx, .slice ae (List.length (en2 x.ents)) ce, .slice ac (List.length (ch4 x.chs)) cc, .slice ak (List.length (i64s x.keys)) ck, .slice ab (List.length (by8 x.bytes)) cb] 45 :: Sh 5 1 (by8 bs) a c :: Sh 5 1 (by8 x.bytes) ab cb :: Sh 40 2 (en2 x.ents) ae ce :: Sh 63 4 (ch4 x.chs) ac cc :: Sh 2 1 (i64s x.keys) ak ck :: Sh 5 1 (by8 ts) d e :: L) w := hS
          refine WL.r 1 rfl ?_
          refine WL.nil ?_
          refine WC.ret ?_
          refine ⟨[.bool true], rfl, ?_⟩
          replace hS := (hS.sel 7 [] rfl)
          exact ⟨rfl, hS⟩
        · refine WC.skip ?_
          refine WC.seq ?_
          refine WC.region ?_
          have hP := plain_T hx; have hPb := plain_big cd1; have hW := hx.w cd1; have hV := hP.w hPb; obtain ⟨hl1, hl2⟩ := eAn_len hW cd1; obtain ⟨hl3, hl4⟩ := eAn_len hV hPb; have hl5 := by8_len bs; have hl6 := by8_len ts; have hbig := cd1; unfold bigAn at hbig; have hbig2 := hPb; unfold bigAn at hbig2
          replace hS : St g (Sh 5 1 (by8 x.bytes) ab cb :: cel b1 #[.int .i64 x.err, .int .u64 x.handle, .int .i64 x.value, .bool x.found, .int .i64 x.n, .int .i64 x.ekey, .int .i64 x.eval, .int .i64 x.count, .int .i64 x.sum, .int .i64 x.mn, .int .i64 x.mx, .slice ae (List.length (en2 x.ents)) ce, .slice ac (List.length (ch4 x.chs)) cc, .slice ak (List.length (i64s x.keys)) ck, .slice ab (List.length (by8 x.bytes)) cb] 45 :: Sh 5 1 (by8 bs) a c :: Sh 5 1 (by8 x.bytes) ab cb :: Sh 40 2 (en2 x.ents) ae ce :: Sh 63 4 (ch4 x.chs) ac cc :: Sh 2 1 (i64s x.keys) ak ck :: Sh 5 1 (by8 ts) d e :: L) w := hS.dup 2 rfl fun _ _ h => Sh.dup h
          replace hS : St g (Sh 40 2 (en2 x.ents) ae ce :: Sh 5 1 (by8 x.bytes) ab cb :: cel b1 #[.int .i64 x.err, .int .u64 x.handle, .int .i64 x.value, .bool x.found, .int .i64 x.n, .int .i64 x.ekey, .int .i64 x.eval, .int .i64 x.count, .int .i64 x.sum, .int .i64 x.mn, .int .i64 x.mx, .slice ae (List.length (en2 x.ents)) ce, .slice ac (List.length (ch4 x.chs)) cc, .slice ak (List.length (i64s x.keys)) ck, .slice ab (List.length (by8 x.bytes)) cb] 45 :: Sh 5 1 (by8 bs) a c :: Sh 5 1 (by8 x.bytes) ab cb :: Sh 40 2 (en2 x.ents) ae ce :: Sh 63 4 (ch4 x.chs) ac cc :: Sh 2 1 (i64s x.keys) ak ck :: Sh 5 1 (by8 ts) d e :: L) w := hS.dup 4 rfl fun _ _ h => Sh.dup h
          replace hS : St g (Sh 2 1 (i64s x.keys) ak ck :: Sh 40 2 (en2 x.ents) ae ce :: Sh 5 1 (by8 x.bytes) ab cb :: cel b1 #[.int .i64 x.err, .int .u64 x.handle, .int .i64 x.value, .bool x.found, .int .i64 x.n, .int .i64 x.ekey, .int .i64 x.eval, .int .i64 x.count, .int .i64 x.sum, .int .i64 x.mn, .int .i64 x.mx, .slice ae (List.length (en2 x.ents)) ce, .slice ac (List.length (ch4 x.chs)) cc, .slice ak (List.length (i64s x.keys)) ck, .slice ab (List.length (by8 x.bytes)) cb] 45 :: Sh 5 1 (by8 bs) a c :: Sh 5 1 (by8 x.bytes) ab cb :: Sh 40 2 (en2 x.ents) ae ce :: Sh 63 4 (ch4 x.chs) ac cc :: Sh 2 1 (i64s x.keys) ak ck :: Sh 5 1 (by8 ts) d e :: L) w := hS.dup 7 rfl fun _ _ h => Sh.dup h
          refine WL.ldF rfl rfl 3 hS rfl rfl ag_45 ?_
          refine WL.call rfl rfl (plain_spec (x := x) (ab := ab) (ae := ae) (ac := ac) (ak := ak) (cb := cb) (ce := ce) (cc := cc) (ck := ck) (hw := hx) (hb := cd1) (hS := (hS.sel 8 [7, 0, 0, 0, 0, 0, 0, 0] rfl))) rfl ?_
          clear hS; rintro _ w ⟨ac1, cc1, rfl, hS⟩
          replace hS : St g (Sh 63 4 (ch4 (plainAn x).chs) ac1 cc1 :: Sh 63 4 (ch4 x.chs) ac cc :: Sh 2 1 (i64s x.keys) ak ck :: Sh 40 2 (en2 x.ents) ae ce :: Sh 5 1 (by8 x.bytes) ab cb :: cel b1 #[.int .i64 x.err, .int .u64 x.handle, .int .i64 x.value, .bool x.found, .int .i64 x.n, .int .i64 x.ekey, .int .i64 x.eval, .int .i64 x.count, .int .i64 x.sum, .int .i64 x.mn, .int .i64 x.mx, .slice ae (List.length (en2 x.ents)) ce, .slice ac (List.length (ch4 x.chs)) cc, .slice ak (List.length (i64s x.keys)) ck, .slice ab (List.length (by8 x.bytes)) cb] 45 :: Sh 5 1 (by8 bs) a c :: Sh 5 1 (by8 x.bytes) ab cb :: Sh 40 2 (en2 x.ents) ae ce :: Sh 2 1 (i64s x.keys) ak ck :: Sh 5 1 (by8 ts) d e :: L) w := hS
          refine WL.new rfl rfl zv_45 hS (fun b2 w hS => ?_)
          refine WL.stF rfl rfl rfl 0 hS rfl rfl rfl rfl rfl ag_45 (fun w hS => ?_)
          replace hS : St g (cel b2 #[.int .i64 (plainAn x).err, .int .u64 (plainAn x).handle, .int .i64 (plainAn x).value, .bool (plainAn x).found, .int .i64 (plainAn x).n, .int .i64 (plainAn x).ekey, .int .i64 (plainAn x).eval, .int .i64 (plainAn x).count, .int .i64 (plainAn x).sum, .int .i64 (plainAn x).mn, .int .i64 (plainAn x).mx, .slice ae (List.length (en2 (plainAn x).ents)) ce, .slice ac1 (List.length (ch4 (plainAn x).chs)) cc1, .slice ak (List.length (i64s (plainAn x).keys)) ck, .slice ab (List.length (by8 (plainAn x).bytes)) cb] 45 :: Sh 63 4 (ch4 (plainAn x).chs) ac1 cc1 :: Sh 63 4 (ch4 x.chs) ac cc :: Sh 2 1 (i64s x.keys) ak ck :: Sh 40 2 (en2 x.ents) ae ce :: Sh 5 1 (by8 x.bytes) ab cb :: cel b1 #[.int .i64 x.err, .int .u64 x.handle, .int .i64 x.value, .bool x.found, .int .i64 x.n, .int .i64 x.ekey, .int .i64 x.eval, .int .i64 x.count, .int .i64 x.sum, .int .i64 x.mn, .int .i64 x.mx, .slice ae (List.length (en2 x.ents)) ce, .slice ac (List.length (ch4 x.chs)) cc, .slice ak (List.length (i64s x.keys)) ck, .slice ab (List.length (by8 x.bytes)) cb] 45 :: Sh 5 1 (by8 bs) a c :: Sh 5 1 (by8 x.bytes) ab cb :: Sh 40 2 (en2 x.ents) ae ce :: Sh 2 1 (i64s x.keys) ak ck :: Sh 5 1 (by8 ts) d e :: L) w := hS
          refine WL.nil ?_
          refine WC.seq ?_
          refine WC.region ?_
          replace hS : St g (cel b2 #[.int .i64 (plainAn x).err, .int .u64 (plainAn x).handle, .int .i64 (plainAn x).value, .bool (plainAn x).found, .int .i64 (plainAn x).n, .int .i64 (plainAn x).ekey, .int .i64 (plainAn x).eval, .int .i64 (plainAn x).count, .int .i64 (plainAn x).sum, .int .i64 (plainAn x).mn, .int .i64 (plainAn x).mx, .slice ae (List.length (en2 (plainAn x).ents)) ce, .slice ac1 (List.length (ch4 (plainAn x).chs)) cc1, .slice ak (List.length (i64s (plainAn x).keys)) ck, .slice ab (List.length (by8 (plainAn x).bytes)) cb] 45 :: Sh 63 4 (ch4 (plainAn x).chs) ac1 cc1 :: Sh 63 4 (ch4 x.chs) ac cc :: Sh 2 1 (i64s x.keys) ak ck :: Sh 40 2 (en2 x.ents) ae ce :: Sh 5 1 (by8 (plainAn x).bytes) ab cb :: cel b1 #[.int .i64 x.err, .int .u64 x.handle, .int .i64 x.value, .bool x.found, .int .i64 x.n, .int .i64 x.ekey, .int .i64 x.eval, .int .i64 x.count, .int .i64 x.sum, .int .i64 x.mn, .int .i64 x.mx, .slice ae (List.length (en2 x.ents)) ce, .slice ac (List.length (ch4 x.chs)) cc, .slice ak (List.length (i64s x.keys)) ck, .slice ab (List.length (by8 x.bytes)) cb] 45 :: Sh 5 1 (by8 bs) a c :: Sh 5 1 (by8 x.bytes) ab cb :: Sh 40 2 (en2 x.ents) ae ce :: Sh 2 1 (i64s x.keys) ak ck :: Sh 5 1 (by8 ts) d e :: L) w := hS
          replace hS : St g (cel b2 #[.int .i64 (plainAn x).err, .int .u64 (plainAn x).handle, .int .i64 (plainAn x).value, .bool (plainAn x).found, .int .i64 (plainAn x).n, .int .i64 (plainAn x).ekey, .int .i64 (plainAn x).eval, .int .i64 (plainAn x).count, .int .i64 (plainAn x).sum, .int .i64 (plainAn x).mn, .int .i64 (plainAn x).mx, .slice ae (List.length (en2 (plainAn x).ents)) ce, .slice ac1 (List.length (ch4 (plainAn x).chs)) cc1, .slice ak (List.length (i64s (plainAn x).keys)) ck, .slice ab (List.length (by8 (plainAn x).bytes)) cb] 45 :: Sh 63 4 (ch4 (plainAn x).chs) ac1 cc1 :: Sh 63 4 (ch4 x.chs) ac cc :: Sh 2 1 (i64s x.keys) ak ck :: Sh 40 2 (en2 (plainAn x).ents) ae ce :: Sh 5 1 (by8 (plainAn x).bytes) ab cb :: cel b1 #[.int .i64 x.err, .int .u64 x.handle, .int .i64 x.value, .bool x.found, .int .i64 x.n, .int .i64 x.ekey, .int .i64 x.eval, .int .i64 x.count, .int .i64 x.sum, .int .i64 x.mn, .int .i64 x.mx, .slice ae (List.length (en2 x.ents)) ce, .slice ac (List.length (ch4 x.chs)) cc, .slice ak (List.length (i64s x.keys)) ck, .slice ab (List.length (by8 x.bytes)) cb] 45 :: Sh 5 1 (by8 bs) a c :: Sh 5 1 (by8 x.bytes) ab cb :: Sh 40 2 (en2 x.ents) ae ce :: Sh 2 1 (i64s x.keys) ak ck :: Sh 5 1 (by8 ts) d e :: L) w := hS
          replace hS : St g (cel b2 #[.int .i64 (plainAn x).err, .int .u64 (plainAn x).handle, .int .i64 (plainAn x).value, .bool (plainAn x).found, .int .i64 (plainAn x).n, .int .i64 (plainAn x).ekey, .int .i64 (plainAn x).eval, .int .i64 (plainAn x).count, .int .i64 (plainAn x).sum, .int .i64 (plainAn x).mn, .int .i64 (plainAn x).mx, .slice ae (List.length (en2 (plainAn x).ents)) ce, .slice ac1 (List.length (ch4 (plainAn x).chs)) cc1, .slice ak (List.length (i64s (plainAn x).keys)) ck, .slice ab (List.length (by8 (plainAn x).bytes)) cb] 45 :: Sh 63 4 (ch4 (plainAn x).chs) ac1 cc1 :: Sh 63 4 (ch4 x.chs) ac cc :: Sh 2 1 (i64s (plainAn x).keys) ak ck :: Sh 40 2 (en2 (plainAn x).ents) ae ce :: Sh 5 1 (by8 (plainAn x).bytes) ab cb :: cel b1 #[.int .i64 x.err, .int .u64 x.handle, .int .i64 x.value, .bool x.found, .int .i64 x.n, .int .i64 x.ekey, .int .i64 x.eval, .int .i64 x.count, .int .i64 x.sum, .int .i64 x.mn, .int .i64 x.mx, .slice ae (List.length (en2 x.ents)) ce, .slice ac (List.length (ch4 x.chs)) cc, .slice ak (List.length (i64s x.keys)) ck, .slice ab (List.length (by8 x.bytes)) cb] 45 :: Sh 5 1 (by8 bs) a c :: Sh 5 1 (by8 x.bytes) ab cb :: Sh 40 2 (en2 x.ents) ae ce :: Sh 2 1 (i64s x.keys) ak ck :: Sh 5 1 (by8 ts) d e :: L) w := hS
          refine WL.r 1 rfl ?_
          refine WL.ldF rfl rfl 0 hS rfl rfl ag_45 ?_
          refine WL.call rfl rfl (appendAnswer_spec (bs := bs) (a := a) (c := c) (x := plainAn x) (ab := ab) (ae := ae) (ac := ac1) (ak := ak) (cb := cb) (ce := ce) (cc := cc1) (ck := ck) (hbs := (by omega)) (hw := hV) (hS := (hS.sel 8 [7, 5, 4, 1, 2, 0, 0, 0] rfl))) rfl ?_
          clear hS; rintro _ w ⟨a1, c1, rfl, hS⟩
          replace hS : St g (Own 5 1 (by8 (bs ++ eAn (plainAn x))) a1 c1 :: Sh 5 1 (by8 bs) a c :: Sh 5 1 (by8 (plainAn x).bytes) ab cb :: Sh 40 2 (en2 (plainAn x).ents) ae ce :: Sh 63 4 (ch4 (plainAn x).chs) ac1 cc1 :: Sh 2 1 (i64s (plainAn x).keys) ak ck :: cel b2 #[.int .i64 (plainAn x).err, .int .u64 (plainAn x).handle, .int .i64 (plainAn x).value, .bool (plainAn x).found, .int .i64 (plainAn x).n, .int .i64 (plainAn x).ekey, .int .i64 (plainAn x).eval, .int .i64 (plainAn x).count, .int .i64 (plainAn x).sum, .int .i64 (plainAn x).mn, .int .i64 (plainAn x).mx, .slice ae (List.length (en2 (plainAn x).ents)) ce, .slice ac1 (List.length (ch4 (plainAn x).chs)) cc1, .slice ak (List.length (i64s (plainAn x).keys)) ck, .slice ab (List.length (by8 (plainAn x).bytes)) cb] 45 :: Sh 63 4 (ch4 x.chs) ac cc :: cel b1 #[.int .i64 x.err, .int .u64 x.handle, .int .i64 x.value, .bool x.found, .int .i64 x.n, .int .i64 x.ekey, .int .i64 x.eval, .int .i64 x.count, .int .i64 x.sum, .int .i64 x.mn, .int .i64 x.mx, .slice ae (List.length (en2 x.ents)) ce, .slice ac (List.length (ch4 x.chs)) cc, .slice ak (List.length (i64s x.keys)) ck, .slice ab (List.length (by8 x.bytes)) cb] 45 :: Sh 5 1 (by8 x.bytes) ab cb :: Sh 40 2 (en2 x.ents) ae ce :: Sh 2 1 (i64s x.keys) ak ck :: Sh 5 1 (by8 ts) d e :: L) w := hS
          refine WL.r 1 rfl ?_
          refine WL.nil ?_
          as_aux_lemma =>
            refine WC.seq ?_
            refine WC.region ?_
            have h8 := eAn_B8 hP.by_; have hl7 := by8_len (bs ++ eAn (plainAn x))
            replace hS := (hS.at_ 0 rfl).share
            replace hS : St g (Sh 5 1 (by8 (bs ++ eAn (plainAn x))) a1 c1 :: Sh 5 1 (by8 bs) a c :: Sh 5 1 (by8 (plainAn x).bytes) ab cb :: Sh 40 2 (en2 (plainAn x).ents) ae ce :: Sh 63 4 (ch4 (plainAn x).chs) ac1 cc1 :: Sh 2 1 (i64s (plainAn x).keys) ak ck :: cel b2 #[.int .i64 (plainAn x).err, .int .u64 (plainAn x).handle, .int .i64 (plainAn x).value, .bool (plainAn x).found, .int .i64 (plainAn x).n, .int .i64 (plainAn x).ekey, .int .i64 (plainAn x).eval, .int .i64 (plainAn x).count, .int .i64 (plainAn x).sum, .int .i64 (plainAn x).mn, .int .i64 (plainAn x).mx, .slice ae (List.length (en2 (plainAn x).ents)) ce, .slice ac1 (List.length (ch4 (plainAn x).chs)) cc1, .slice ak (List.length (i64s (plainAn x).keys)) ck, .slice ab (List.length (by8 (plainAn x).bytes)) cb] 45 :: Sh 63 4 (ch4 x.chs) ac cc :: cel b1 #[.int .i64 x.err, .int .u64 x.handle, .int .i64 x.value, .bool x.found, .int .i64 x.n, .int .i64 x.ekey, .int .i64 x.eval, .int .i64 x.count, .int .i64 x.sum, .int .i64 x.mn, .int .i64 x.mx, .slice ae (List.length (en2 x.ents)) ce, .slice ac (List.length (ch4 x.chs)) cc, .slice ak (List.length (i64s x.keys)) ck, .slice ab (List.length (by8 x.bytes)) cb] 45 :: Sh 5 1 (by8 x.bytes) ab cb :: Sh 40 2 (en2 x.ents) ae ce :: Sh 2 1 (i64s x.keys) ak ck :: Sh 5 1 (by8 ts) d e :: L) w := hS
            refine WL.r 2 rfl ?_
            refine WL.call rfl rfl (rjoin (xs := bs ++ eAn (plainAn x)) (ys := ts) (a := a1) (b := d) (c := c1) (d := e) (hx := (by simp; omega)) (hS := (hS.selU [0, 11] rfl))) rfl ?_
            clear hS; rintro _ w ⟨a2, c2, rfl, hS⟩
            replace hS : St g (Own 5 1 (by8 ((bs ++ eAn (plainAn x)) ++ ts)) a2 c2 :: Sh 5 1 (by8 (bs ++ eAn (plainAn x))) a1 c1 :: Sh 5 1 (by8 ts) d e :: Sh 5 1 (by8 bs) a c :: Sh 5 1 (by8 (plainAn x).bytes) ab cb :: Sh 40 2 (en2 (plainAn x).ents) ae ce :: Sh 63 4 (ch4 (plainAn x).chs) ac1 cc1 :: Sh 2 1 (i64s (plainAn x).keys) ak ck :: cel b2 #[.int .i64 (plainAn x).err, .int .u64 (plainAn x).handle, .int .i64 (plainAn x).value, .bool (plainAn x).found, .int .i64 (plainAn x).n, .int .i64 (plainAn x).ekey, .int .i64 (plainAn x).eval, .int .i64 (plainAn x).count, .int .i64 (plainAn x).sum, .int .i64 (plainAn x).mn, .int .i64 (plainAn x).mx, .slice ae (List.length (en2 (plainAn x).ents)) ce, .slice ac1 (List.length (ch4 (plainAn x).chs)) cc1, .slice ak (List.length (i64s (plainAn x).keys)) ck, .slice ab (List.length (by8 (plainAn x).bytes)) cb] 45 :: Sh 63 4 (ch4 x.chs) ac cc :: cel b1 #[.int .i64 x.err, .int .u64 x.handle, .int .i64 x.value, .bool x.found, .int .i64 x.n, .int .i64 x.ekey, .int .i64 x.eval, .int .i64 x.count, .int .i64 x.sum, .int .i64 x.mn, .int .i64 x.mx, .slice ae (List.length (en2 x.ents)) ce, .slice ac (List.length (ch4 x.chs)) cc, .slice ak (List.length (i64s x.keys)) ck, .slice ab (List.length (by8 x.bytes)) cb] 45 :: Sh 5 1 (by8 x.bytes) ab cb :: Sh 40 2 (en2 x.ents) ae ce :: Sh 2 1 (i64s x.keys) ak ck :: L) w := hS
            refine WL.r 2 rfl ?_
            replace hS := (hS.at_ 0 rfl).share
            replace hS : St g (Sh 5 1 (by8 ((bs ++ eAn (plainAn x)) ++ ts)) a2 c2 :: Sh 5 1 (by8 (bs ++ eAn (plainAn x))) a1 c1 :: Sh 5 1 (by8 ts) d e :: Sh 5 1 (by8 bs) a c :: Sh 5 1 (by8 (plainAn x).bytes) ab cb :: Sh 40 2 (en2 (plainAn x).ents) ae ce :: Sh 63 4 (ch4 (plainAn x).chs) ac1 cc1 :: Sh 2 1 (i64s (plainAn x).keys) ak ck :: cel b2 #[.int .i64 (plainAn x).err, .int .u64 (plainAn x).handle, .int .i64 (plainAn x).value, .bool (plainAn x).found, .int .i64 (plainAn x).n, .int .i64 (plainAn x).ekey, .int .i64 (plainAn x).eval, .int .i64 (plainAn x).count, .int .i64 (plainAn x).sum, .int .i64 (plainAn x).mn, .int .i64 (plainAn x).mx, .slice ae (List.length (en2 (plainAn x).ents)) ce, .slice ac1 (List.length (ch4 (plainAn x).chs)) cc1, .slice ak (List.length (i64s (plainAn x).keys)) ck, .slice ab (List.length (by8 (plainAn x).bytes)) cb] 45 :: Sh 63 4 (ch4 x.chs) ac cc :: cel b1 #[.int .i64 x.err, .int .u64 x.handle, .int .i64 x.value, .bool x.found, .int .i64 x.n, .int .i64 x.ekey, .int .i64 x.eval, .int .i64 x.count, .int .i64 x.sum, .int .i64 x.mn, .int .i64 x.mx, .slice ae (List.length (en2 x.ents)) ce, .slice ac (List.length (ch4 x.chs)) cc, .slice ak (List.length (i64s x.keys)) ck, .slice ab (List.length (by8 x.bytes)) cb] 45 :: Sh 5 1 (by8 x.bytes) ab cb :: Sh 40 2 (en2 x.ents) ae ce :: Sh 2 1 (i64s x.keys) ak ck :: L) w := hS
            refine WL.call rfl rfl (nextAnswer_spec (a := a2) (c := c2) (bs := (bs ++ eAn (plainAn x)) ++ ts) (p := (List.length (by8 bs) : Int)) (hl := (by simp; omega)) (hb := ((hb.app h8).app ht)) (hS := hS)) rfl ?_
            generalize hN1 : rNxa ((bs ++ eAn (plainAn x)) ++ ts) (List.length (by8 bs) : Int) = N1
            clear hS; rintro _ w ⟨ab1, ae1, ac2, ak1, cb1, ce1, cc2, ck1, rfl, hS⟩
            replace hS : St g (Sh 5 1 (by8 ((bs ++ eAn (plainAn x)) ++ ts)) a2 c2 :: Own 5 1 (by8 N1.1.bytes) ab1 cb1 :: Own 40 2 (en2 N1.1.ents) ae1 ce1 :: Own 63 4 (ch4 N1.1.chs) ac2 cc2 :: Own 2 1 (i64s N1.1.keys) ak1 ck1 :: Sh 5 1 (by8 (bs ++ eAn (plainAn x))) a1 c1 :: Sh 5 1 (by8 ts) d e :: Sh 5 1 (by8 bs) a c :: Sh 5 1 (by8 (plainAn x).bytes) ab cb :: Sh 40 2 (en2 (plainAn x).ents) ae ce :: Sh 63 4 (ch4 (plainAn x).chs) ac1 cc1 :: Sh 2 1 (i64s (plainAn x).keys) ak ck :: cel b2 #[.int .i64 (plainAn x).err, .int .u64 (plainAn x).handle, .int .i64 (plainAn x).value, .bool (plainAn x).found, .int .i64 (plainAn x).n, .int .i64 (plainAn x).ekey, .int .i64 (plainAn x).eval, .int .i64 (plainAn x).count, .int .i64 (plainAn x).sum, .int .i64 (plainAn x).mn, .int .i64 (plainAn x).mx, .slice ae (List.length (en2 (plainAn x).ents)) ce, .slice ac1 (List.length (ch4 (plainAn x).chs)) cc1, .slice ak (List.length (i64s (plainAn x).keys)) ck, .slice ab (List.length (by8 (plainAn x).bytes)) cb] 45 :: Sh 63 4 (ch4 x.chs) ac cc :: cel b1 #[.int .i64 x.err, .int .u64 x.handle, .int .i64 x.value, .bool x.found, .int .i64 x.n, .int .i64 x.ekey, .int .i64 x.eval, .int .i64 x.count, .int .i64 x.sum, .int .i64 x.mn, .int .i64 x.mx, .slice ae (List.length (en2 x.ents)) ce, .slice ac (List.length (ch4 x.chs)) cc, .slice ak (List.length (i64s x.keys)) ck, .slice ab (List.length (by8 x.bytes)) cb] 45 :: Sh 5 1 (by8 x.bytes) ab cb :: Sh 40 2 (en2 x.ents) ae ce :: Sh 2 1 (i64s x.keys) ak ck :: L) w := hS
            refine WL.r 4 rfl ?_
            refine WL.new rfl rfl zv_45 hS (fun b3 w hS => ?_)
            refine WL.stF rfl rfl rfl 0 hS rfl rfl rfl rfl rfl ag_45 (fun w hS => ?_)
            replace hS : St g (cel b3 #[.int .i64 N1.1.err, .int .u64 N1.1.handle, .int .i64 N1.1.value, .bool N1.1.found, .int .i64 N1.1.n, .int .i64 N1.1.ekey, .int .i64 N1.1.eval, .int .i64 N1.1.count, .int .i64 N1.1.sum, .int .i64 N1.1.mn, .int .i64 N1.1.mx, .slice ae1 (List.length (en2 N1.1.ents)) ce1, .slice ac2 (List.length (ch4 N1.1.chs)) cc2, .slice ak1 (List.length (i64s N1.1.keys)) ck1, .slice ab1 (List.length (by8 N1.1.bytes)) cb1] 45 :: Sh 5 1 (by8 ((bs ++ eAn (plainAn x)) ++ ts)) a2 c2 :: Own 5 1 (by8 N1.1.bytes) ab1 cb1 :: Own 40 2 (en2 N1.1.ents) ae1 ce1 :: Own 63 4 (ch4 N1.1.chs) ac2 cc2 :: Own 2 1 (i64s N1.1.keys) ak1 ck1 :: Sh 5 1 (by8 (bs ++ eAn (plainAn x))) a1 c1 :: Sh 5 1 (by8 ts) d e :: Sh 5 1 (by8 bs) a c :: Sh 5 1 (by8 (plainAn x).bytes) ab cb :: Sh 40 2 (en2 (plainAn x).ents) ae ce :: Sh 63 4 (ch4 (plainAn x).chs) ac1 cc1 :: Sh 2 1 (i64s (plainAn x).keys) ak ck :: cel b2 #[.int .i64 (plainAn x).err, .int .u64 (plainAn x).handle, .int .i64 (plainAn x).value, .bool (plainAn x).found, .int .i64 (plainAn x).n, .int .i64 (plainAn x).ekey, .int .i64 (plainAn x).eval, .int .i64 (plainAn x).count, .int .i64 (plainAn x).sum, .int .i64 (plainAn x).mn, .int .i64 (plainAn x).mx, .slice ae (List.length (en2 (plainAn x).ents)) ce, .slice ac1 (List.length (ch4 (plainAn x).chs)) cc1, .slice ak (List.length (i64s (plainAn x).keys)) ck, .slice ab (List.length (by8 (plainAn x).bytes)) cb] 45 :: Sh 63 4 (ch4 x.chs) ac cc :: cel b1 #[.int .i64 x.err, .int .u64 x.handle, .int .i64 x.value, .bool x.found, .int .i64 x.n, .int .i64 x.ekey, .int .i64 x.eval, .int .i64 x.count, .int .i64 x.sum, .int .i64 x.mn, .int .i64 x.mx, .slice ae (List.length (en2 x.ents)) ce, .slice ac (List.length (ch4 x.chs)) cc, .slice ak (List.length (i64s x.keys)) ck, .slice ab (List.length (by8 x.bytes)) cb] 45 :: Sh 5 1 (by8 x.bytes) ab cb :: Sh 40 2 (en2 x.ents) ae ce :: Sh 2 1 (i64s x.keys) ak ck :: L) w := hS
            refine WL.r 2 rfl ?_
            refine WL.nil ?_
            refine WC.seq ?_
            refine WC.plan [([], some (0, [])), ([1, 2, 3, 5, 6], some (4, [5, 6])), ([], some (7, [5])), ([], some (8, [])), ([], some (9, [])), ([10, 11, 12, 13, 14, 15, 16, 17, 18, 19, 20, 21, 22, 23], some (24, [])), ([25, 26], none)] (by kernel_rfl) (by kernel_rfl) ?_
            refine WQ.nil ?_
            intro m1
            replace hS := hS.drewN m1; generalize hwm1 : World.drewN _ _ = w at *; clear hwm1
            have hN : N1 = (plainAn x, ((bs.length + (eAn (plainAn x)).length : Nat) : Int), 0) := by rw [← hN1, hl5]; exact nxa_f hP (mod_B8 _) (kind256_8 _) hPb (by simp only [List.length_append]; omega) (by rw [List.append_assoc, List.drop_left]; exact List.prefix_append _ _)
            refine WL.call rfl rfl (awake_spec   (hS := hS)) rfl ?_
            clear hS; rintro _ w ⟨rfl, hS⟩
            replace hS : St g (cel b3 #[.int .i64 N1.1.err, .int .u64 N1.1.handle, .int .i64 N1.1.value, .bool N1.1.found, .int .i64 N1.1.n, .int .i64 N1.1.ekey, .int .i64 N1.1.eval, .int .i64 N1.1.count, .int .i64 N1.1.sum, .int .i64 N1.1.mn, .int .i64 N1.1.mx, .slice ae1 (List.length (en2 N1.1.ents)) ce1, .slice ac2 (List.length (ch4 N1.1.chs)) cc2, .slice ak1 (List.length (i64s N1.1.keys)) ck1, .slice ab1 (List.length (by8 N1.1.bytes)) cb1] 45 :: Sh 5 1 (by8 ((bs ++ eAn (plainAn x)) ++ ts)) a2 c2 :: Own 5 1 (by8 N1.1.bytes) ab1 cb1 :: Own 40 2 (en2 N1.1.ents) ae1 ce1 :: Own 63 4 (ch4 N1.1.chs) ac2 cc2 :: Own 2 1 (i64s N1.1.keys) ak1 ck1 :: Sh 5 1 (by8 (bs ++ eAn (plainAn x))) a1 c1 :: Sh 5 1 (by8 ts) d e :: Sh 5 1 (by8 bs) a c :: Sh 5 1 (by8 (plainAn x).bytes) ab cb :: Sh 40 2 (en2 (plainAn x).ents) ae ce :: Sh 63 4 (ch4 (plainAn x).chs) ac1 cc1 :: Sh 2 1 (i64s (plainAn x).keys) ak ck :: cel b2 #[.int .i64 (plainAn x).err, .int .u64 (plainAn x).handle, .int .i64 (plainAn x).value, .bool (plainAn x).found, .int .i64 (plainAn x).n, .int .i64 (plainAn x).ekey, .int .i64 (plainAn x).eval, .int .i64 (plainAn x).count, .int .i64 (plainAn x).sum, .int .i64 (plainAn x).mn, .int .i64 (plainAn x).mx, .slice ae (List.length (en2 (plainAn x).ents)) ce, .slice ac1 (List.length (ch4 (plainAn x).chs)) cc1, .slice ak (List.length (i64s (plainAn x).keys)) ck, .slice ab (List.length (by8 (plainAn x).bytes)) cb] 45 :: Sh 63 4 (ch4 x.chs) ac cc :: cel b1 #[.int .i64 x.err, .int .u64 x.handle, .int .i64 x.value, .bool x.found, .int .i64 x.n, .int .i64 x.ekey, .int .i64 x.eval, .int .i64 x.count, .int .i64 x.sum, .int .i64 x.mn, .int .i64 x.mx, .slice ae (List.length (en2 x.ents)) ce, .slice ac (List.length (ch4 x.chs)) cc, .slice ak (List.length (i64s x.keys)) ck, .slice ab (List.length (by8 x.bytes)) cb] 45 :: Sh 5 1 (by8 x.bytes) ab cb :: Sh 40 2 (en2 x.ents) ae ce :: Sh 2 1 (i64s x.keys) ak ck :: L) w := hS
            refine WL.nil ?_
            refine ⟨by exact trivial, ?_⟩
            refine WQ.r 1 rfl ?_
            refine WQ.ung rfl rfl rfl ?_
            refine WQ.r 1 rfl ?_
            refine WQ.ung rfl rfl rfl ?_
            refine WQ.ldF rfl rfl 15 hS rfl rfl ag_45 ?_
            refine WQ.ung rfl rfl rfl ?_
            refine WQ.r 1 rfl ?_
            refine WQ.ung rfl rfl rfl ?_
            refine WQ.ldF rfl rfl 15 hS rfl rfl ag_45 ?_
            refine WQ.nil ?_
            intro m2
            replace hS := hS.drewN m2; generalize hwm2 : World.drewN _ _ = w at *; clear hwm2
            refine WL.ung rfl rfl rfl ?_
            refine WL.call rfl rfl (appendAnswer_spec (bs := bs) (a := a) (c := c) (x := x) (ab := ab) (ae := ae) (ac := ac) (ak := ak) (cb := cb) (ce := ce) (cc := cc) (ck := ck) (hbs := (by omega)) (hw := hW) (hS := (hS.selU [8, 15, 15, 13, 14] rfl))) rfl ?_
            clear hS; rintro _ w ⟨a3, c3, rfl, hS⟩
            replace hS : St g (Own 5 1 (by8 (bs ++ eAn x)) a3 c3 :: Sh 5 1 (by8 bs) a c :: Sh 5 1 (by8 x.bytes) ab cb :: Sh 40 2 (en2 x.ents) ae ce :: Sh 63 4 (ch4 x.chs) ac cc :: Sh 2 1 (i64s x.keys) ak ck :: cel b3 #[.int .i64 N1.1.err, .int .u64 N1.1.handle, .int .i64 N1.1.value, .bool N1.1.found, .int .i64 N1.1.n, .int .i64 N1.1.ekey, .int .i64 N1.1.eval, .int .i64 N1.1.count, .int .i64 N1.1.sum, .int .i64 N1.1.mn, .int .i64 N1.1.mx, .slice ae1 (List.length (en2 N1.1.ents)) ce1, .slice ac2 (List.length (ch4 N1.1.chs)) cc2, .slice ak1 (List.length (i64s N1.1.keys)) ck1, .slice ab1 (List.length (by8 N1.1.bytes)) cb1] 45 :: Sh 5 1 (by8 ((bs ++ eAn (plainAn x)) ++ ts)) a2 c2 :: Own 5 1 (by8 N1.1.bytes) ab1 cb1 :: Own 40 2 (en2 N1.1.ents) ae1 ce1 :: Own 63 4 (ch4 N1.1.chs) ac2 cc2 :: Own 2 1 (i64s N1.1.keys) ak1 ck1 :: Sh 5 1 (by8 (bs ++ eAn (plainAn x))) a1 c1 :: Sh 5 1 (by8 ts) d e :: Sh 5 1 (by8 (plainAn x).bytes) ab cb :: Sh 40 2 (en2 (plainAn x).ents) ae ce :: Sh 63 4 (ch4 (plainAn x).chs) ac1 cc1 :: Sh 2 1 (i64s (plainAn x).keys) ak ck :: cel b2 #[.int .i64 (plainAn x).err, .int .u64 (plainAn x).handle, .int .i64 (plainAn x).value, .bool (plainAn x).found, .int .i64 (plainAn x).n, .int .i64 (plainAn x).ekey, .int .i64 (plainAn x).eval, .int .i64 (plainAn x).count, .int .i64 (plainAn x).sum, .int .i64 (plainAn x).mn, .int .i64 (plainAn x).mx, .slice ae (List.length (en2 (plainAn x).ents)) ce, .slice ac1 (List.length (ch4 (plainAn x).chs)) cc1, .slice ak (List.length (i64s (plainAn x).keys)) ck, .slice ab (List.length (by8 (plainAn x).bytes)) cb] 45 :: cel b1 #[.int .i64 x.err, .int .u64 x.handle, .int .i64 x.value, .bool x.found, .int .i64 x.n, .int .i64 x.ekey, .int .i64 x.eval, .int .i64 x.count, .int .i64 x.sum, .int .i64 x.mn, .int .i64 x.mx, .slice ae (List.length (en2 x.ents)) ce, .slice ac (List.length (ch4 x.chs)) cc, .slice ak (List.length (i64s x.keys)) ck, .slice ab (List.length (by8 x.bytes)) cb] 45 :: L) w := hS
            refine WL.nil ?_
            refine ⟨by exact ⟨RQ.ung rfl rfl rfl (RQ.pure rfl rfl rfl rfl), RQ.ung rfl rfl rfl (RQ.ldF rfl rfl 19 hS rfl rfl ag_45 rfl rfl)⟩, ?_⟩
            refine WQ.nil ?_
            intro m3
            replace hS := hS.drewN m3; generalize hwm3 : World.drewN _ _ = w at *; clear hwm3
            refine WL.ung rfl rfl rfl ?_
            refine WL.call rfl rfl (ranswer_spec (x := x) (ab := ab) (ae := ae) (ac := ac) (ak := ak) (cb := cb) (ce := ce) (cc := cc) (ck := ck) (hw := hW) (hS := (hS.sel 6 [2, 2, 2, 2, 0, 0] rfl))) rfl ?_
            clear hS; rintro _ w ⟨a4, c4, rfl, hS⟩
            replace hS : St g (Own 5 1 (by8 (eAn x)) a4 c4 :: Sh 5 1 (by8 x.bytes) ab cb :: Sh 40 2 (en2 x.ents) ae ce :: Sh 63 4 (ch4 x.chs) ac cc :: Sh 2 1 (i64s x.keys) ak ck :: Own 5 1 (by8 (bs ++ eAn x)) a3 c3 :: Sh 5 1 (by8 bs) a c :: cel b3 #[.int .i64 N1.1.err, .int .u64 N1.1.handle, .int .i64 N1.1.value, .bool N1.1.found, .int .i64 N1.1.n, .int .i64 N1.1.ekey, .int .i64 N1.1.eval, .int .i64 N1.1.count, .int .i64 N1.1.sum, .int .i64 N1.1.mn, .int .i64 N1.1.mx, .slice ae1 (List.length (en2 N1.1.ents)) ce1, .slice ac2 (List.length (ch4 N1.1.chs)) cc2, .slice ak1 (List.length (i64s N1.1.keys)) ck1, .slice ab1 (List.length (by8 N1.1.bytes)) cb1] 45 :: Sh 5 1 (by8 ((bs ++ eAn (plainAn x)) ++ ts)) a2 c2 :: Own 5 1 (by8 N1.1.bytes) ab1 cb1 :: Own 40 2 (en2 N1.1.ents) ae1 ce1 :: Own 63 4 (ch4 N1.1.chs) ac2 cc2 :: Own 2 1 (i64s N1.1.keys) ak1 ck1 :: Sh 5 1 (by8 (bs ++ eAn (plainAn x))) a1 c1 :: Sh 5 1 (by8 ts) d e :: Sh 5 1 (by8 (plainAn x).bytes) ab cb :: Sh 40 2 (en2 (plainAn x).ents) ae ce :: Sh 63 4 (ch4 (plainAn x).chs) ac1 cc1 :: Sh 2 1 (i64s (plainAn x).keys) ak ck :: cel b2 #[.int .i64 (plainAn x).err, .int .u64 (plainAn x).handle, .int .i64 (plainAn x).value, .bool (plainAn x).found, .int .i64 (plainAn x).n, .int .i64 (plainAn x).ekey, .int .i64 (plainAn x).eval, .int .i64 (plainAn x).count, .int .i64 (plainAn x).sum, .int .i64 (plainAn x).mn, .int .i64 (plainAn x).mx, .slice ae (List.length (en2 (plainAn x).ents)) ce, .slice ac1 (List.length (ch4 (plainAn x).chs)) cc1, .slice ak (List.length (i64s (plainAn x).keys)) ck, .slice ab (List.length (by8 (plainAn x).bytes)) cb] 45 :: cel b1 #[.int .i64 x.err, .int .u64 x.handle, .int .i64 x.value, .bool x.found, .int .i64 x.n, .int .i64 x.ekey, .int .i64 x.eval, .int .i64 x.count, .int .i64 x.sum, .int .i64 x.mn, .int .i64 x.mx, .slice ae (List.length (en2 x.ents)) ce, .slice ac (List.length (ch4 x.chs)) cc, .slice ak (List.length (i64s x.keys)) ck, .slice ab (List.length (by8 x.bytes)) cb] 45 :: L) w := hS
            refine WL.nil ?_
            refine ⟨by exact RQ.ung rfl rfl rfl (RQ.pure rfl rfl rfl rfl), ?_⟩
            refine WQ.nil ?_
            intro m4
            replace hS := hS.drewN m4; generalize hwm4 : World.drewN _ _ = w at *; clear hwm4
            refine WL.ung rfl rfl rfl ?_
            replace hS := (hS.at_ 0 rfl).share
            replace hS : St g (Sh 5 1 (by8 (eAn x)) a4 c4 :: Sh 5 1 (by8 x.bytes) ab cb :: Sh 40 2 (en2 x.ents) ae ce :: Sh 63 4 (ch4 x.chs) ac cc :: Sh 2 1 (i64s x.keys) ak ck :: Own 5 1 (by8 (bs ++ eAn x)) a3 c3 :: Sh 5 1 (by8 bs) a c :: cel b3 #[.int .i64 N1.1.err, .int .u64 N1.1.handle, .int .i64 N1.1.value, .bool N1.1.found, .int .i64 N1.1.n, .int .i64 N1.1.ekey, .int .i64 N1.1.eval, .int .i64 N1.1.count, .int .i64 N1.1.sum, .int .i64 N1.1.mn, .int .i64 N1.1.mx, .slice ae1 (List.length (en2 N1.1.ents)) ce1, .slice ac2 (List.length (ch4 N1.1.chs)) cc2, .slice ak1 (List.length (i64s N1.1.keys)) ck1, .slice ab1 (List.length (by8 N1.1.bytes)) cb1] 45 :: Sh 5 1 (by8 ((bs ++ eAn (plainAn x)) ++ ts)) a2 c2 :: Own 5 1 (by8 N1.1.bytes) ab1 cb1 :: Own 40 2 (en2 N1.1.ents) ae1 ce1 :: Own 63 4 (ch4 N1.1.chs) ac2 cc2 :: Own 2 1 (i64s N1.1.keys) ak1 ck1 :: Sh 5 1 (by8 (bs ++ eAn (plainAn x))) a1 c1 :: Sh 5 1 (by8 ts) d e :: Sh 5 1 (by8 (plainAn x).bytes) ab cb :: Sh 40 2 (en2 (plainAn x).ents) ae ce :: Sh 63 4 (ch4 (plainAn x).chs) ac1 cc1 :: Sh 2 1 (i64s (plainAn x).keys) ak ck :: cel b2 #[.int .i64 (plainAn x).err, .int .u64 (plainAn x).handle, .int .i64 (plainAn x).value, .bool (plainAn x).found, .int .i64 (plainAn x).n, .int .i64 (plainAn x).ekey, .int .i64 (plainAn x).eval, .int .i64 (plainAn x).count, .int .i64 (plainAn x).sum, .int .i64 (plainAn x).mn, .int .i64 (plainAn x).mx, .slice ae (List.length (en2 (plainAn x).ents)) ce, .slice ac1 (List.length (ch4 (plainAn x).chs)) cc1, .slice ak (List.length (i64s (plainAn x).keys)) ck, .slice ab (List.length (by8 (plainAn x).bytes)) cb] 45 :: cel b1 #[.int .i64 x.err, .int .u64 x.handle, .int .i64 x.value, .bool x.found, .int .i64 x.n, .int .i64 x.ekey, .int .i64 x.eval, .int .i64 x.count, .int .i64 x.sum, .int .i64 x.mn, .int .i64 x.mx, .slice ae (List.length (en2 x.ents)) ce, .slice ac (List.length (ch4 x.chs)) cc, .slice ak (List.length (i64s x.keys)) ck, .slice ab (List.length (by8 x.bytes)) cb] 45 :: L) w := hS
            refine WL.call rfl rfl (rjoin (xs := bs) (ys := eAn x) (a := a) (b := a4) (c := c) (d := c4) (hx := (by omega)) (hS := (hS.sel 7 [6, 0, 0, 0, 0, 0, 0] rfl))) rfl ?_
            clear hS; rintro _ w ⟨a5, c5, rfl, hS⟩
            replace hS : St g (Own 5 1 (by8 (bs ++ (eAn x))) a5 c5 :: Sh 5 1 (by8 bs) a c :: Sh 5 1 (by8 (eAn x)) a4 c4 :: Sh 5 1 (by8 x.bytes) ab cb :: Sh 40 2 (en2 x.ents) ae ce :: Sh 63 4 (ch4 x.chs) ac cc :: Sh 2 1 (i64s x.keys) ak ck :: Own 5 1 (by8 (bs ++ eAn x)) a3 c3 :: cel b3 #[.int .i64 N1.1.err, .int .u64 N1.1.handle, .int .i64 N1.1.value, .bool N1.1.found, .int .i64 N1.1.n, .int .i64 N1.1.ekey, .int .i64 N1.1.eval, .int .i64 N1.1.count, .int .i64 N1.1.sum, .int .i64 N1.1.mn, .int .i64 N1.1.mx, .slice ae1 (List.length (en2 N1.1.ents)) ce1, .slice ac2 (List.length (ch4 N1.1.chs)) cc2, .slice ak1 (List.length (i64s N1.1.keys)) ck1, .slice ab1 (List.length (by8 N1.1.bytes)) cb1] 45 :: Sh 5 1 (by8 ((bs ++ eAn (plainAn x)) ++ ts)) a2 c2 :: Own 5 1 (by8 N1.1.bytes) ab1 cb1 :: Own 40 2 (en2 N1.1.ents) ae1 ce1 :: Own 63 4 (ch4 N1.1.chs) ac2 cc2 :: Own 2 1 (i64s N1.1.keys) ak1 ck1 :: Sh 5 1 (by8 (bs ++ eAn (plainAn x))) a1 c1 :: Sh 5 1 (by8 ts) d e :: Sh 5 1 (by8 (plainAn x).bytes) ab cb :: Sh 40 2 (en2 (plainAn x).ents) ae ce :: Sh 63 4 (ch4 (plainAn x).chs) ac1 cc1 :: Sh 2 1 (i64s (plainAn x).keys) ak ck :: cel b2 #[.int .i64 (plainAn x).err, .int .u64 (plainAn x).handle, .int .i64 (plainAn x).value, .bool (plainAn x).found, .int .i64 (plainAn x).n, .int .i64 (plainAn x).ekey, .int .i64 (plainAn x).eval, .int .i64 (plainAn x).count, .int .i64 (plainAn x).sum, .int .i64 (plainAn x).mn, .int .i64 (plainAn x).mx, .slice ae (List.length (en2 (plainAn x).ents)) ce, .slice ac1 (List.length (ch4 (plainAn x).chs)) cc1, .slice ak (List.length (i64s (plainAn x).keys)) ck, .slice ab (List.length (by8 (plainAn x).bytes)) cb] 45 :: cel b1 #[.int .i64 x.err, .int .u64 x.handle, .int .i64 x.value, .bool x.found, .int .i64 x.n, .int .i64 x.ekey, .int .i64 x.eval, .int .i64 x.count, .int .i64 x.sum, .int .i64 x.mn, .int .i64 x.mx, .slice ae (List.length (en2 x.ents)) ce, .slice ac (List.length (ch4 x.chs)) cc, .slice ak (List.length (i64s x.keys)) ck, .slice ab (List.length (by8 x.bytes)) cb] 45 :: L) w := hS
            refine WL.nil ?_
            refine ⟨by exact trivial, ?_⟩
            refine WQ.nil ?_
            intro m5
            replace hS := hS.drewN m5; generalize hwm5 : World.drewN _ _ = w at *; clear hwm5
            refine WL.ung rfl rfl rfl ?_
            replace hS := (hS.at_ 7 rfl).share
            replace hS : St g (Sh 5 1 (by8 (bs ++ eAn x)) a3 c3 :: Own 5 1 (by8 (bs ++ (eAn x))) a5 c5 :: Sh 5 1 (by8 bs) a c :: Sh 5 1 (by8 (eAn x)) a4 c4 :: Sh 5 1 (by8 x.bytes) ab cb :: Sh 40 2 (en2 x.ents) ae ce :: Sh 63 4 (ch4 x.chs) ac cc :: Sh 2 1 (i64s x.keys) ak ck :: cel b3 #[.int .i64 N1.1.err, .int .u64 N1.1.handle, .int .i64 N1.1.value, .bool N1.1.found, .int .i64 N1.1.n, .int .i64 N1.1.ekey, .int .i64 N1.1.eval, .int .i64 N1.1.count, .int .i64 N1.1.sum, .int .i64 N1.1.mn, .int .i64 N1.1.mx, .slice ae1 (List.length (en2 N1.1.ents)) ce1, .slice ac2 (List.length (ch4 N1.1.chs)) cc2, .slice ak1 (List.length (i64s N1.1.keys)) ck1, .slice ab1 (List.length (by8 N1.1.bytes)) cb1] 45 :: Sh 5 1 (by8 ((bs ++ eAn (plainAn x)) ++ ts)) a2 c2 :: Own 5 1 (by8 N1.1.bytes) ab1 cb1 :: Own 40 2 (en2 N1.1.ents) ae1 ce1 :: Own 63 4 (ch4 N1.1.chs) ac2 cc2 :: Own 2 1 (i64s N1.1.keys) ak1 ck1 :: Sh 5 1 (by8 (bs ++ eAn (plainAn x))) a1 c1 :: Sh 5 1 (by8 ts) d e :: Sh 5 1 (by8 (plainAn x).bytes) ab cb :: Sh 40 2 (en2 (plainAn x).ents) ae ce :: Sh 63 4 (ch4 (plainAn x).chs) ac1 cc1 :: Sh 2 1 (i64s (plainAn x).keys) ak ck :: cel b2 #[.int .i64 (plainAn x).err, .int .u64 (plainAn x).handle, .int .i64 (plainAn x).value, .bool (plainAn x).found, .int .i64 (plainAn x).n, .int .i64 (plainAn x).ekey, .int .i64 (plainAn x).eval, .int .i64 (plainAn x).count, .int .i64 (plainAn x).sum, .int .i64 (plainAn x).mn, .int .i64 (plainAn x).mx, .slice ae (List.length (en2 (plainAn x).ents)) ce, .slice ac1 (List.length (ch4 (plainAn x).chs)) cc1, .slice ak (List.length (i64s (plainAn x).keys)) ck, .slice ab (List.length (by8 (plainAn x).bytes)) cb] 45 :: cel b1 #[.int .i64 x.err, .int .u64 x.handle, .int .i64 x.value, .bool x.found, .int .i64 x.n, .int .i64 x.ekey, .int .i64 x.eval, .int .i64 x.count, .int .i64 x.sum, .int .i64 x.mn, .int .i64 x.mx, .slice ae (List.length (en2 x.ents)) ce, .slice ac (List.length (ch4 x.chs)) cc, .slice ak (List.length (i64s x.keys)) ck, .slice ab (List.length (by8 x.bytes)) cb] 45 :: L) w := hS
            replace hS := (hS.at_ 1 rfl).share
            replace hS : St g (Sh 5 1 (by8 (bs ++ (eAn x))) a5 c5 :: Sh 5 1 (by8 (bs ++ eAn x)) a3 c3 :: Sh 5 1 (by8 bs) a c :: Sh 5 1 (by8 (eAn x)) a4 c4 :: Sh 5 1 (by8 x.bytes) ab cb :: Sh 40 2 (en2 x.ents) ae ce :: Sh 63 4 (ch4 x.chs) ac cc :: Sh 2 1 (i64s x.keys) ak ck :: cel b3 #[.int .i64 N1.1.err, .int .u64 N1.1.handle, .int .i64 N1.1.value, .bool N1.1.found, .int .i64 N1.1.n, .int .i64 N1.1.ekey, .int .i64 N1.1.eval, .int .i64 N1.1.count, .int .i64 N1.1.sum, .int .i64 N1.1.mn, .int .i64 N1.1.mx, .slice ae1 (List.length (en2 N1.1.ents)) ce1, .slice ac2 (List.length (ch4 N1.1.chs)) cc2, .slice ak1 (List.length (i64s N1.1.keys)) ck1, .slice ab1 (List.length (by8 N1.1.bytes)) cb1] 45 :: Sh 5 1 (by8 ((bs ++ eAn (plainAn x)) ++ ts)) a2 c2 :: Own 5 1 (by8 N1.1.bytes) ab1 cb1 :: Own 40 2 (en2 N1.1.ents) ae1 ce1 :: Own 63 4 (ch4 N1.1.chs) ac2 cc2 :: Own 2 1 (i64s N1.1.keys) ak1 ck1 :: Sh 5 1 (by8 (bs ++ eAn (plainAn x))) a1 c1 :: Sh 5 1 (by8 ts) d e :: Sh 5 1 (by8 (plainAn x).bytes) ab cb :: Sh 40 2 (en2 (plainAn x).ents) ae ce :: Sh 63 4 (ch4 (plainAn x).chs) ac1 cc1 :: Sh 2 1 (i64s (plainAn x).keys) ak ck :: cel b2 #[.int .i64 (plainAn x).err, .int .u64 (plainAn x).handle, .int .i64 (plainAn x).value, .bool (plainAn x).found, .int .i64 (plainAn x).n, .int .i64 (plainAn x).ekey, .int .i64 (plainAn x).eval, .int .i64 (plainAn x).count, .int .i64 (plainAn x).sum, .int .i64 (plainAn x).mn, .int .i64 (plainAn x).mx, .slice ae (List.length (en2 (plainAn x).ents)) ce, .slice ac1 (List.length (ch4 (plainAn x).chs)) cc1, .slice ak (List.length (i64s (plainAn x).keys)) ck, .slice ab (List.length (by8 (plainAn x).bytes)) cb] 45 :: cel b1 #[.int .i64 x.err, .int .u64 x.handle, .int .i64 x.value, .bool x.found, .int .i64 x.n, .int .i64 x.ekey, .int .i64 x.eval, .int .i64 x.count, .int .i64 x.sum, .int .i64 x.mn, .int .i64 x.mx, .slice ae (List.length (en2 x.ents)) ce, .slice ac (List.length (ch4 x.chs)) cc, .slice ak (List.length (i64s x.keys)) ck, .slice ab (List.length (by8 x.bytes)) cb] 45 :: L) w := hS
            refine WL.call rfl rfl (sameB (xs := bs ++ eAn x) (ys := bs ++ (eAn x)) (a := a3) (b := a5) (c := c3) (d := c5) (hl := (by simp only [List.length_append]; omega)) (hS := (hS.sel 2 [1, 0] rfl))) rfl ?_
            clear hS; rintro _ w ⟨ok1, rfl, hS, f1⟩
            replace hS : St g (Sh 5 1 (by8 (bs ++ eAn x)) a3 c3 :: Sh 5 1 (by8 (bs ++ (eAn x))) a5 c5 :: Sh 5 1 (by8 bs) a c :: Sh 5 1 (by8 (eAn x)) a4 c4 :: Sh 5 1 (by8 x.bytes) ab cb :: Sh 40 2 (en2 x.ents) ae ce :: Sh 63 4 (ch4 x.chs) ac cc :: Sh 2 1 (i64s x.keys) ak ck :: cel b3 #[.int .i64 N1.1.err, .int .u64 N1.1.handle, .int .i64 N1.1.value, .bool N1.1.found, .int .i64 N1.1.n, .int .i64 N1.1.ekey, .int .i64 N1.1.eval, .int .i64 N1.1.count, .int .i64 N1.1.sum, .int .i64 N1.1.mn, .int .i64 N1.1.mx, .slice ae1 (List.length (en2 N1.1.ents)) ce1, .slice ac2 (List.length (ch4 N1.1.chs)) cc2, .slice ak1 (List.length (i64s N1.1.keys)) ck1, .slice ab1 (List.length (by8 N1.1.bytes)) cb1] 45 :: Sh 5 1 (by8 ((bs ++ eAn (plainAn x)) ++ ts)) a2 c2 :: Own 5 1 (by8 N1.1.bytes) ab1 cb1 :: Own 40 2 (en2 N1.1.ents) ae1 ce1 :: Own 63 4 (ch4 N1.1.chs) ac2 cc2 :: Own 2 1 (i64s N1.1.keys) ak1 ck1 :: Sh 5 1 (by8 (bs ++ eAn (plainAn x))) a1 c1 :: Sh 5 1 (by8 ts) d e :: Sh 5 1 (by8 (plainAn x).bytes) ab cb :: Sh 40 2 (en2 (plainAn x).ents) ae ce :: Sh 63 4 (ch4 (plainAn x).chs) ac1 cc1 :: Sh 2 1 (i64s (plainAn x).keys) ak ck :: cel b2 #[.int .i64 (plainAn x).err, .int .u64 (plainAn x).handle, .int .i64 (plainAn x).value, .bool (plainAn x).found, .int .i64 (plainAn x).n, .int .i64 (plainAn x).ekey, .int .i64 (plainAn x).eval, .int .i64 (plainAn x).count, .int .i64 (plainAn x).sum, .int .i64 (plainAn x).mn, .int .i64 (plainAn x).mx, .slice ae (List.length (en2 (plainAn x).ents)) ce, .slice ac1 (List.length (ch4 (plainAn x).chs)) cc1, .slice ak (List.length (i64s (plainAn x).keys)) ck, .slice ab (List.length (by8 (plainAn x).bytes)) cb] 45 :: cel b1 #[.int .i64 x.err, .int .u64 x.handle, .int .i64 x.value, .bool x.found, .int .i64 x.n, .int .i64 x.ekey, .int .i64 x.eval, .int .i64 x.count, .int .i64 x.sum, .int .i64 x.mn, .int .i64 x.mx, .slice ae (List.length (en2 x.ents)) ce, .slice ac (List.length (ch4 x.chs)) cc, .slice ak (List.length (i64s x.keys)) ck, .slice ab (List.length (by8 x.bytes)) cb] 45 :: L) w := hS
            refine WL.nil ?_
            refine ⟨by exact trivial, ?_⟩
            refine WQ.r 2 rfl ?_
            by_cases cg3 : ok1 = true
            · refine WQ.reb 51 (.bool true) (congrArg Value.bool cg3) ?_
              refine WQ.ung rfl rfl rfl ?_
              refine WQ.r 1 rfl ?_
              refine WQ.ung rfl rfl rfl ?_
              refine WQ.r 1 rfl ?_
              refine WQ.ung rfl rfl rfl ?_
              refine WQ.r 1 rfl ?_
              refine WQ.ung rfl rfl rfl ?_
              refine WQ.r 3 rfl ?_
              by_cases cg4 : N1.2.1 = (List.length (by8 (bs ++ eAn (plainAn x))) : Int)
              · refine WQ.reb 57 (.bool true) (congrArg Value.bool (decide_eq_true cg4)) ?_
                refine WQ.ung rfl rfl rfl ?_
                refine WQ.r 1 rfl ?_
                refine WQ.ung rfl rfl rfl ?_
                refine WQ.r 3 rfl ?_
                by_cases cg5 : N1.2.2 = 0
                · refine WQ.reb 61 (.bool true) (congrArg Value.bool (decide_eq_true cg5)) ?_
                  refine WQ.ung rfl rfl rfl ?_
                  refine WQ.ldF rfl rfl 20 hS rfl rfl ag_45 ?_
                  refine WQ.ung rfl rfl rfl ?_
                  refine WQ.ldF rfl rfl 8 hS rfl rfl ag_45 ?_
                  refine WQ.nil ?_
                  intro m6
                  replace hS := hS.drewN m6; generalize hwm6 : World.drewN _ _ = w at *; clear hwm6
                  refine WL.ung rfl rfl rfl ?_
                  replace hS := (hS.at_ 10 rfl).share
                  replace hS : St g (Sh 5 1 (by8 N1.1.bytes) ab1 cb1 :: Sh 5 1 (by8 (bs ++ eAn x)) a3 c3 :: Sh 5 1 (by8 (bs ++ (eAn x))) a5 c5 :: Sh 5 1 (by8 bs) a c :: Sh 5 1 (by8 (eAn x)) a4 c4 :: Sh 5 1 (by8 x.bytes) ab cb :: Sh 40 2 (en2 x.ents) ae ce :: Sh 63 4 (ch4 x.chs) ac cc :: Sh 2 1 (i64s x.keys) ak ck :: cel b3 #[.int .i64 N1.1.err, .int .u64 N1.1.handle, .int .i64 N1.1.value, .bool N1.1.found, .int .i64 N1.1.n, .int .i64 N1.1.ekey, .int .i64 N1.1.eval, .int .i64 N1.1.count, .int .i64 N1.1.sum, .int .i64 N1.1.mn, .int .i64 N1.1.mx, .slice ae1 (List.length (en2 N1.1.ents)) ce1, .slice ac2 (List.length (ch4 N1.1.chs)) cc2, .slice ak1 (List.length (i64s N1.1.keys)) ck1, .slice ab1 (List.length (by8 N1.1.bytes)) cb1] 45 :: Sh 5 1 (by8 ((bs ++ eAn (plainAn x)) ++ ts)) a2 c2 :: Own 40 2 (en2 N1.1.ents) ae1 ce1 :: Own 63 4 (ch4 N1.1.chs) ac2 cc2 :: Own 2 1 (i64s N1.1.keys) ak1 ck1 :: Sh 5 1 (by8 (bs ++ eAn (plainAn x))) a1 c1 :: Sh 5 1 (by8 ts) d e :: Sh 5 1 (by8 (plainAn x).bytes) ab cb :: Sh 40 2 (en2 (plainAn x).ents) ae ce :: Sh 63 4 (ch4 (plainAn x).chs) ac1 cc1 :: Sh 2 1 (i64s (plainAn x).keys) ak ck :: cel b2 #[.int .i64 (plainAn x).err, .int .u64 (plainAn x).handle, .int .i64 (plainAn x).value, .bool (plainAn x).found, .int .i64 (plainAn x).n, .int .i64 (plainAn x).ekey, .int .i64 (plainAn x).eval, .int .i64 (plainAn x).count, .int .i64 (plainAn x).sum, .int .i64 (plainAn x).mn, .int .i64 (plainAn x).mx, .slice ae (List.length (en2 (plainAn x).ents)) ce, .slice ac1 (List.length (ch4 (plainAn x).chs)) cc1, .slice ak (List.length (i64s (plainAn x).keys)) ck, .slice ab (List.length (by8 (plainAn x).bytes)) cb] 45 :: cel b1 #[.int .i64 x.err, .int .u64 x.handle, .int .i64 x.value, .bool x.found, .int .i64 x.n, .int .i64 x.ekey, .int .i64 x.eval, .int .i64 x.count, .int .i64 x.sum, .int .i64 x.mn, .int .i64 x.mx, .slice ae (List.length (en2 x.ents)) ce, .slice ac (List.length (ch4 x.chs)) cc, .slice ak (List.length (i64s x.keys)) ck, .slice ab (List.length (by8 x.bytes)) cb] 45 :: L) w := hS
                  replace hS := (hS.at_ 11 rfl).share
                  replace hS : St g (Sh 40 2 (en2 N1.1.ents) ae1 ce1 :: Sh 5 1 (by8 N1.1.bytes) ab1 cb1 :: Sh 5 1 (by8 (bs ++ eAn x)) a3 c3 :: Sh 5 1 (by8 (bs ++ (eAn x))) a5 c5 :: Sh 5 1 (by8 bs) a c :: Sh 5 1 (by8 (eAn x)) a4 c4 :: Sh 5 1 (by8 x.bytes) ab cb :: Sh 40 2 (en2 x.ents) ae ce :: Sh 63 4 (ch4 x.chs) ac cc :: Sh 2 1 (i64s x.keys) ak ck :: cel b3 #[.int .i64 N1.1.err, .int .u64 N1.1.handle, .int .i64 N1.1.value, .bool N1.1.found, .int .i64 N1.1.n, .int .i64 N1.1.ekey, .int .i64 N1.1.eval, .int .i64 N1.1.count, .int .i64 N1.1.sum, .int .i64 N1.1.mn, .int .i64 N1.1.mx, .slice ae1 (List.length (en2 N1.1.ents)) ce1, .slice ac2 (List.length (ch4 N1.1.chs)) cc2, .slice ak1 (List.length (i64s N1.1.keys)) ck1, .slice ab1 (List.length (by8 N1.1.bytes)) cb1] 45 :: Sh 5 1 (by8 ((bs ++ eAn (plainAn x)) ++ ts)) a2 c2 :: Own 63 4 (ch4 N1.1.chs) ac2 cc2 :: Own 2 1 (i64s N1.1.keys) ak1 ck1 :: Sh 5 1 (by8 (bs ++ eAn (plainAn x))) a1 c1 :: Sh 5 1 (by8 ts) d e :: Sh 5 1 (by8 (plainAn x).bytes) ab cb :: Sh 40 2 (en2 (plainAn x).ents) ae ce :: Sh 63 4 (ch4 (plainAn x).chs) ac1 cc1 :: Sh 2 1 (i64s (plainAn x).keys) ak ck :: cel b2 #[.int .i64 (plainAn x).err, .int .u64 (plainAn x).handle, .int .i64 (plainAn x).value, .bool (plainAn x).found, .int .i64 (plainAn x).n, .int .i64 (plainAn x).ekey, .int .i64 (plainAn x).eval, .int .i64 (plainAn x).count, .int .i64 (plainAn x).sum, .int .i64 (plainAn x).mn, .int .i64 (plainAn x).mx, .slice ae (List.length (en2 (plainAn x).ents)) ce, .slice ac1 (List.length (ch4 (plainAn x).chs)) cc1, .slice ak (List.length (i64s (plainAn x).keys)) ck, .slice ab (List.length (by8 (plainAn x).bytes)) cb] 45 :: cel b1 #[.int .i64 x.err, .int .u64 x.handle, .int .i64 x.value, .bool x.found, .int .i64 x.n, .int .i64 x.ekey, .int .i64 x.eval, .int .i64 x.count, .int .i64 x.sum, .int .i64 x.mn, .int .i64 x.mx, .slice ae (List.length (en2 x.ents)) ce, .slice ac (List.length (ch4 x.chs)) cc, .slice ak (List.length (i64s x.keys)) ck, .slice ab (List.length (by8 x.bytes)) cb] 45 :: L) w := hS
                  replace hS := (hS.at_ 12 rfl).share
                  replace hS : St g (Sh 63 4 (ch4 N1.1.chs) ac2 cc2 :: Sh 40 2 (en2 N1.1.ents) ae1 ce1 :: Sh 5 1 (by8 N1.1.bytes) ab1 cb1 :: Sh 5 1 (by8 (bs ++ eAn x)) a3 c3 :: Sh 5 1 (by8 (bs ++ (eAn x))) a5 c5 :: Sh 5 1 (by8 bs) a c :: Sh 5 1 (by8 (eAn x)) a4 c4 :: Sh 5 1 (by8 x.bytes) ab cb :: Sh 40 2 (en2 x.ents) ae ce :: Sh 63 4 (ch4 x.chs) ac cc :: Sh 2 1 (i64s x.keys) ak ck :: cel b3 #[.int .i64 N1.1.err, .int .u64 N1.1.handle, .int .i64 N1.1.value, .bool N1.1.found, .int .i64 N1.1.n, .int .i64 N1.1.ekey, .int .i64 N1.1.eval, .int .i64 N1.1.count, .int .i64 N1.1.sum, .int .i64 N1.1.mn, .int .i64 N1.1.mx, .slice ae1 (List.length (en2 N1.1.ents)) ce1, .slice ac2 (List.length (ch4 N1.1.chs)) cc2, .slice ak1 (List.length (i64s N1.1.keys)) ck1, .slice ab1 (List.length (by8 N1.1.bytes)) cb1] 45 :: Sh 5 1 (by8 ((bs ++ eAn (plainAn x)) ++ ts)) a2 c2 :: Own 2 1 (i64s N1.1.keys) ak1 ck1 :: Sh 5 1 (by8 (bs ++ eAn (plainAn x))) a1 c1 :: Sh 5 1 (by8 ts) d e :: Sh 5 1 (by8 (plainAn x).bytes) ab cb :: Sh 40 2 (en2 (plainAn x).ents) ae ce :: Sh 63 4 (ch4 (plainAn x).chs) ac1 cc1 :: Sh 2 1 (i64s (plainAn x).keys) ak ck :: cel b2 #[.int .i64 (plainAn x).err, .int .u64 (plainAn x).handle, .int .i64 (plainAn x).value, .bool (plainAn x).found, .int .i64 (plainAn x).n, .int .i64 (plainAn x).ekey, .int .i64 (plainAn x).eval, .int .i64 (plainAn x).count, .int .i64 (plainAn x).sum, .int .i64 (plainAn x).mn, .int .i64 (plainAn x).mx, .slice ae (List.length (en2 (plainAn x).ents)) ce, .slice ac1 (List.length (ch4 (plainAn x).chs)) cc1, .slice ak (List.length (i64s (plainAn x).keys)) ck, .slice ab (List.length (by8 (plainAn x).bytes)) cb] 45 :: cel b1 #[.int .i64 x.err, .int .u64 x.handle, .int .i64 x.value, .bool x.found, .int .i64 x.n, .int .i64 x.ekey, .int .i64 x.eval, .int .i64 x.count, .int .i64 x.sum, .int .i64 x.mn, .int .i64 x.mx, .slice ae (List.length (en2 x.ents)) ce, .slice ac (List.length (ch4 x.chs)) cc, .slice ak (List.length (i64s x.keys)) ck, .slice ab (List.length (by8 x.bytes)) cb] 45 :: L) w := hS
                  replace hS := (hS.at_ 13 rfl).share
                  replace hS : St g (Sh 2 1 (i64s N1.1.keys) ak1 ck1 :: Sh 63 4 (ch4 N1.1.chs) ac2 cc2 :: Sh 40 2 (en2 N1.1.ents) ae1 ce1 :: Sh 5 1 (by8 N1.1.bytes) ab1 cb1 :: Sh 5 1 (by8 (bs ++ eAn x)) a3 c3 :: Sh 5 1 (by8 (bs ++ (eAn x))) a5 c5 :: Sh 5 1 (by8 bs) a c :: Sh 5 1 (by8 (eAn x)) a4 c4 :: Sh 5 1 (by8 x.bytes) ab cb :: Sh 40 2 (en2 x.ents) ae ce :: Sh 63 4 (ch4 x.chs) ac cc :: Sh 2 1 (i64s x.keys) ak ck :: cel b3 #[.int .i64 N1.1.err, .int .u64 N1.1.handle, .int .i64 N1.1.value, .bool N1.1.found, .int .i64 N1.1.n, .int .i64 N1.1.ekey, .int .i64 N1.1.eval, .int .i64 N1.1.count, .int .i64 N1.1.sum, .int .i64 N1.1.mn, .int .i64 N1.1.mx, .slice ae1 (List.length (en2 N1.1.ents)) ce1, .slice ac2 (List.length (ch4 N1.1.chs)) cc2, .slice ak1 (List.length (i64s N1.1.keys)) ck1, .slice ab1 (List.length (by8 N1.1.bytes)) cb1] 45 :: Sh 5 1 (by8 ((bs ++ eAn (plainAn x)) ++ ts)) a2 c2 :: Sh 5 1 (by8 (bs ++ eAn (plainAn x))) a1 c1 :: Sh 5 1 (by8 ts) d e :: Sh 5 1 (by8 (plainAn x).bytes) ab cb :: Sh 40 2 (en2 (plainAn x).ents) ae ce :: Sh 63 4 (ch4 (plainAn x).chs) ac1 cc1 :: Sh 2 1 (i64s (plainAn x).keys) ak ck :: cel b2 #[.int .i64 (plainAn x).err, .int .u64 (plainAn x).handle, .int .i64 (plainAn x).value, .bool (plainAn x).found, .int .i64 (plainAn x).n, .int .i64 (plainAn x).ekey, .int .i64 (plainAn x).eval, .int .i64 (plainAn x).count, .int .i64 (plainAn x).sum, .int .i64 (plainAn x).mn, .int .i64 (plainAn x).mx, .slice ae (List.length (en2 (plainAn x).ents)) ce, .slice ac1 (List.length (ch4 (plainAn x).chs)) cc1, .slice ak (List.length (i64s (plainAn x).keys)) ck, .slice ab (List.length (by8 (plainAn x).bytes)) cb] 45 :: cel b1 #[.int .i64 x.err, .int .u64 x.handle, .int .i64 x.value, .bool x.found, .int .i64 x.n, .int .i64 x.ekey, .int .i64 x.eval, .int .i64 x.count, .int .i64 x.sum, .int .i64 x.mn, .int .i64 x.mx, .slice ae (List.length (en2 x.ents)) ce, .slice ac (List.length (ch4 x.chs)) cc, .slice ak (List.length (i64s x.keys)) ck, .slice ab (List.length (by8 x.bytes)) cb] 45 :: L) w := hS
                  refine WL.call rfl rfl (sameans_spec (x := plainAn x) (y := N1.1) (ab := ab) (ae := ae) (ac := ac1) (ak := ak) (ab2 := ab1) (ae2 := ae1) (ac2 := ac2) (ak2 := ak1) (cb := cb) (ce := ce) (cc := cc1) (ck := ck) (cb2 := cb1) (ce2 := ce1) (cc2 := cc2) (ck2 := ck1) (h1 := (by omega)) (h2 := (by omega)) (h3 := (by omega)) (hbx := hP.by_) (hby := (by rw [hN]; exact hP.by_)) (hS := (hS.selU [16, 16, 16, 16, 3, 2, 1] rfl))) rfl ?_
                  clear hS; rintro _ w ⟨ok2, rfl, hS, f2⟩
                  replace hS : St g (Sh 5 1 (by8 (plainAn x).bytes) ab cb :: Sh 40 2 (en2 (plainAn x).ents) ae ce :: Sh 63 4 (ch4 (plainAn x).chs) ac1 cc1 :: Sh 2 1 (i64s (plainAn x).keys) ak ck :: Sh 5 1 (by8 N1.1.bytes) ab1 cb1 :: Sh 40 2 (en2 N1.1.ents) ae1 ce1 :: Sh 63 4 (ch4 N1.1.chs) ac2 cc2 :: Sh 2 1 (i64s N1.1.keys) ak1 ck1 :: Sh 5 1 (by8 (bs ++ eAn x)) a3 c3 :: Sh 5 1 (by8 (bs ++ (eAn x))) a5 c5 :: Sh 5 1 (by8 bs) a c :: Sh 5 1 (by8 (eAn x)) a4 c4 :: Sh 5 1 (by8 x.bytes) ab cb :: Sh 40 2 (en2 x.ents) ae ce :: Sh 63 4 (ch4 x.chs) ac cc :: Sh 2 1 (i64s x.keys) ak ck :: cel b3 #[.int .i64 N1.1.err, .int .u64 N1.1.handle, .int .i64 N1.1.value, .bool N1.1.found, .int .i64 N1.1.n, .int .i64 N1.1.ekey, .int .i64 N1.1.eval, .int .i64 N1.1.count, .int .i64 N1.1.sum, .int .i64 N1.1.mn, .int .i64 N1.1.mx, .slice ae1 (List.length (en2 N1.1.ents)) ce1, .slice ac2 (List.length (ch4 N1.1.chs)) cc2, .slice ak1 (List.length (i64s N1.1.keys)) ck1, .slice ab1 (List.length (by8 N1.1.bytes)) cb1] 45 :: Sh 5 1 (by8 ((bs ++ eAn (plainAn x)) ++ ts)) a2 c2 :: Sh 5 1 (by8 (bs ++ eAn (plainAn x))) a1 c1 :: Sh 5 1 (by8 ts) d e :: cel b2 #[.int .i64 (plainAn x).err, .int .u64 (plainAn x).handle, .int .i64 (plainAn x).value, .bool (plainAn x).found, .int .i64 (plainAn x).n, .int .i64 (plainAn x).ekey, .int .i64 (plainAn x).eval, .int .i64 (plainAn x).count, .int .i64 (plainAn x).sum, .int .i64 (plainAn x).mn, .int .i64 (plainAn x).mx, .slice ae (List.length (en2 (plainAn x).ents)) ce, .slice ac1 (List.length (ch4 (plainAn x).chs)) cc1, .slice ak (List.length (i64s (plainAn x).keys)) ck, .slice ab (List.length (by8 (plainAn x).bytes)) cb] 45 :: cel b1 #[.int .i64 x.err, .int .u64 x.handle, .int .i64 x.value, .bool x.found, .int .i64 x.n, .int .i64 x.ekey, .int .i64 x.eval, .int .i64 x.count, .int .i64 x.sum, .int .i64 x.mn, .int .i64 x.mx, .slice ae (List.length (en2 x.ents)) ce, .slice ac (List.length (ch4 x.chs)) cc, .slice ak (List.length (i64s x.keys)) ck, .slice ab (List.length (by8 x.bytes)) cb] 45 :: L) w := hS
                  refine WL.nil ?_
                  refine ⟨by exact trivial, ?_⟩
                  refine WQ.r 2 rfl ?_
                  refine WQ.nil ?_
                  intro m7
                  replace hS := hS.drewN m7; generalize hwm7 : World.drewN _ _ = w at *; clear hwm7
                  as_aux_lemma =>
                    refine WC.ret ?_
                    refine ⟨[.bool ok2], rfl, ?_⟩
                    replace hS := (hS.sel 22 [] rfl)
                    exact ⟨congrArg Value.bool (f2.2 (by rw [hN])), hS⟩
                · refine WQ.reb 61 (.bool false) (congrArg Value.bool (decide_eq_false cg5)) ?_
                  refine WQ.skp rfl rfl rfl rfl ?_
                  refine WQ.skp rfl rfl rfl rfl ?_
                  refine WQ.nil ?_
                  intro m6
                  replace hS := hS.drewN m6; generalize hwm6 : World.drewN _ _ = w at *; clear hwm6
                  refine WL.skp rfl rfl rfl rfl ?_
                  refine WL.nil ?_
                  refine ⟨by exact trivial, ?_⟩
                  refine WQ.r 2 rfl ?_
                  refine WQ.nil ?_
                  intro m7
                  replace hS := hS.drewN m7; generalize hwm7 : World.drewN _ _ = w at *; clear hwm7
                  as_aux_lemma =>
                    refine WC.ret ?_
                    refine ⟨[.bool false], rfl, ?_⟩
                    replace hS := (hS.sel 22 [] rfl)
                    exact absurd (by rw [hN]) cg5
              · refine WQ.reb 57 (.bool false) (congrArg Value.bool (decide_eq_false cg4)) ?_
                refine WQ.skp rfl rfl rfl rfl ?_
                refine WQ.skp rfl rfl rfl rfl ?_
                refine WQ.r 2 rfl ?_
                refine WQ.skp rfl rfl rfl rfl ?_
                refine WQ.skp rfl rfl rfl rfl ?_
                refine WQ.nil ?_
                intro m6
                replace hS := hS.drewN m6; generalize hwm6 : World.drewN _ _ = w at *; clear hwm6
                refine WL.skp rfl rfl rfl rfl ?_
                refine WL.nil ?_
                refine ⟨by exact trivial, ?_⟩
                refine WQ.r 2 rfl ?_
                refine WQ.nil ?_
                intro m7
                replace hS := hS.drewN m7; generalize hwm7 : World.drewN _ _ = w at *; clear hwm7
                as_aux_lemma =>
                  refine WC.ret ?_
                  refine ⟨[.bool false], rfl, ?_⟩
                  replace hS := (hS.sel 22 [] rfl)
                  exact absurd (by rw [hN]; simp) cg4
            · refine WQ.reb 51 (.bool false) (congrArg Value.bool (Bool.eq_false_iff.2 cg3)) ?_
              refine WQ.skp rfl rfl rfl rfl ?_
              refine WQ.skp rfl rfl rfl rfl ?_
              refine WQ.skp rfl rfl rfl rfl ?_
              refine WQ.skp rfl rfl rfl rfl ?_
              refine WQ.r 2 rfl ?_
              refine WQ.skp rfl rfl rfl rfl ?_
              refine WQ.skp rfl rfl rfl rfl ?_
              refine WQ.r 2 rfl ?_
              refine WQ.skp rfl rfl rfl rfl ?_
              refine WQ.skp rfl rfl rfl rfl ?_
              refine WQ.nil ?_
              intro m6
              replace hS := hS.drewN m6; generalize hwm6 : World.drewN _ _ = w at *; clear hwm6
              refine WL.skp rfl rfl rfl rfl ?_
              refine WL.nil ?_
              refine ⟨by exact trivial, ?_⟩
              refine WQ.r 2 rfl ?_
              refine WQ.nil ?_
              intro m7
              replace hS := hS.drewN m7; generalize hwm7 : World.drewN _ _ = w at *; clear hwm7
              as_aux_lemma =>
                refine WC.ret ?_
                refine ⟨[.bool false], rfl, ?_⟩
                replace hS := (hS.sel 22 [] rfl)
                exact absurd (f1.2 rfl) cg3
end Go.Proofs.Ytofnoopjlmdelaa
