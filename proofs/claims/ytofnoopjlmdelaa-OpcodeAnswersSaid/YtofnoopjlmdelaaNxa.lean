/-
  The reader of answers.
  Conditions: sizes below a bound that the laws meet.
-/
import Derived.Test.YtofnoopjlmdelaaNxt
namespace Go.Proofs.Ytofnoopjlmdelaa
open Go Go.V




theorem nextAnswer_spec {g w : World} {L : List HP} (a : Option Addr) (c : Nat) (bs : List Int) (p : Int) (hl : bs.length ≤ 1000000000) (hb : B8 bs) (hS : St g (Sh 5 1 (by8 bs) a c :: L) w) :
    Sp Try.prog 21 [.slice a (List.length (by8 bs)) c, .int .i64 p] w (fun v w' => ∃ (ab ae ac ak : Option Addr) (cb ce cc ck : Nat), v = .tuple #[.agg #[.int .i64 (rNxa bs p).1.err, .int .u64 (rNxa bs p).1.handle, .int .i64 (rNxa bs p).1.value, .bool (rNxa bs p).1.found, .int .i64 (rNxa bs p).1.n, .int .i64 (rNxa bs p).1.ekey, .int .i64 (rNxa bs p).1.eval, .int .i64 (rNxa bs p).1.count, .int .i64 (rNxa bs p).1.sum, .int .i64 (rNxa bs p).1.mn, .int .i64 (rNxa bs p).1.mx, .slice ae (List.length (en2 (rNxa bs p).1.ents)) ce, .slice ac (List.length (ch4 (rNxa bs p).1.chs)) cc, .slice ak (List.length (i64s (rNxa bs p).1.keys)) ck, .slice ab (List.length (by8 (rNxa bs p).1.bytes)) cb], .int .i64 (rNxa bs p).2.1, .int .i64 (rNxa bs p).2.2] ∧ St g (Sh 5 1 (by8 bs) a c :: Own 5 1 (by8 (rNxa bs p).1.bytes) ab cb :: Own 40 2 (en2 (rNxa bs p).1.ents) ae ce :: Own 63 4 (ch4 (rNxa bs p).1.chs) ac cc :: Own 2 1 (i64s (rNxa bs p).1.keys) ak ck :: L) w') := by
  refine Sp.enter Try.func21 rfl (by kernel_rfl) (by kernel_rfl) ?_
  have _ := hb
  have _ := hl
  refine WC.seq ?_
  refine WC.region ?_
  refine WL.new rfl rfl zv_45 hS (fun b1 w hS => ?_)
  refine WL.r 2 rfl ?_
  refine WL.nil ?_
  refine WC.seq ?_
  refine WC.seq ?_
  refine WC.region ?_
  refine WL.r 2 rfl ?_
  refine WL.rG 6 rfl (fun j => ?_)
  refine WL.prop 17 rfl (bor (dd _) (dd _)) ?_
  refine WL.nil ?_
  refine WC.ifP rfl (fun cd1 => ?_) (fun cd1 => ?_)
  · refine WC.seq ?_
    refine WC.region ?_
    have hl8 := by8_len bs
    refine WL.build rfl rfl (cs := [.int .i64 0, .int .u64 0, .int .i64 0, .bool false, .int .i64 0, .int .i64 0, .int .i64 0, .int .i64 0, .int .i64 0, .int .i64 0, .int .i64 0, .slice none 0 0, .slice none 0 0, .slice none 0 0, .slice none 0 0]) zv_45 rfl rfl ?_
    refine WL.stF rfl rfl rfl 0 hS rfl rfl rfl rfl rfl ag_45 (fun w hS => ?_)
    replace hS : St g (cel b1 #[.int .i64 0, .int .u64 0, .int .i64 0, .bool false, .int .i64 0, .int .i64 0, .int .i64 0, .int .i64 0, .int .i64 0, .int .i64 0, .int .i64 0, .slice none 0 0, .slice none 0 0, .slice none 0 0, .slice none 0 0] 45 :: Sh 5 1 (by8 bs) a c :: L) w := hS
    refine WL.r 2 rfl ?_
    refine WL.nil ?_
    refine WC.ret ?_
    refine ⟨[.agg #[.int .i64 0, .int .u64 0, .int .i64 0, .bool false, .int .i64 0, .int .i64 0, .int .i64 0, .int .i64 0, .int .i64 0, .int .i64 0, .int .i64 0, .slice none 0 0, .slice none 0 0, .slice none 0 0, .slice none 0 0], .int .i64 0, .int .i64 1], ⟨⟨_, rfl, hS.lvF 0 rfl ag_45⟩, rfl, rfl⟩, ?_⟩
    replace hS := hS.nil_ 5 1
    replace hS := hS.nil_ 40 2
    replace hS := hS.nil_ 63 4
    replace hS := hS.nil_ 2 1
    replace hS := (hS.sel 6 [5, 3, 2, 1, 0] rfl)
    rw [by8_len] at cd1; rw [rNxa, if_pos cd1]; exact ⟨_, _, _, _, _, _, _, _, rfl, hS⟩
  · refine WC.skip ?_
    refine WC.seq ?_
    refine WC.region ?_
    obtain ⟨q0, rfl⟩ : ∃ q : Nat, p = q := ⟨p.toNat, by omega⟩; have hl8 := by8_len bs; have hp : q0 ≤ bs.length := by omega
    refine WL.r 2 rfl ?_
    refine WL.build rfl rfl (cs := [.slice a (List.length (by8 bs)) c, .int .i64 (q0 : Int), .int .i64 0]) zv_78 rfl rfl ?_
    refine WL.box rfl rfl #[.slice a (List.length (by8 bs)) c, .int .i64 (q0 : Int), .int .i64 0] hS rfl rfl (fun b2 w hS => ?_)
    refine WL.r 1 rfl ?_
    refine WL.nil ?_
    refine WC.seq ?_
    refine WC.region ?_
    refine WL.r 1 rfl ?_
    refine WL.call rfl rfl (limited_spec (r := b2) (c := c) (a := a) (bs := bs) (p := q0) (e := 0) (lim := 255) (hp := (by assumption)) (hl := (by assumption)) (hb := (by assumption)) (hlim := (by omega)) (hS := (hS.sel 3 [0, 1, 0] rfl))) rfl ?_
    generalize hR1 : rLim bs 255 q0 0 = R1
    rintro _ w ⟨rfl, hS⟩
    have hR1f0 : R1.2.1 ≤ (List.length bs) := by rw [← hR1]; exact rLim_le (by assumption)
    have hR1f1 : (0 ≤ R1.1) ∧ (R1.1 ≤ 255) := by rw [← hR1]; exact rLim_b (by assumption) (by omega)
    replace hS : St g (cel b2 #[.slice a (List.length (by8 bs)) c, .int .i64 (R1.2.1 : Int), .int .i64 R1.2.2] 78 :: Sh 5 1 (by8 bs) a c :: cel b1 #[.int .i64 0, .int .u64 0, .int .i64 0, .bool false, .int .i64 0, .int .i64 0, .int .i64 0, .int .i64 0, .int .i64 0, .int .i64 0, .int .i64 0, .slice none 0 0, .slice none 0 0, .slice none 0 0, .slice none 0 0] 45 :: L) w := hS
    refine WL.build rfl rfl (cs := [.int .i64 R1.1, .int .u64 0, .int .i64 0, .bool false, .int .i64 0, .int .i64 0, .int .i64 0, .int .i64 0, .int .i64 0, .int .i64 0, .int .i64 0, .slice none 0 0, .slice none 0 0, .slice none 0 0, .slice none 0 0]) zv_45 rfl rfl ?_
    refine WL.new rfl rfl zv_45 hS (fun b3 w hS => ?_)
    refine WL.stF rfl rfl rfl 0 hS rfl rfl rfl rfl rfl ag_45 (fun w hS => ?_)
    replace hS : St g (cel b3 #[.int .i64 R1.1, .int .u64 0, .int .i64 0, .bool false, .int .i64 0, .int .i64 0, .int .i64 0, .int .i64 0, .int .i64 0, .int .i64 0, .int .i64 0, .slice none 0 0, .slice none 0 0, .slice none 0 0, .slice none 0 0] 45 :: cel b2 #[.slice a (List.length (by8 bs)) c, .int .i64 (R1.2.1 : Int), .int .i64 R1.2.2] 78 :: Sh 5 1 (by8 bs) a c :: cel b1 #[.int .i64 0, .int .u64 0, .int .i64 0, .bool false, .int .i64 0, .int .i64 0, .int .i64 0, .int .i64 0, .int .i64 0, .int .i64 0, .int .i64 0, .slice none 0 0, .slice none 0 0, .slice none 0 0, .slice none 0 0] 45 :: L) w := hS
    refine WL.nil ?_
    as_aux_lemma =>
      refine WC.seq ?_
      refine WC.region ?_
      refine WL.r 1 rfl ?_
      refine WL.call rfl rfl (varint_spec (r := b2) (c := c) (a := a) (bs := bs) (p := R1.2.1) (e := R1.2.2) (hp := (by assumption)) (hl := (by assumption)) (hb := (by assumption)) (hS := (hS.sel 4 [1, 1, 0, 0] rfl))) rfl ?_
      generalize hR2 : rU bs R1.2.1 R1.2.2 = R2
      rintro _ w ⟨rfl, hS⟩
      have hR2f0 : R2.2.1 ≤ (List.length bs) := by rw [← hR2]; exact rU_le (by assumption)
      replace hS : St g (cel b2 #[.slice a (List.length (by8 bs)) c, .int .i64 (R2.2.1 : Int), .int .i64 R2.2.2] 78 :: Sh 5 1 (by8 bs) a c :: cel b3 #[.int .i64 R1.1, .int .u64 0, .int .i64 0, .bool false, .int .i64 0, .int .i64 0, .int .i64 0, .int .i64 0, .int .i64 0, .int .i64 0, .int .i64 0, .slice none 0 0, .slice none 0 0, .slice none 0 0, .slice none 0 0] 45 :: cel b1 #[.int .i64 0, .int .u64 0, .int .i64 0, .bool false, .int .i64 0, .int .i64 0, .int .i64 0, .int .i64 0, .int .i64 0, .int .i64 0, .int .i64 0, .slice none 0 0, .slice none 0 0, .slice none 0 0, .slice none 0 0] 45 :: L) w := hS
      refine WL.r 1 rfl ?_
      refine WL.st rfl rfl rfl 2 hS rfl rfl rfl rfl rfl rfl (fun w hS => ?_)
      replace hS : St g (cel b2 #[.slice a (List.length (by8 bs)) c, .int .i64 (R2.2.1 : Int), .int .i64 R2.2.2] 78 :: Sh 5 1 (by8 bs) a c :: cel b3 #[.int .i64 R1.1, .int .u64 R2.1, .int .i64 0, .bool false, .int .i64 0, .int .i64 0, .int .i64 0, .int .i64 0, .int .i64 0, .int .i64 0, .int .i64 0, .slice none 0 0, .slice none 0 0, .slice none 0 0, .slice none 0 0] 45 :: cel b1 #[.int .i64 0, .int .u64 0, .int .i64 0, .bool false, .int .i64 0, .int .i64 0, .int .i64 0, .int .i64 0, .int .i64 0, .int .i64 0, .int .i64 0, .slice none 0 0, .slice none 0 0, .slice none 0 0, .slice none 0 0] 45 :: L) w := hS
      refine WL.nil ?_
      refine WC.seq ?_
      refine WC.region ?_
      refine WL.r 1 rfl ?_
      refine WL.call rfl rfl (signed_spec (r := b2) (c := c) (a := a) (bs := bs) (p := R2.2.1) (e := R2.2.2) (hp := (by assumption)) (hl := (by assumption)) (hb := (by assumption)) (hS := hS)) rfl ?_
      generalize hR3 : rZ bs R2.2.1 R2.2.2 = R3
      rintro _ w ⟨rfl, hS⟩
      have hR3f0 : R3.2.1 ≤ (List.length bs) := by rw [← hR3]; exact rZ_le (by assumption)
      replace hS : St g (cel b2 #[.slice a (List.length (by8 bs)) c, .int .i64 (R3.2.1 : Int), .int .i64 R3.2.2] 78 :: Sh 5 1 (by8 bs) a c :: cel b3 #[.int .i64 R1.1, .int .u64 R2.1, .int .i64 0, .bool false, .int .i64 0, .int .i64 0, .int .i64 0, .int .i64 0, .int .i64 0, .int .i64 0, .int .i64 0, .slice none 0 0, .slice none 0 0, .slice none 0 0, .slice none 0 0] 45 :: cel b1 #[.int .i64 0, .int .u64 0, .int .i64 0, .bool false, .int .i64 0, .int .i64 0, .int .i64 0, .int .i64 0, .int .i64 0, .int .i64 0, .int .i64 0, .slice none 0 0, .slice none 0 0, .slice none 0 0, .slice none 0 0] 45 :: L) w := hS
      refine WL.r 1 rfl ?_
      refine WL.st rfl rfl rfl 2 hS rfl rfl rfl rfl rfl rfl (fun w hS => ?_)
      replace hS : St g (cel b2 #[.slice a (List.length (by8 bs)) c, .int .i64 (R3.2.1 : Int), .int .i64 R3.2.2] 78 :: Sh 5 1 (by8 bs) a c :: cel b3 #[.int .i64 R1.1, .int .u64 R2.1, .int .i64 R3.1, .bool false, .int .i64 0, .int .i64 0, .int .i64 0, .int .i64 0, .int .i64 0, .int .i64 0, .int .i64 0, .slice none 0 0, .slice none 0 0, .slice none 0 0, .slice none 0 0] 45 :: cel b1 #[.int .i64 0, .int .u64 0, .int .i64 0, .bool false, .int .i64 0, .int .i64 0, .int .i64 0, .int .i64 0, .int .i64 0, .int .i64 0, .int .i64 0, .slice none 0 0, .slice none 0 0, .slice none 0 0, .slice none 0 0] 45 :: L) w := hS
      refine WL.nil ?_
      refine WC.seq ?_
      refine WC.region ?_
      refine WL.r 1 rfl ?_
      refine WL.call rfl rfl (bool_spec (r := b2) (c := c) (a := a) (bs := bs) (p := R3.2.1) (e := R3.2.2) (hp := (by assumption)) (hl := (by assumption)) (hb := (by assumption)) (hS := hS)) rfl ?_
      generalize hR4 : rBool bs R3.2.1 R3.2.2 = R4
      rintro _ w ⟨rfl, hS⟩
      have hR4f0 : R4.2.1 ≤ (List.length bs) := by rw [← hR4]; exact rBool_le (by assumption)
      replace hS : St g (cel b2 #[.slice a (List.length (by8 bs)) c, .int .i64 (R4.2.1 : Int), .int .i64 R4.2.2] 78 :: Sh 5 1 (by8 bs) a c :: cel b3 #[.int .i64 R1.1, .int .u64 R2.1, .int .i64 R3.1, .bool false, .int .i64 0, .int .i64 0, .int .i64 0, .int .i64 0, .int .i64 0, .int .i64 0, .int .i64 0, .slice none 0 0, .slice none 0 0, .slice none 0 0, .slice none 0 0] 45 :: cel b1 #[.int .i64 0, .int .u64 0, .int .i64 0, .bool false, .int .i64 0, .int .i64 0, .int .i64 0, .int .i64 0, .int .i64 0, .int .i64 0, .int .i64 0, .slice none 0 0, .slice none 0 0, .slice none 0 0, .slice none 0 0] 45 :: L) w := hS
      refine WL.r 1 rfl ?_
      refine WL.st rfl rfl rfl 2 hS rfl rfl rfl rfl rfl rfl (fun w hS => ?_)
      replace hS : St g (cel b2 #[.slice a (List.length (by8 bs)) c, .int .i64 (R4.2.1 : Int), .int .i64 R4.2.2] 78 :: Sh 5 1 (by8 bs) a c :: cel b3 #[.int .i64 R1.1, .int .u64 R2.1, .int .i64 R3.1, .bool R4.1, .int .i64 0, .int .i64 0, .int .i64 0, .int .i64 0, .int .i64 0, .int .i64 0, .int .i64 0, .slice none 0 0, .slice none 0 0, .slice none 0 0, .slice none 0 0] 45 :: cel b1 #[.int .i64 0, .int .u64 0, .int .i64 0, .bool false, .int .i64 0, .int .i64 0, .int .i64 0, .int .i64 0, .int .i64 0, .int .i64 0, .int .i64 0, .slice none 0 0, .slice none 0 0, .slice none 0 0, .slice none 0 0] 45 :: L) w := hS
      refine WL.nil ?_
      as_aux_lemma =>
        refine WC.seq ?_
        refine WC.region ?_
        refine WL.r 1 rfl ?_
        refine WL.call rfl rfl (signed_spec (r := b2) (c := c) (a := a) (bs := bs) (p := R4.2.1) (e := R4.2.2) (hp := (by assumption)) (hl := (by assumption)) (hb := (by assumption)) (hS := hS)) rfl ?_
        generalize hR5 : rZ bs R4.2.1 R4.2.2 = R5
        rintro _ w ⟨rfl, hS⟩
        have hR5f0 : R5.2.1 ≤ (List.length bs) := by rw [← hR5]; exact rZ_le (by assumption)
        replace hS : St g (cel b2 #[.slice a (List.length (by8 bs)) c, .int .i64 (R5.2.1 : Int), .int .i64 R5.2.2] 78 :: Sh 5 1 (by8 bs) a c :: cel b3 #[.int .i64 R1.1, .int .u64 R2.1, .int .i64 R3.1, .bool R4.1, .int .i64 0, .int .i64 0, .int .i64 0, .int .i64 0, .int .i64 0, .int .i64 0, .int .i64 0, .slice none 0 0, .slice none 0 0, .slice none 0 0, .slice none 0 0] 45 :: cel b1 #[.int .i64 0, .int .u64 0, .int .i64 0, .bool false, .int .i64 0, .int .i64 0, .int .i64 0, .int .i64 0, .int .i64 0, .int .i64 0, .int .i64 0, .slice none 0 0, .slice none 0 0, .slice none 0 0, .slice none 0 0] 45 :: L) w := hS
        refine WL.r 1 rfl ?_
        refine WL.st rfl rfl rfl 2 hS rfl rfl rfl rfl rfl rfl (fun w hS => ?_)
        replace hS : St g (cel b2 #[.slice a (List.length (by8 bs)) c, .int .i64 (R5.2.1 : Int), .int .i64 R5.2.2] 78 :: Sh 5 1 (by8 bs) a c :: cel b3 #[.int .i64 R1.1, .int .u64 R2.1, .int .i64 R3.1, .bool R4.1, .int .i64 R5.1, .int .i64 0, .int .i64 0, .int .i64 0, .int .i64 0, .int .i64 0, .int .i64 0, .slice none 0 0, .slice none 0 0, .slice none 0 0, .slice none 0 0] 45 :: cel b1 #[.int .i64 0, .int .u64 0, .int .i64 0, .bool false, .int .i64 0, .int .i64 0, .int .i64 0, .int .i64 0, .int .i64 0, .int .i64 0, .int .i64 0, .slice none 0 0, .slice none 0 0, .slice none 0 0, .slice none 0 0] 45 :: L) w := hS
        refine WL.nil ?_
        refine WC.seq ?_
        refine WC.region ?_
        refine WL.r 1 rfl ?_
        refine WL.call rfl rfl (signed_spec (r := b2) (c := c) (a := a) (bs := bs) (p := R5.2.1) (e := R5.2.2) (hp := (by assumption)) (hl := (by assumption)) (hb := (by assumption)) (hS := hS)) rfl ?_
        generalize hR6 : rZ bs R5.2.1 R5.2.2 = R6
        rintro _ w ⟨rfl, hS⟩
        have hR6f0 : R6.2.1 ≤ (List.length bs) := by rw [← hR6]; exact rZ_le (by assumption)
        replace hS : St g (cel b2 #[.slice a (List.length (by8 bs)) c, .int .i64 (R6.2.1 : Int), .int .i64 R6.2.2] 78 :: Sh 5 1 (by8 bs) a c :: cel b3 #[.int .i64 R1.1, .int .u64 R2.1, .int .i64 R3.1, .bool R4.1, .int .i64 R5.1, .int .i64 0, .int .i64 0, .int .i64 0, .int .i64 0, .int .i64 0, .int .i64 0, .slice none 0 0, .slice none 0 0, .slice none 0 0, .slice none 0 0] 45 :: cel b1 #[.int .i64 0, .int .u64 0, .int .i64 0, .bool false, .int .i64 0, .int .i64 0, .int .i64 0, .int .i64 0, .int .i64 0, .int .i64 0, .int .i64 0, .slice none 0 0, .slice none 0 0, .slice none 0 0, .slice none 0 0] 45 :: L) w := hS
        refine WL.r 2 rfl ?_
        refine WL.st rfl rfl rfl 2 hS rfl rfl rfl rfl rfl rfl (fun w hS => ?_)
        replace hS : St g (cel b2 #[.slice a (List.length (by8 bs)) c, .int .i64 (R6.2.1 : Int), .int .i64 R6.2.2] 78 :: Sh 5 1 (by8 bs) a c :: cel b3 #[.int .i64 R1.1, .int .u64 R2.1, .int .i64 R3.1, .bool R4.1, .int .i64 R5.1, .int .i64 R6.1, .int .i64 0, .int .i64 0, .int .i64 0, .int .i64 0, .int .i64 0, .slice none 0 0, .slice none 0 0, .slice none 0 0, .slice none 0 0] 45 :: cel b1 #[.int .i64 0, .int .u64 0, .int .i64 0, .bool false, .int .i64 0, .int .i64 0, .int .i64 0, .int .i64 0, .int .i64 0, .int .i64 0, .int .i64 0, .slice none 0 0, .slice none 0 0, .slice none 0 0, .slice none 0 0] 45 :: L) w := hS
        refine WL.nil ?_
        refine WC.seq ?_
        refine WC.region ?_
        refine WL.r 1 rfl ?_
        refine WL.call rfl rfl (signed_spec (r := b2) (c := c) (a := a) (bs := bs) (p := R6.2.1) (e := R6.2.2) (hp := (by assumption)) (hl := (by assumption)) (hb := (by assumption)) (hS := hS)) rfl ?_
        generalize hR7 : rZ bs R6.2.1 R6.2.2 = R7
        rintro _ w ⟨rfl, hS⟩
        have hR7f0 : R7.2.1 ≤ (List.length bs) := by rw [← hR7]; exact rZ_le (by assumption)
        replace hS : St g (cel b2 #[.slice a (List.length (by8 bs)) c, .int .i64 (R7.2.1 : Int), .int .i64 R7.2.2] 78 :: Sh 5 1 (by8 bs) a c :: cel b3 #[.int .i64 R1.1, .int .u64 R2.1, .int .i64 R3.1, .bool R4.1, .int .i64 R5.1, .int .i64 R6.1, .int .i64 0, .int .i64 0, .int .i64 0, .int .i64 0, .int .i64 0, .slice none 0 0, .slice none 0 0, .slice none 0 0, .slice none 0 0] 45 :: cel b1 #[.int .i64 0, .int .u64 0, .int .i64 0, .bool false, .int .i64 0, .int .i64 0, .int .i64 0, .int .i64 0, .int .i64 0, .int .i64 0, .int .i64 0, .slice none 0 0, .slice none 0 0, .slice none 0 0, .slice none 0 0] 45 :: L) w := hS
        refine WL.r 2 rfl ?_
        refine WL.st rfl rfl rfl 2 hS rfl rfl rfl rfl rfl rfl (fun w hS => ?_)
        replace hS : St g (cel b2 #[.slice a (List.length (by8 bs)) c, .int .i64 (R7.2.1 : Int), .int .i64 R7.2.2] 78 :: Sh 5 1 (by8 bs) a c :: cel b3 #[.int .i64 R1.1, .int .u64 R2.1, .int .i64 R3.1, .bool R4.1, .int .i64 R5.1, .int .i64 R6.1, .int .i64 R7.1, .int .i64 0, .int .i64 0, .int .i64 0, .int .i64 0, .slice none 0 0, .slice none 0 0, .slice none 0 0, .slice none 0 0] 45 :: cel b1 #[.int .i64 0, .int .u64 0, .int .i64 0, .bool false, .int .i64 0, .int .i64 0, .int .i64 0, .int .i64 0, .int .i64 0, .int .i64 0, .int .i64 0, .slice none 0 0, .slice none 0 0, .slice none 0 0, .slice none 0 0] 45 :: L) w := hS
        refine WL.nil ?_
        as_aux_lemma =>
          refine WC.seq ?_
          refine WC.region ?_
          refine WL.r 1 rfl ?_
          refine WL.call rfl rfl (signed_spec (r := b2) (c := c) (a := a) (bs := bs) (p := R7.2.1) (e := R7.2.2) (hp := (by assumption)) (hl := (by assumption)) (hb := (by assumption)) (hS := hS)) rfl ?_
          generalize hR8 : rZ bs R7.2.1 R7.2.2 = R8
          rintro _ w ⟨rfl, hS⟩
          have hR8f0 : R8.2.1 ≤ (List.length bs) := by rw [← hR8]; exact rZ_le (by assumption)
          replace hS : St g (cel b2 #[.slice a (List.length (by8 bs)) c, .int .i64 (R8.2.1 : Int), .int .i64 R8.2.2] 78 :: Sh 5 1 (by8 bs) a c :: cel b3 #[.int .i64 R1.1, .int .u64 R2.1, .int .i64 R3.1, .bool R4.1, .int .i64 R5.1, .int .i64 R6.1, .int .i64 R7.1, .int .i64 0, .int .i64 0, .int .i64 0, .int .i64 0, .slice none 0 0, .slice none 0 0, .slice none 0 0, .slice none 0 0] 45 :: cel b1 #[.int .i64 0, .int .u64 0, .int .i64 0, .bool false, .int .i64 0, .int .i64 0, .int .i64 0, .int .i64 0, .int .i64 0, .int .i64 0, .int .i64 0, .slice none 0 0, .slice none 0 0, .slice none 0 0, .slice none 0 0] 45 :: L) w := hS
          refine WL.r 2 rfl ?_
          refine WL.st rfl rfl rfl 2 hS rfl rfl rfl rfl rfl rfl (fun w hS => ?_)
          replace hS : St g (cel b2 #[.slice a (List.length (by8 bs)) c, .int .i64 (R8.2.1 : Int), .int .i64 R8.2.2] 78 :: Sh 5 1 (by8 bs) a c :: cel b3 #[.int .i64 R1.1, .int .u64 R2.1, .int .i64 R3.1, .bool R4.1, .int .i64 R5.1, .int .i64 R6.1, .int .i64 R7.1, .int .i64 R8.1, .int .i64 0, .int .i64 0, .int .i64 0, .slice none 0 0, .slice none 0 0, .slice none 0 0, .slice none 0 0] 45 :: cel b1 #[.int .i64 0, .int .u64 0, .int .i64 0, .bool false, .int .i64 0, .int .i64 0, .int .i64 0, .int .i64 0, .int .i64 0, .int .i64 0, .int .i64 0, .slice none 0 0, .slice none 0 0, .slice none 0 0, .slice none 0 0] 45 :: L) w := hS
          refine WL.nil ?_
          refine WC.seq ?_
          refine WC.region ?_
          refine WL.r 1 rfl ?_
          refine WL.call rfl rfl (signed_spec (r := b2) (c := c) (a := a) (bs := bs) (p := R8.2.1) (e := R8.2.2) (hp := (by assumption)) (hl := (by assumption)) (hb := (by assumption)) (hS := hS)) rfl ?_
          generalize hR9 : rZ bs R8.2.1 R8.2.2 = R9
          rintro _ w ⟨rfl, hS⟩
          have hR9f0 : R9.2.1 ≤ (List.length bs) := by rw [← hR9]; exact rZ_le (by assumption)
          replace hS : St g (cel b2 #[.slice a (List.length (by8 bs)) c, .int .i64 (R9.2.1 : Int), .int .i64 R9.2.2] 78 :: Sh 5 1 (by8 bs) a c :: cel b3 #[.int .i64 R1.1, .int .u64 R2.1, .int .i64 R3.1, .bool R4.1, .int .i64 R5.1, .int .i64 R6.1, .int .i64 R7.1, .int .i64 R8.1, .int .i64 0, .int .i64 0, .int .i64 0, .slice none 0 0, .slice none 0 0, .slice none 0 0, .slice none 0 0] 45 :: cel b1 #[.int .i64 0, .int .u64 0, .int .i64 0, .bool false, .int .i64 0, .int .i64 0, .int .i64 0, .int .i64 0, .int .i64 0, .int .i64 0, .int .i64 0, .slice none 0 0, .slice none 0 0, .slice none 0 0, .slice none 0 0] 45 :: L) w := hS
          refine WL.r 2 rfl ?_
          refine WL.st rfl rfl rfl 2 hS rfl rfl rfl rfl rfl rfl (fun w hS => ?_)
          replace hS : St g (cel b2 #[.slice a (List.length (by8 bs)) c, .int .i64 (R9.2.1 : Int), .int .i64 R9.2.2] 78 :: Sh 5 1 (by8 bs) a c :: cel b3 #[.int .i64 R1.1, .int .u64 R2.1, .int .i64 R3.1, .bool R4.1, .int .i64 R5.1, .int .i64 R6.1, .int .i64 R7.1, .int .i64 R8.1, .int .i64 R9.1, .int .i64 0, .int .i64 0, .slice none 0 0, .slice none 0 0, .slice none 0 0, .slice none 0 0] 45 :: cel b1 #[.int .i64 0, .int .u64 0, .int .i64 0, .bool false, .int .i64 0, .int .i64 0, .int .i64 0, .int .i64 0, .int .i64 0, .int .i64 0, .int .i64 0, .slice none 0 0, .slice none 0 0, .slice none 0 0, .slice none 0 0] 45 :: L) w := hS
          refine WL.nil ?_
          refine WC.seq ?_
          refine WC.region ?_
          refine WL.r 1 rfl ?_
          refine WL.call rfl rfl (signed_spec (r := b2) (c := c) (a := a) (bs := bs) (p := R9.2.1) (e := R9.2.2) (hp := (by assumption)) (hl := (by assumption)) (hb := (by assumption)) (hS := hS)) rfl ?_
          generalize hR10 : rZ bs R9.2.1 R9.2.2 = R10
          rintro _ w ⟨rfl, hS⟩
          have hR10f0 : R10.2.1 ≤ (List.length bs) := by rw [← hR10]; exact rZ_le (by assumption)
          replace hS : St g (cel b2 #[.slice a (List.length (by8 bs)) c, .int .i64 (R10.2.1 : Int), .int .i64 R10.2.2] 78 :: Sh 5 1 (by8 bs) a c :: cel b3 #[.int .i64 R1.1, .int .u64 R2.1, .int .i64 R3.1, .bool R4.1, .int .i64 R5.1, .int .i64 R6.1, .int .i64 R7.1, .int .i64 R8.1, .int .i64 R9.1, .int .i64 0, .int .i64 0, .slice none 0 0, .slice none 0 0, .slice none 0 0, .slice none 0 0] 45 :: cel b1 #[.int .i64 0, .int .u64 0, .int .i64 0, .bool false, .int .i64 0, .int .i64 0, .int .i64 0, .int .i64 0, .int .i64 0, .int .i64 0, .int .i64 0, .slice none 0 0, .slice none 0 0, .slice none 0 0, .slice none 0 0] 45 :: L) w := hS
          refine WL.r 2 rfl ?_
          refine WL.st rfl rfl rfl 2 hS rfl rfl rfl rfl rfl rfl (fun w hS => ?_)
          replace hS : St g (cel b2 #[.slice a (List.length (by8 bs)) c, .int .i64 (R10.2.1 : Int), .int .i64 R10.2.2] 78 :: Sh 5 1 (by8 bs) a c :: cel b3 #[.int .i64 R1.1, .int .u64 R2.1, .int .i64 R3.1, .bool R4.1, .int .i64 R5.1, .int .i64 R6.1, .int .i64 R7.1, .int .i64 R8.1, .int .i64 R9.1, .int .i64 R10.1, .int .i64 0, .slice none 0 0, .slice none 0 0, .slice none 0 0, .slice none 0 0] 45 :: cel b1 #[.int .i64 0, .int .u64 0, .int .i64 0, .bool false, .int .i64 0, .int .i64 0, .int .i64 0, .int .i64 0, .int .i64 0, .int .i64 0, .int .i64 0, .slice none 0 0, .slice none 0 0, .slice none 0 0, .slice none 0 0] 45 :: L) w := hS
          refine WL.nil ?_
          as_aux_lemma =>
            refine WC.seq ?_
            refine WC.region ?_
            refine WL.r 1 rfl ?_
            refine WL.call rfl rfl (signed_spec (r := b2) (c := c) (a := a) (bs := bs) (p := R10.2.1) (e := R10.2.2) (hp := (by assumption)) (hl := (by assumption)) (hb := (by assumption)) (hS := hS)) rfl ?_
            generalize hR11 : rZ bs R10.2.1 R10.2.2 = R11
            rintro _ w ⟨rfl, hS⟩
            have hR11f0 : R11.2.1 ≤ (List.length bs) := by rw [← hR11]; exact rZ_le (by assumption)
            replace hS : St g (cel b2 #[.slice a (List.length (by8 bs)) c, .int .i64 (R11.2.1 : Int), .int .i64 R11.2.2] 78 :: Sh 5 1 (by8 bs) a c :: cel b3 #[.int .i64 R1.1, .int .u64 R2.1, .int .i64 R3.1, .bool R4.1, .int .i64 R5.1, .int .i64 R6.1, .int .i64 R7.1, .int .i64 R8.1, .int .i64 R9.1, .int .i64 R10.1, .int .i64 0, .slice none 0 0, .slice none 0 0, .slice none 0 0, .slice none 0 0] 45 :: cel b1 #[.int .i64 0, .int .u64 0, .int .i64 0, .bool false, .int .i64 0, .int .i64 0, .int .i64 0, .int .i64 0, .int .i64 0, .int .i64 0, .int .i64 0, .slice none 0 0, .slice none 0 0, .slice none 0 0, .slice none 0 0] 45 :: L) w := hS
            refine WL.r 2 rfl ?_
            refine WL.st rfl rfl rfl 2 hS rfl rfl rfl rfl rfl rfl (fun w hS => ?_)
            replace hS : St g (cel b2 #[.slice a (List.length (by8 bs)) c, .int .i64 (R11.2.1 : Int), .int .i64 R11.2.2] 78 :: Sh 5 1 (by8 bs) a c :: cel b3 #[.int .i64 R1.1, .int .u64 R2.1, .int .i64 R3.1, .bool R4.1, .int .i64 R5.1, .int .i64 R6.1, .int .i64 R7.1, .int .i64 R8.1, .int .i64 R9.1, .int .i64 R10.1, .int .i64 R11.1, .slice none 0 0, .slice none 0 0, .slice none 0 0, .slice none 0 0] 45 :: cel b1 #[.int .i64 0, .int .u64 0, .int .i64 0, .bool false, .int .i64 0, .int .i64 0, .int .i64 0, .int .i64 0, .int .i64 0, .int .i64 0, .int .i64 0, .slice none 0 0, .slice none 0 0, .slice none 0 0, .slice none 0 0] 45 :: L) w := hS
            refine WL.nil ?_
            refine WC.seq ?_
            refine WC.region ?_
            refine WL.r 2 rfl ?_
            refine WL.call rfl rfl (counted_spec (r := b2) (c := c) (a := a) (bs := bs) (p := R11.2.1) (e := R11.2.2) (hp := (by assumption)) (hl := (by assumption)) (hb := (by assumption)) (hS := hS)) rfl ?_
            generalize hR12 : rCnt bs R11.2.1 R11.2.2 = R12
            rintro _ w ⟨rfl, hS⟩
            have hR12f0 : R12.2.1 ≤ (List.length bs) := by rw [← hR12]; exact rCnt_le (by assumption)
            have hR12f1 : (0 ≤ R12.1) ∧ (R12.1 + (R12.2.1 : Int) ≤ (List.length bs)) := by rw [← hR12]; exact rCnt_b (by assumption) (by assumption)
            replace hS : St g (cel b2 #[.slice a (List.length (by8 bs)) c, .int .i64 (R12.2.1 : Int), .int .i64 R12.2.2] 78 :: Sh 5 1 (by8 bs) a c :: cel b3 #[.int .i64 R1.1, .int .u64 R2.1, .int .i64 R3.1, .bool R4.1, .int .i64 R5.1, .int .i64 R6.1, .int .i64 R7.1, .int .i64 R8.1, .int .i64 R9.1, .int .i64 R10.1, .int .i64 R11.1, .slice none 0 0, .slice none 0 0, .slice none 0 0, .slice none 0 0] 45 :: cel b1 #[.int .i64 0, .int .u64 0, .int .i64 0, .bool false, .int .i64 0, .int .i64 0, .int .i64 0, .int .i64 0, .int .i64 0, .int .i64 0, .int .i64 0, .slice none 0 0, .slice none 0 0, .slice none 0 0, .slice none 0 0] 45 :: L) w := hS
            refine WL.call rfl rfl (entries_spec (r := b2) (c := c) (a := a) (bs := bs) (p := R12.2.1) (e := R12.2.2) (n := R12.1) (hp := (by assumption)) (hl := (by assumption)) (hb := (by assumption)) (hn := (by omega)) (hS := hS)) rfl ?_
            generalize hR13 : rEnts bs R12.1.toNat R12.2.1 R12.2.2 = R13
            rintro _ w ⟨a1, c1, rfl, hS⟩
            have hR13f0 : R13.2.1 ≤ (List.length bs) := by rw [← hR13]; exact rEnts_le (by assumption)
            have hR13f1 : (List.length R13.1) ≤ R12.1.toNat := by rw [← hR13]; exact (rEnts_p _ _ _ (by assumption)).2
            replace hS : St g (cel b2 #[.slice a (List.length (by8 bs)) c, .int .i64 (R13.2.1 : Int), .int .i64 R13.2.2] 78 :: Sh 5 1 (by8 bs) a c :: Own 40 2 (en2 R13.1) a1 c1 :: cel b3 #[.int .i64 R1.1, .int .u64 R2.1, .int .i64 R3.1, .bool R4.1, .int .i64 R5.1, .int .i64 R6.1, .int .i64 R7.1, .int .i64 R8.1, .int .i64 R9.1, .int .i64 R10.1, .int .i64 R11.1, .slice none 0 0, .slice none 0 0, .slice none 0 0, .slice none 0 0] 45 :: cel b1 #[.int .i64 0, .int .u64 0, .int .i64 0, .bool false, .int .i64 0, .int .i64 0, .int .i64 0, .int .i64 0, .int .i64 0, .int .i64 0, .int .i64 0, .slice none 0 0, .slice none 0 0, .slice none 0 0, .slice none 0 0] 45 :: L) w := hS
            refine WL.r 1 rfl ?_
            refine WL.st rfl rfl rfl 3 hS rfl rfl rfl rfl rfl rfl (fun w hS => ?_)
            replace hS : St g (cel b2 #[.slice a (List.length (by8 bs)) c, .int .i64 (R13.2.1 : Int), .int .i64 R13.2.2] 78 :: Sh 5 1 (by8 bs) a c :: Own 40 2 (en2 R13.1) a1 c1 :: cel b3 #[.int .i64 R1.1, .int .u64 R2.1, .int .i64 R3.1, .bool R4.1, .int .i64 R5.1, .int .i64 R6.1, .int .i64 R7.1, .int .i64 R8.1, .int .i64 R9.1, .int .i64 R10.1, .int .i64 R11.1, .slice a1 (List.length (en2 R13.1)) c1, .slice none 0 0, .slice none 0 0, .slice none 0 0] 45 :: cel b1 #[.int .i64 0, .int .u64 0, .int .i64 0, .bool false, .int .i64 0, .int .i64 0, .int .i64 0, .int .i64 0, .int .i64 0, .int .i64 0, .int .i64 0, .slice none 0 0, .slice none 0 0, .slice none 0 0, .slice none 0 0] 45 :: L) w := hS
            refine WL.nil ?_
            as_aux_lemma =>
              refine WC.seq ?_
              refine WC.region ?_
              refine WL.r 2 rfl ?_
              refine WL.call rfl rfl (counted_spec (r := b2) (c := c) (a := a) (bs := bs) (p := R13.2.1) (e := R13.2.2) (hp := (by assumption)) (hl := (by assumption)) (hb := (by assumption)) (hS := hS)) rfl ?_
              generalize hR14 : rCnt bs R13.2.1 R13.2.2 = R14
              rintro _ w ⟨rfl, hS⟩
              have hR14f0 : R14.2.1 ≤ (List.length bs) := by rw [← hR14]; exact rCnt_le (by assumption)
              have hR14f1 : (0 ≤ R14.1) ∧ (R14.1 + (R14.2.1 : Int) ≤ (List.length bs)) := by rw [← hR14]; exact rCnt_b (by assumption) (by assumption)
              replace hS : St g (cel b2 #[.slice a (List.length (by8 bs)) c, .int .i64 (R14.2.1 : Int), .int .i64 R14.2.2] 78 :: Sh 5 1 (by8 bs) a c :: Own 40 2 (en2 R13.1) a1 c1 :: cel b3 #[.int .i64 R1.1, .int .u64 R2.1, .int .i64 R3.1, .bool R4.1, .int .i64 R5.1, .int .i64 R6.1, .int .i64 R7.1, .int .i64 R8.1, .int .i64 R9.1, .int .i64 R10.1, .int .i64 R11.1, .slice a1 (List.length (en2 R13.1)) c1, .slice none 0 0, .slice none 0 0, .slice none 0 0] 45 :: cel b1 #[.int .i64 0, .int .u64 0, .int .i64 0, .bool false, .int .i64 0, .int .i64 0, .int .i64 0, .int .i64 0, .int .i64 0, .int .i64 0, .int .i64 0, .slice none 0 0, .slice none 0 0, .slice none 0 0, .slice none 0 0] 45 :: L) w := hS
              refine WL.call rfl rfl (changes_spec (r := b2) (c := c) (a := a) (bs := bs) (p := R14.2.1) (e := R14.2.2) (n := R14.1) (hp := (by assumption)) (hl := (by assumption)) (hb := (by assumption)) (hn := (by omega)) (hS := hS)) rfl ?_
              generalize hR15 : rChs bs R14.1.toNat R14.2.1 R14.2.2 = R15
              rintro _ w ⟨a2, c2, rfl, hS⟩
              have hR15f0 : R15.2.1 ≤ (List.length bs) := by rw [← hR15]; exact rChs_le (by assumption)
              have hR15f1 : (List.length R15.1) ≤ R14.1.toNat := by rw [← hR15]; exact (rChs_p _ _ _ (by assumption)).2
              replace hS : St g (cel b2 #[.slice a (List.length (by8 bs)) c, .int .i64 (R15.2.1 : Int), .int .i64 R15.2.2] 78 :: Sh 5 1 (by8 bs) a c :: Own 63 4 (ch4 R15.1) a2 c2 :: Own 40 2 (en2 R13.1) a1 c1 :: cel b3 #[.int .i64 R1.1, .int .u64 R2.1, .int .i64 R3.1, .bool R4.1, .int .i64 R5.1, .int .i64 R6.1, .int .i64 R7.1, .int .i64 R8.1, .int .i64 R9.1, .int .i64 R10.1, .int .i64 R11.1, .slice a1 (List.length (en2 R13.1)) c1, .slice none 0 0, .slice none 0 0, .slice none 0 0] 45 :: cel b1 #[.int .i64 0, .int .u64 0, .int .i64 0, .bool false, .int .i64 0, .int .i64 0, .int .i64 0, .int .i64 0, .int .i64 0, .int .i64 0, .int .i64 0, .slice none 0 0, .slice none 0 0, .slice none 0 0, .slice none 0 0] 45 :: L) w := hS
              refine WL.r 1 rfl ?_
              refine WL.st rfl rfl rfl 4 hS rfl rfl rfl rfl rfl rfl (fun w hS => ?_)
              replace hS : St g (cel b2 #[.slice a (List.length (by8 bs)) c, .int .i64 (R15.2.1 : Int), .int .i64 R15.2.2] 78 :: Sh 5 1 (by8 bs) a c :: Own 63 4 (ch4 R15.1) a2 c2 :: Own 40 2 (en2 R13.1) a1 c1 :: cel b3 #[.int .i64 R1.1, .int .u64 R2.1, .int .i64 R3.1, .bool R4.1, .int .i64 R5.1, .int .i64 R6.1, .int .i64 R7.1, .int .i64 R8.1, .int .i64 R9.1, .int .i64 R10.1, .int .i64 R11.1, .slice a1 (List.length (en2 R13.1)) c1, .slice a2 (List.length (ch4 R15.1)) c2, .slice none 0 0, .slice none 0 0] 45 :: cel b1 #[.int .i64 0, .int .u64 0, .int .i64 0, .bool false, .int .i64 0, .int .i64 0, .int .i64 0, .int .i64 0, .int .i64 0, .int .i64 0, .int .i64 0, .slice none 0 0, .slice none 0 0, .slice none 0 0, .slice none 0 0] 45 :: L) w := hS
              refine WL.nil ?_
              refine WC.seq ?_
              refine WC.seq ?_
              refine WC.region ?_
              refine WL.r 1 rfl ?_
              refine WL.call rfl rfl (counted_spec (r := b2) (c := c) (a := a) (bs := bs) (p := R15.2.1) (e := R15.2.2) (hp := (by assumption)) (hl := (by assumption)) (hb := (by assumption)) (hS := hS)) rfl ?_
              generalize hR16 : rCnt bs R15.2.1 R15.2.2 = R16
              rintro _ w ⟨rfl, hS⟩
              have hR16f0 : R16.2.1 ≤ (List.length bs) := by rw [← hR16]; exact rCnt_le (by assumption)
              have hR16f1 : (0 ≤ R16.1) ∧ (R16.1 + (R16.2.1 : Int) ≤ (List.length bs)) := by rw [← hR16]; exact rCnt_b (by assumption) (by assumption)
              replace hS : St g (cel b2 #[.slice a (List.length (by8 bs)) c, .int .i64 (R16.2.1 : Int), .int .i64 R16.2.2] 78 :: Sh 5 1 (by8 bs) a c :: Own 63 4 (ch4 R15.1) a2 c2 :: Own 40 2 (en2 R13.1) a1 c1 :: cel b3 #[.int .i64 R1.1, .int .u64 R2.1, .int .i64 R3.1, .bool R4.1, .int .i64 R5.1, .int .i64 R6.1, .int .i64 R7.1, .int .i64 R8.1, .int .i64 R9.1, .int .i64 R10.1, .int .i64 R11.1, .slice a1 (List.length (en2 R13.1)) c1, .slice a2 (List.length (ch4 R15.1)) c2, .slice none 0 0, .slice none 0 0] 45 :: cel b1 #[.int .i64 0, .int .u64 0, .int .i64 0, .bool false, .int .i64 0, .int .i64 0, .int .i64 0, .int .i64 0, .int .i64 0, .int .i64 0, .int .i64 0, .slice none 0 0, .slice none 0 0, .slice none 0 0, .slice none 0 0] 45 :: L) w := hS
              refine WL.r 1 rfl ?_
              refine WL.nil ?_
              as_aux_lemma =>
                refine WC.block ?_
                replace hS := hS.nil_ 2 1
                refine WC.loop [4, 5, 6, 7, 8, 9] (fun kM vs w => ∃ (n : Int) (ks : List Int) (q : Nat) (e : Int) (ak : Option Addr) (ck : Nat), vs = [.pointer (some ⟨b1, 0, none⟩), .int .i64 0, .int .i64 0, .pointer (some ⟨b2, 0, none⟩), .pointer (some ⟨b3, 0, none⟩), .int .i64 n] ∧ St g (Own 2 1 (i64s ks) ak ck :: cel b2 #[.slice a (List.length (by8 bs)) c, .int .i64 (q : Int), .int .i64 e] 78 :: Sh 5 1 (by8 bs) a c :: Own 63 4 (ch4 R15.1) a2 c2 :: Own 40 2 (en2 R13.1) a1 c1 :: cel b3 #[.int .i64 R1.1, .int .u64 R2.1, .int .i64 R3.1, .bool R4.1, .int .i64 R5.1, .int .i64 R6.1, .int .i64 R7.1, .int .i64 R8.1, .int .i64 R9.1, .int .i64 R10.1, .int .i64 R11.1, .slice a1 (List.length (en2 R13.1)) c1, .slice a2 (List.length (ch4 R15.1)) c2, .slice ak (List.length (i64s ks)) ck, .slice none 0 0] 45 :: cel b1 #[.int .i64 0, .int .u64 0, .int .i64 0, .bool false, .int .i64 0, .int .i64 0, .int .i64 0, .int .i64 0, .int .i64 0, .int .i64 0, .int .i64 0, .slice none 0 0, .slice none 0 0, .slice none 0 0, .slice none 0 0] 45 :: L) w ∧ (0 ≤ n ∧ n + ks.length = R16.1) ∧ (q ≤ bs.length) ∧ (rInts bs R16.1.toNat R16.2.1 R16.2.2 = (ks ++ (rInts bs n.toNat q e).1, (rInts bs n.toNat q e).2)) ∧ (n.toNat) = kM) (R16.1.toNat) ⟨R16.1, [], _, _, none, 0, rfl, hS, (by simp; omega), (by assumption), (rfl), rfl⟩ ?_
                clear hS; rintro _ _ w j ⟨n, ks, q, e, ak, ck, rfl, hS, hk, hq, hr, rfl⟩
                refine WC.seq ?_
                refine WC.seq ?_
                refine WC.region ?_
                refine WL.r 2 rfl ?_
                refine WL.runG 7 [.int .i64 e] rfl (by exact (fun _ => hS.ld 1 rfl rfl)) (fun j => ?_)
                refine WL.prop 82 rfl (band (dd _) (dd _)) ?_
                refine WL.nil ?_
                refine WC.ifP rfl (fun cd2 => ?_) (fun cd2 => ?_)
                · refine WC.skip ?_
                  refine WC.seq ?_
                  refine WC.block ?_
                  refine WC.plan [([0, 2, 1], some (3, [0, 1])), ([], some (4, [0, 1])), ([], some (5, [])), ([6], some (7, []))] (by kernel_rfl) (by kernel_rfl) ?_
                  refine WQ.run 3 [.slice ak (List.length (i64s ks)) ck] rfl (by exact hS.ld 5 rfl rfl) ?_
                  refine WQ.nil ?_
                  intro m1
                  replace hS := hS.drewN m1; generalize hwm1 : World.drewN _ _ = w at *; clear hwm1
                  refine WL.call rfl rfl (signed_spec (r := b2) (c := c) (a := a) (bs := bs) (p := q) (e := e) (hp := (by assumption)) (hl := (by assumption)) (hb := (by assumption)) (hS := (hS.sel 7 [1, 1, 0, 0, 0, 0, 0] rfl))) rfl ?_
                  generalize hR17 : rZ bs q e = R17
                  rintro _ w ⟨rfl, hS⟩
                  have hR17f0 : R17.2.1 ≤ (List.length bs) := by rw [← hR17]; exact rZ_le (by assumption)
                  replace hS : St g (cel b2 #[.slice a (List.length (by8 bs)) c, .int .i64 (R17.2.1 : Int), .int .i64 R17.2.2] 78 :: Sh 5 1 (by8 bs) a c :: Own 2 1 (i64s ks) ak ck :: Own 63 4 (ch4 R15.1) a2 c2 :: Own 40 2 (en2 R13.1) a1 c1 :: cel b3 #[.int .i64 R1.1, .int .u64 R2.1, .int .i64 R3.1, .bool R4.1, .int .i64 R5.1, .int .i64 R6.1, .int .i64 R7.1, .int .i64 R8.1, .int .i64 R9.1, .int .i64 R10.1, .int .i64 R11.1, .slice a1 (List.length (en2 R13.1)) c1, .slice a2 (List.length (ch4 R15.1)) c2, .slice ak (List.length (i64s ks)) ck, .slice none 0 0] 45 :: cel b1 #[.int .i64 0, .int .u64 0, .int .i64 0, .bool false, .int .i64 0, .int .i64 0, .int .i64 0, .int .i64 0, .int .i64 0, .int .i64 0, .int .i64 0, .slice none 0 0, .slice none 0 0, .slice none 0 0, .slice none 0 0] 45 :: L) w := hS
                  refine WL.nil ?_
                  refine ⟨by exact ⟨RQ.pure rfl rfl rfl rfl, RQ.load rfl rfl rfl rfl (hS.ld 5 rfl rfl)⟩, ?_⟩
                  refine WQ.nil ?_
                  intro m2
                  replace hS := hS.drewN m2; generalize hwm2 : World.drewN _ _ = w at *; clear hwm2
                  refine WL.lit rfl rfl (i64s [R17.1]) el_43 hS (by exact ⟨rfl, rfl⟩) (i64s_ok _) rfl (by decide) (fun b4 w hS => ?_)
                  refine WL.nil ?_
                  refine ⟨by exact ⟨RQ.pure rfl rfl rfl rfl, RQ.load rfl rfl rfl rfl (hS.ld 6 rfl rfl)⟩, ?_⟩
                  refine WQ.nil ?_
                  intro m3
                  replace hS := hS.drewN m3; generalize hwm3 : World.drewN _ _ = w at *; clear hwm3
                  refine WL.app rfl rfl 3 (i64s (ks ++ [R17.1])) el_43 hS rfl (hS.srcO 0 rfl) (i64s_app _ _).symm (Rm.of (by first | omega | (simp <;> omega)) (by decide)) rfl rfl (fun a3 c3 w hS => ?_)
                  replace hS : St g (Own 2 1 (i64s [R17.1]) (some ⟨b4, 0, none⟩) (List.length (i64s [R17.1])) :: cel b2 #[.slice a (List.length (by8 bs)) c, .int .i64 (R17.2.1 : Int), .int .i64 R17.2.2] 78 :: Sh 5 1 (by8 bs) a c :: Own 2 1 (i64s (ks ++ [R17.1])) a3 c3 :: Own 63 4 (ch4 R15.1) a2 c2 :: Own 40 2 (en2 R13.1) a1 c1 :: cel b3 #[.int .i64 R1.1, .int .u64 R2.1, .int .i64 R3.1, .bool R4.1, .int .i64 R5.1, .int .i64 R6.1, .int .i64 R7.1, .int .i64 R8.1, .int .i64 R9.1, .int .i64 R10.1, .int .i64 R11.1, .slice a1 (List.length (en2 R13.1)) c1, .slice a2 (List.length (ch4 R15.1)) c2, .slice ak (List.length (i64s ks)) ck, .slice none 0 0] 45 :: cel b1 #[.int .i64 0, .int .u64 0, .int .i64 0, .bool false, .int .i64 0, .int .i64 0, .int .i64 0, .int .i64 0, .int .i64 0, .int .i64 0, .int .i64 0, .slice none 0 0, .slice none 0 0, .slice none 0 0, .slice none 0 0] 45 :: L) w := hS
                  refine WL.nil ?_
                  refine ⟨by exact trivial, ?_⟩
                  refine WQ.r 1 rfl ?_
                  refine WQ.nil ?_
                  intro m4
                  replace hS := hS.drewN m4; generalize hwm4 : World.drewN _ _ = w at *; clear hwm4
                  refine WL.st rfl rfl rfl 6 hS rfl rfl rfl rfl rfl rfl (fun w hS => ?_)
                  replace hS : St g (Own 2 1 (i64s [R17.1]) (some ⟨b4, 0, none⟩) (List.length (i64s [R17.1])) :: cel b2 #[.slice a (List.length (by8 bs)) c, .int .i64 (R17.2.1 : Int), .int .i64 R17.2.2] 78 :: Sh 5 1 (by8 bs) a c :: Own 2 1 (i64s (ks ++ [R17.1])) a3 c3 :: Own 63 4 (ch4 R15.1) a2 c2 :: Own 40 2 (en2 R13.1) a1 c1 :: cel b3 #[.int .i64 R1.1, .int .u64 R2.1, .int .i64 R3.1, .bool R4.1, .int .i64 R5.1, .int .i64 R6.1, .int .i64 R7.1, .int .i64 R8.1, .int .i64 R9.1, .int .i64 R10.1, .int .i64 R11.1, .slice a1 (List.length (en2 R13.1)) c1, .slice a2 (List.length (ch4 R15.1)) c2, .slice a3 (List.length (i64s (ks ++ [R17.1]))) c3, .slice none 0 0] 45 :: cel b1 #[.int .i64 0, .int .u64 0, .int .i64 0, .bool false, .int .i64 0, .int .i64 0, .int .i64 0, .int .i64 0, .int .i64 0, .int .i64 0, .int .i64 0, .slice none 0 0, .slice none 0 0, .slice none 0 0, .slice none 0 0] 45 :: L) w := hS
                  refine WL.nil ?_
                  refine ⟨by exact trivial, ?_⟩
                  intro m5
                  replace hS := hS.drewN m5; generalize hwm5 : World.drewN _ _ = w at *; clear hwm5
                  as_aux_lemma =>
                    refine WC.region ?_
                    refine WL.r 2 rfl ?_
                    refine WL.nw 84 rfl (w64 (by omega)) ?_
                    refine WL.r 1 rfl ?_
                    refine WL.nil ?_
                    exact ⟨_, by omega, n - 1, ks ++ [R17.1], R17.2.1, R17.2.2, _, _, rfl, (hS.sel 8 [3, 1, 1, 1, 1, 1, 1] rfl), (by simp; omega), (by assumption), (by rw [hr, show n.toNat = (n - 1).toNat + 1 by omega, rInts, if_neg (by simp [cd2.2])]; subst hR17; simp), rfl⟩
                · refine WC.exit ?_
                  refine WC.seq ?_
                  refine WC.region ?_
                  have hr2 : rInts bs R16.1.toNat R16.2.1 R16.2.2 = (ks, q, e) := by
                    rw [hr]
                    rcases Int.lt_or_le 0 n with h | h
                    · rw [rInts_0 (by omega)]; simp
                    · rw [show n.toNat = 0 by omega]; simp [rInts]
                  refine WL.r 2 rfl ?_
                  refine WL.call rfl rfl (counted_spec (r := b2) (c := c) (a := a) (bs := bs) (p := q) (e := e) (hp := (by assumption)) (hl := (by assumption)) (hb := (by assumption)) (hS := (hS.sel 7 [1, 1, 0, 0, 0, 0, 0] rfl))) rfl ?_
                  generalize hR17 : rCnt bs q e = R17
                  rintro _ w ⟨rfl, hS⟩
                  have hR17f0 : R17.2.1 ≤ (List.length bs) := by rw [← hR17]; exact rCnt_le (by assumption)
                  have hR17f1 : (0 ≤ R17.1) ∧ (R17.1 + (R17.2.1 : Int) ≤ (List.length bs)) := by rw [← hR17]; exact rCnt_b (by assumption) (by assumption)
                  replace hS : St g (cel b2 #[.slice a (List.length (by8 bs)) c, .int .i64 (R17.2.1 : Int), .int .i64 R17.2.2] 78 :: Sh 5 1 (by8 bs) a c :: Own 2 1 (i64s ks) ak ck :: Own 63 4 (ch4 R15.1) a2 c2 :: Own 40 2 (en2 R13.1) a1 c1 :: cel b3 #[.int .i64 R1.1, .int .u64 R2.1, .int .i64 R3.1, .bool R4.1, .int .i64 R5.1, .int .i64 R6.1, .int .i64 R7.1, .int .i64 R8.1, .int .i64 R9.1, .int .i64 R10.1, .int .i64 R11.1, .slice a1 (List.length (en2 R13.1)) c1, .slice a2 (List.length (ch4 R15.1)) c2, .slice ak (List.length (i64s ks)) ck, .slice none 0 0] 45 :: cel b1 #[.int .i64 0, .int .u64 0, .int .i64 0, .bool false, .int .i64 0, .int .i64 0, .int .i64 0, .int .i64 0, .int .i64 0, .int .i64 0, .int .i64 0, .slice none 0 0, .slice none 0 0, .slice none 0 0, .slice none 0 0] 45 :: L) w := hS
                  refine WL.call rfl rfl (bytes_spec (r := b2) (c := c) (a := a) (bs := bs) (p := R17.2.1) (e := R17.2.2) (n := R17.1) (hp := (by assumption)) (hl := (by assumption)) (hb := (by assumption)) (hn := (by omega)) (hS := hS)) rfl ?_
                  generalize hR18 : rBytes bs R17.1.toNat R17.2.1 R17.2.2 = R18
                  rintro _ w ⟨a3, c3, rfl, hS⟩
                  have hR18f0 : R18.2.1 ≤ (List.length bs) := by rw [← hR18]; exact rBytes_le (by assumption)
                  have hR18f1 : (List.length R18.1) ≤ (List.length bs) := by rw [← hR18]; exact rBytes_len
                  have hR18f2 : B8 R18.1 := by rw [← hR18]; exact rBytes_B8 (by assumption)
                  replace hS : St g (cel b2 #[.slice a (List.length (by8 bs)) c, .int .i64 (R18.2.1 : Int), .int .i64 R18.2.2] 78 :: Sh 5 1 (by8 bs) a c :: Own 5 1 (by8 R18.1) a3 c3 :: Own 2 1 (i64s ks) ak ck :: Own 63 4 (ch4 R15.1) a2 c2 :: Own 40 2 (en2 R13.1) a1 c1 :: cel b3 #[.int .i64 R1.1, .int .u64 R2.1, .int .i64 R3.1, .bool R4.1, .int .i64 R5.1, .int .i64 R6.1, .int .i64 R7.1, .int .i64 R8.1, .int .i64 R9.1, .int .i64 R10.1, .int .i64 R11.1, .slice a1 (List.length (en2 R13.1)) c1, .slice a2 (List.length (ch4 R15.1)) c2, .slice ak (List.length (i64s ks)) ck, .slice none 0 0] 45 :: cel b1 #[.int .i64 0, .int .u64 0, .int .i64 0, .bool false, .int .i64 0, .int .i64 0, .int .i64 0, .int .i64 0, .int .i64 0, .int .i64 0, .int .i64 0, .slice none 0 0, .slice none 0 0, .slice none 0 0, .slice none 0 0] 45 :: L) w := hS
                  refine WL.r 1 rfl ?_
                  refine WL.st rfl rfl rfl 6 hS rfl rfl rfl rfl rfl rfl (fun w hS => ?_)
                  replace hS : St g (cel b2 #[.slice a (List.length (by8 bs)) c, .int .i64 (R18.2.1 : Int), .int .i64 R18.2.2] 78 :: Sh 5 1 (by8 bs) a c :: Own 5 1 (by8 R18.1) a3 c3 :: Own 2 1 (i64s ks) ak ck :: Own 63 4 (ch4 R15.1) a2 c2 :: Own 40 2 (en2 R13.1) a1 c1 :: cel b3 #[.int .i64 R1.1, .int .u64 R2.1, .int .i64 R3.1, .bool R4.1, .int .i64 R5.1, .int .i64 R6.1, .int .i64 R7.1, .int .i64 R8.1, .int .i64 R9.1, .int .i64 R10.1, .int .i64 R11.1, .slice a1 (List.length (en2 R13.1)) c1, .slice a2 (List.length (ch4 R15.1)) c2, .slice ak (List.length (i64s ks)) ck, .slice a3 (List.length (by8 R18.1)) c3] 45 :: cel b1 #[.int .i64 0, .int .u64 0, .int .i64 0, .bool false, .int .i64 0, .int .i64 0, .int .i64 0, .int .i64 0, .int .i64 0, .int .i64 0, .int .i64 0, .slice none 0 0, .slice none 0 0, .slice none 0 0, .slice none 0 0] 45 :: L) w := hS
                  refine WL.nil ?_
                  as_aux_lemma =>
                    refine WC.seq ?_
                    refine WC.seq ?_
                    refine WC.region ?_
                    refine WL.run 5 [.int .i64 R18.2.2] rfl (by exact hS.ld 0 rfl rfl) ?_
                    refine WL.nil ?_
                    refine WC.ifP rfl (fun cd3 => ?_) (fun cd3 => ?_)
                    · refine WC.seq ?_
                      refine WC.plan [([1, 2, 3, 4], some (0, [1, 2, 3, 4])), ([], some (5, [1, 2, 3, 4])), ([6, 7], none)] (by kernel_rfl) (by kernel_rfl) ?_
                      refine WQ.run 4 [.int .i64 R18.2.2] rfl (by exact hS.ld 0 rfl rfl) ?_
                      refine WQ.nil ?_
                      intro m1
                      replace hS := hS.drewN m1; generalize hwm1 : World.drewN _ _ = w at *; clear hwm1
                      refine WL.build rfl rfl (cs := [.int .i64 0, .int .u64 0, .int .i64 0, .bool false, .int .i64 0, .int .i64 0, .int .i64 0, .int .i64 0, .int .i64 0, .int .i64 0, .int .i64 0, .slice none 0 0, .slice none 0 0, .slice none 0 0, .slice none 0 0]) zv_45 rfl rfl ?_
                      refine WL.nil ?_
                      refine ⟨by exact ⟨RQ.pure rfl rfl rfl rfl, RQ.pure rfl rfl rfl rfl, RQ.pure rfl rfl rfl rfl, RQ.load rfl rfl rfl rfl (hS.ld 0 rfl rfl)⟩, ?_⟩
                      refine WQ.nil ?_
                      intro m2
                      replace hS := hS.drewN m2; generalize hwm2 : World.drewN _ _ = w at *; clear hwm2
                      refine WL.stF rfl rfl rfl 7 hS rfl rfl rfl rfl rfl ag_45 (fun w hS => ?_)
                      replace hS : St g (cel b2 #[.slice a (List.length (by8 bs)) c, .int .i64 (R18.2.1 : Int), .int .i64 R18.2.2] 78 :: Sh 5 1 (by8 bs) a c :: Own 5 1 (by8 R18.1) a3 c3 :: Own 2 1 (i64s ks) ak ck :: Own 63 4 (ch4 R15.1) a2 c2 :: Own 40 2 (en2 R13.1) a1 c1 :: cel b3 #[.int .i64 R1.1, .int .u64 R2.1, .int .i64 R3.1, .bool R4.1, .int .i64 R5.1, .int .i64 R6.1, .int .i64 R7.1, .int .i64 R8.1, .int .i64 R9.1, .int .i64 R10.1, .int .i64 R11.1, .slice a1 (List.length (en2 R13.1)) c1, .slice a2 (List.length (ch4 R15.1)) c2, .slice ak (List.length (i64s ks)) ck, .slice a3 (List.length (by8 R18.1)) c3] 45 :: cel b1 #[.int .i64 0, .int .u64 0, .int .i64 0, .bool false, .int .i64 0, .int .i64 0, .int .i64 0, .int .i64 0, .int .i64 0, .int .i64 0, .int .i64 0, .slice none 0 0, .slice none 0 0, .slice none 0 0, .slice none 0 0] 45 :: L) w := hS
                      refine WL.nil ?_
                      refine ⟨by exact ⟨RQ.pure rfl rfl rfl rfl, RQ.pure rfl rfl rfl rfl, RQ.pure rfl rfl rfl rfl, RQ.load rfl rfl rfl rfl (hS.ld 0 rfl rfl)⟩, ?_⟩
                      refine WQ.r 2 rfl ?_
                      refine WQ.nil ?_
                      intro m3
                      replace hS := hS.drewN m3; generalize hwm3 : World.drewN _ _ = w at *; clear hwm3
                      as_aux_lemma =>
                        refine WC.ret ?_
                        refine ⟨[.agg #[.int .i64 0, .int .u64 0, .int .i64 0, .bool false, .int .i64 0, .int .i64 0, .int .i64 0, .int .i64 0, .int .i64 0, .int .i64 0, .int .i64 0, .slice none 0 0, .slice none 0 0, .slice none 0 0, .slice none 0 0], .int .i64 0, .int .i64 R18.2.2], ⟨⟨_, rfl, hS.lvF 7 rfl ag_45⟩, rfl, rfl⟩, ?_⟩
                        replace hS := hS.nil_ 5 1
                        replace hS := hS.nil_ 40 2
                        replace hS := hS.nil_ 63 4
                        replace hS := hS.nil_ 2 1
                        replace hS := (hS.sel 12 [5, 3, 2, 1, 0] rfl)
                        have hA : (rAns bs q0).2.2 = R18.2.2 := by rw [rAns, hR1, an1, hR2, an2, hR3, an3, hR4, an4, hR5, an5, hR6, an6, hR7, an7, hR8, an8, hR9, an9, hR10, an10, hR11, an11, hR12, an12, hR13, an13, hR14, an14, hR15, an15, hR16, an16, hr2, an17, hR17, an18, hR18, an19]
                        have hn : rNxa bs (q0 : Int) = (an0, 0, R18.2.2) := by rw [rNxa, if_neg (by omega)]; simp only [Int.toNat_natCast, hA]; rw [if_pos cd3]
                        rw [hn]; exact ⟨_, _, _, _, _, _, _, _, rfl, hS⟩
                    · refine WC.skip ?_
                      refine WC.seq ?_
                      refine WC.plan [([1, 2, 3, 4], some (0, [1, 2, 3, 4])), ([], some (5, [1, 2, 3, 4])), ([6, 7], none)] (by kernel_rfl) (by kernel_rfl) ?_
                      refine WQ.run 4 [.int .i64 (R18.2.1 : Int)] rfl (by exact hS.ld 0 rfl rfl) ?_
                      refine WQ.nil ?_
                      intro m1
                      replace hS := hS.drewN m1; generalize hwm1 : World.drewN _ _ = w at *; clear hwm1
                      refine WL.ldF rfl rfl 6 hS rfl rfl ag_45 ?_
                      refine WL.nil ?_
                      refine ⟨by exact ⟨RQ.pure rfl rfl rfl rfl, RQ.pure rfl rfl rfl rfl, RQ.pure rfl rfl rfl rfl, RQ.load rfl rfl rfl rfl (hS.ld 0 rfl rfl)⟩, ?_⟩
                      refine WQ.nil ?_
                      intro m2
                      replace hS := hS.drewN m2; generalize hwm2 : World.drewN _ _ = w at *; clear hwm2
                      refine WL.stF rfl rfl rfl 7 hS rfl rfl rfl rfl rfl ag_45 (fun w hS => ?_)
                      replace hS : St g (cel b2 #[.slice a (List.length (by8 bs)) c, .int .i64 (R18.2.1 : Int), .int .i64 R18.2.2] 78 :: Sh 5 1 (by8 bs) a c :: Own 5 1 (by8 R18.1) a3 c3 :: Own 2 1 (i64s ks) ak ck :: Own 63 4 (ch4 R15.1) a2 c2 :: Own 40 2 (en2 R13.1) a1 c1 :: cel b3 #[.int .i64 R1.1, .int .u64 R2.1, .int .i64 R3.1, .bool R4.1, .int .i64 R5.1, .int .i64 R6.1, .int .i64 R7.1, .int .i64 R8.1, .int .i64 R9.1, .int .i64 R10.1, .int .i64 R11.1, .slice a1 (List.length (en2 R13.1)) c1, .slice a2 (List.length (ch4 R15.1)) c2, .slice ak (List.length (i64s ks)) ck, .slice a3 (List.length (by8 R18.1)) c3] 45 :: cel b1 #[.int .i64 R1.1, .int .u64 R2.1, .int .i64 R3.1, .bool R4.1, .int .i64 R5.1, .int .i64 R6.1, .int .i64 R7.1, .int .i64 R8.1, .int .i64 R9.1, .int .i64 R10.1, .int .i64 R11.1, .slice a1 (List.length (en2 R13.1)) c1, .slice a2 (List.length (ch4 R15.1)) c2, .slice ak (List.length (i64s ks)) ck, .slice a3 (List.length (by8 R18.1)) c3] 45 :: L) w := hS
                      refine WL.nil ?_
                      refine ⟨by exact ⟨RQ.pure rfl rfl rfl rfl, RQ.pure rfl rfl rfl rfl, RQ.pure rfl rfl rfl rfl, RQ.load rfl rfl rfl rfl (hS.ld 0 rfl rfl)⟩, ?_⟩
                      refine WQ.r 2 rfl ?_
                      refine WQ.nil ?_
                      intro m3
                      replace hS := hS.drewN m3; generalize hwm3 : World.drewN _ _ = w at *; clear hwm3
                      as_aux_lemma =>
                        refine WC.ret ?_
                        refine ⟨[.agg #[.int .i64 R1.1, .int .u64 R2.1, .int .i64 R3.1, .bool R4.1, .int .i64 R5.1, .int .i64 R6.1, .int .i64 R7.1, .int .i64 R8.1, .int .i64 R9.1, .int .i64 R10.1, .int .i64 R11.1, .slice a1 (List.length (en2 R13.1)) c1, .slice a2 (List.length (ch4 R15.1)) c2, .slice ak (List.length (i64s ks)) ck, .slice a3 (List.length (by8 R18.1)) c3], .int .i64 (R18.2.1 : Int), .int .i64 0], ⟨⟨_, rfl, hS.lvF 7 rfl ag_45⟩, rfl, rfl⟩, ?_⟩
                        replace hS := (hS.sel 8 [1, 1, 3, 2, 1] rfl)
                        have hA : rAns bs q0 = ({ err := R1.1, handle := R2.1, value := R3.1, found := R4.1, n := R5.1, ekey := R6.1, eval := R7.1, count := R8.1, sum := R9.1, mn := R10.1, mx := R11.1, ents := R13.1, chs := R15.1, keys := ks, bytes := R18.1 }, R18.2) := by rw [rAns, hR1, an1, hR2, an2, hR3, an3, hR4, an4, hR5, an5, hR6, an6, hR7, an7, hR8, an8, hR9, an9, hR10, an10, hR11, an11, hR12, an12, hR13, an13, hR14, an14, hR15, an15, hR16, an16, hr2, an17, hR17, an18, hR18, an19]
                        have hn : rNxa bs (q0 : Int) = ({ err := R1.1, handle := R2.1, value := R3.1, found := R4.1, n := R5.1, ekey := R6.1, eval := R7.1, count := R8.1, sum := R9.1, mn := R10.1, mx := R11.1, ents := R13.1, chs := R15.1, keys := ks, bytes := R18.1 }, (R18.2.1 : Int), 0) := by rw [rNxa, if_neg (by omega)]; simp only [Int.toNat_natCast, hA]; rw [if_neg cd3]
                        rw [hn]; exact ⟨_, _, _, _, _, _, _, _, rfl, hS⟩
end Go.Proofs.Ytofnoopjlmdelaa
