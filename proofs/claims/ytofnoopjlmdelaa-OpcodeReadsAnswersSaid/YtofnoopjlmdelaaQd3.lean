/-
  The reference's reader of operations: fields, Next.
  Conditions: sizes below a bound that the laws meet.
-/
import Derived.Test.YtofnoopjlmdelaaQd2
import Derived.Test.YtofnoopjlmdelaaFld
import Derived.Test.YtofnoopjlmdelaaQop
namespace Go.Proofs.Ytofnoopjlmdelaa
open Go Go.V


theorem qfield_spec {g w : World} {L : List HP} (r c : Nat) (a : Option Addr) (bs : List Int) (p : Nat) (e : Int) (o : Nat) (x : OpM) (f : Int) (ab ae ac : Option Addr) (cb ce cc : Nat) (hp : p ≤ bs.length) (hl : bs.length ≤ 100000) (hb : B8 bs) (hS : St g (cel r #[.slice a (List.length (by8 bs)) c, .int .i64 (p : Int), .int .i64 e] 88 :: Sh 5 1 (by8 bs) a c :: cel o #[.int .i64 x.code, .int .u64 x.a, .int .u64 x.b, .int .i64 x.key, .int .i64 x.val, .int .i64 x.lo, .int .i64 x.hi, .int .i64 x.n, .bool x.flag, .string x.name, .slice ab (List.length (by8 x.bytes)) cb, .slice ae (List.length (en2 x.ents)) ce, .slice ac (List.length (ch4 x.chs)) cc] 27 :: Own 5 1 (by8 x.bytes) ab cb :: Own 40 2 (en2 x.ents) ae ce :: Own 63 4 (ch4 x.chs) ac cc :: L) w) :
    Sp Try.prog 61 [.pointer (some ⟨r, 0, none⟩), .pointer (some ⟨o, 0, none⟩), .int .u8 f] w (fun v w' => ∃ (ab2 ae2 ac2 : Option Addr) (cb2 ce2 cc2 : Nat), v = .tuple #[] ∧ St g (cel r #[.slice a (List.length (by8 bs)) c, .int .i64 ((qField bs f x p e).2.1 : Int), .int .i64 (qField bs f x p e).2.2] 88 :: Sh 5 1 (by8 bs) a c :: cel o #[.int .i64 (qField bs f x p e).1.code, .int .u64 (qField bs f x p e).1.a, .int .u64 (qField bs f x p e).1.b, .int .i64 (qField bs f x p e).1.key, .int .i64 (qField bs f x p e).1.val, .int .i64 (qField bs f x p e).1.lo, .int .i64 (qField bs f x p e).1.hi, .int .i64 (qField bs f x p e).1.n, .bool (qField bs f x p e).1.flag, .string (qField bs f x p e).1.name, .slice ab2 (List.length (by8 (qField bs f x p e).1.bytes)) cb2, .slice ae2 (List.length (en2 (qField bs f x p e).1.ents)) ce2, .slice ac2 (List.length (ch4 (qField bs f x p e).1.chs)) cc2] 27 :: Own 5 1 (by8 (qField bs f x p e).1.bytes) ab2 cb2 :: Own 40 2 (en2 (qField bs f x p e).1.ents) ae2 ce2 :: Own 63 4 (ch4 (qField bs f x p e).1.chs) ac2 cc2 :: L) w') := by
  refine Sp.enter Try.func61 rfl (by kernel_rfl) (by kernel_rfl) ?_
  have _ := hb
  have _ := hl
  have _ := hp
  refine WC.seq ?_
  refine WC.region ?_
  refine WL.r 1 rfl ?_
  refine WL.nil ?_
  refine WC.block ?_
  refine WC.seq ?_
  refine WC.region ?_
  refine WL.r 2 rfl ?_
  refine WL.nil ?_
  refine WC.ifP rfl (fun cd1 => ?_) (fun cd1 => ?_)
  · refine WC.region ?_
    refine WL.r 2 rfl ?_
    refine WL.call rfl rfl (qu_spec (r := r) (c := c) (a := a) (bs := bs) (p := p) (e := e) (most := 18446744073709551615) (hp := (by assumption)) (hl := (by assumption)) (hb := (by assumption)) (hm := (by omega)) (hS := hS)) rfl ?_
    generalize hR1 : qU bs 18446744073709551615 p e = R1
    rintro _ w ⟨rfl, hS⟩
    have hR1f0 : R1.2.1 ≤ (List.length bs) := by rw [← hR1]; exact qU_le (by assumption)
    have hR1f1 : (0 ≤ R1.1) ∧ (R1.1 ≤ 18446744073709551615) := by rw [← hR1]; exact qU_b (by assumption) (by omega)
    replace hS : St g (cel r #[.slice a (List.length (by8 bs)) c, .int .i64 (R1.2.1 : Int), .int .i64 R1.2.2] 88 :: Sh 5 1 (by8 bs) a c :: cel o #[.int .i64 x.code, .int .u64 x.a, .int .u64 x.b, .int .i64 x.key, .int .i64 x.val, .int .i64 x.lo, .int .i64 x.hi, .int .i64 x.n, .bool x.flag, .string x.name, .slice ab (List.length (by8 x.bytes)) cb, .slice ae (List.length (en2 x.ents)) ce, .slice ac (List.length (ch4 x.chs)) cc] 27 :: Own 5 1 (by8 x.bytes) ab cb :: Own 40 2 (en2 x.ents) ae ce :: Own 63 4 (ch4 x.chs) ac cc :: L) w := hS
    refine WL.r 2 rfl ?_
    refine WL.st rfl rfl rfl 2 hS rfl rfl rfl rfl rfl rfl (fun w hS => ?_)
    replace hS : St g (cel r #[.slice a (List.length (by8 bs)) c, .int .i64 (R1.2.1 : Int), .int .i64 R1.2.2] 88 :: Sh 5 1 (by8 bs) a c :: cel o #[.int .i64 x.code, .int .u64 R1.1, .int .u64 x.b, .int .i64 x.key, .int .i64 x.val, .int .i64 x.lo, .int .i64 x.hi, .int .i64 x.n, .bool x.flag, .string x.name, .slice ab (List.length (by8 x.bytes)) cb, .slice ae (List.length (en2 x.ents)) ce, .slice ac (List.length (ch4 x.chs)) cc] 27 :: Own 5 1 (by8 x.bytes) ab cb :: Own 40 2 (en2 x.ents) ae ce :: Own 63 4 (ch4 x.chs) ac cc :: L) w := hS
    refine WL.nil ?_
    refine ⟨[], trivial, ?_⟩
    subst_vars; rw [qField_A]; exact ⟨_, _, _, _, _, _, rfl, hS⟩
  · refine WC.seq ?_
    refine WC.region ?_
    refine WL.r 2 rfl ?_
    refine WL.nil ?_
    refine WC.ifP rfl (fun cd2 => ?_) (fun cd2 => ?_)
    · refine WC.region ?_
      refine WL.r 2 rfl ?_
      refine WL.call rfl rfl (qu_spec (r := r) (c := c) (a := a) (bs := bs) (p := p) (e := e) (most := 18446744073709551615) (hp := (by assumption)) (hl := (by assumption)) (hb := (by assumption)) (hm := (by omega)) (hS := hS)) rfl ?_
      generalize hR1 : qU bs 18446744073709551615 p e = R1
      rintro _ w ⟨rfl, hS⟩
      have hR1f0 : R1.2.1 ≤ (List.length bs) := by rw [← hR1]; exact qU_le (by assumption)
      have hR1f1 : (0 ≤ R1.1) ∧ (R1.1 ≤ 18446744073709551615) := by rw [← hR1]; exact qU_b (by assumption) (by omega)
      replace hS : St g (cel r #[.slice a (List.length (by8 bs)) c, .int .i64 (R1.2.1 : Int), .int .i64 R1.2.2] 88 :: Sh 5 1 (by8 bs) a c :: cel o #[.int .i64 x.code, .int .u64 x.a, .int .u64 x.b, .int .i64 x.key, .int .i64 x.val, .int .i64 x.lo, .int .i64 x.hi, .int .i64 x.n, .bool x.flag, .string x.name, .slice ab (List.length (by8 x.bytes)) cb, .slice ae (List.length (en2 x.ents)) ce, .slice ac (List.length (ch4 x.chs)) cc] 27 :: Own 5 1 (by8 x.bytes) ab cb :: Own 40 2 (en2 x.ents) ae ce :: Own 63 4 (ch4 x.chs) ac cc :: L) w := hS
      refine WL.r 2 rfl ?_
      refine WL.st rfl rfl rfl 2 hS rfl rfl rfl rfl rfl rfl (fun w hS => ?_)
      replace hS : St g (cel r #[.slice a (List.length (by8 bs)) c, .int .i64 (R1.2.1 : Int), .int .i64 R1.2.2] 88 :: Sh 5 1 (by8 bs) a c :: cel o #[.int .i64 x.code, .int .u64 x.a, .int .u64 R1.1, .int .i64 x.key, .int .i64 x.val, .int .i64 x.lo, .int .i64 x.hi, .int .i64 x.n, .bool x.flag, .string x.name, .slice ab (List.length (by8 x.bytes)) cb, .slice ae (List.length (en2 x.ents)) ce, .slice ac (List.length (ch4 x.chs)) cc] 27 :: Own 5 1 (by8 x.bytes) ab cb :: Own 40 2 (en2 x.ents) ae ce :: Own 63 4 (ch4 x.chs) ac cc :: L) w := hS
      refine WL.nil ?_
      refine ⟨[], trivial, ?_⟩
      subst_vars; rw [qField_B]; exact ⟨_, _, _, _, _, _, rfl, hS⟩
    · refine WC.seq ?_
      refine WC.region ?_
      refine WL.r 2 rfl ?_
      refine WL.nil ?_
      refine WC.ifP rfl (fun cd3 => ?_) (fun cd3 => ?_)
      · refine WC.region ?_
        refine WL.r 2 rfl ?_
        refine WL.call rfl rfl (qz_spec (r := r) (c := c) (a := a) (bs := bs) (p := p) (e := e) (hp := (by assumption)) (hl := (by assumption)) (hb := (by assumption)) (hS := hS)) rfl ?_
        generalize hR1 : qZ bs p e = R1
        rintro _ w ⟨rfl, hS⟩
        have hR1f0 : R1.2.1 ≤ (List.length bs) := by rw [← hR1]; exact qZ_le (by assumption)
        replace hS : St g (cel r #[.slice a (List.length (by8 bs)) c, .int .i64 (R1.2.1 : Int), .int .i64 R1.2.2] 88 :: Sh 5 1 (by8 bs) a c :: cel o #[.int .i64 x.code, .int .u64 x.a, .int .u64 x.b, .int .i64 x.key, .int .i64 x.val, .int .i64 x.lo, .int .i64 x.hi, .int .i64 x.n, .bool x.flag, .string x.name, .slice ab (List.length (by8 x.bytes)) cb, .slice ae (List.length (en2 x.ents)) ce, .slice ac (List.length (ch4 x.chs)) cc] 27 :: Own 5 1 (by8 x.bytes) ab cb :: Own 40 2 (en2 x.ents) ae ce :: Own 63 4 (ch4 x.chs) ac cc :: L) w := hS
        refine WL.r 2 rfl ?_
        refine WL.st rfl rfl rfl 2 hS rfl rfl rfl rfl rfl rfl (fun w hS => ?_)
        replace hS : St g (cel r #[.slice a (List.length (by8 bs)) c, .int .i64 (R1.2.1 : Int), .int .i64 R1.2.2] 88 :: Sh 5 1 (by8 bs) a c :: cel o #[.int .i64 x.code, .int .u64 x.a, .int .u64 x.b, .int .i64 R1.1, .int .i64 x.val, .int .i64 x.lo, .int .i64 x.hi, .int .i64 x.n, .bool x.flag, .string x.name, .slice ab (List.length (by8 x.bytes)) cb, .slice ae (List.length (en2 x.ents)) ce, .slice ac (List.length (ch4 x.chs)) cc] 27 :: Own 5 1 (by8 x.bytes) ab cb :: Own 40 2 (en2 x.ents) ae ce :: Own 63 4 (ch4 x.chs) ac cc :: L) w := hS
        refine WL.nil ?_
        refine ⟨[], trivial, ?_⟩
        subst_vars; rw [qField_K]; exact ⟨_, _, _, _, _, _, rfl, hS⟩
      · refine WC.seq ?_
        refine WC.region ?_
        refine WL.r 2 rfl ?_
        refine WL.nil ?_
        as_aux_lemma =>
          refine WC.ifP rfl (fun cd4 => ?_) (fun cd4 => ?_)
          · refine WC.region ?_
            refine WL.r 2 rfl ?_
            refine WL.call rfl rfl (qz_spec (r := r) (c := c) (a := a) (bs := bs) (p := p) (e := e) (hp := (by assumption)) (hl := (by assumption)) (hb := (by assumption)) (hS := hS)) rfl ?_
            generalize hR1 : qZ bs p e = R1
            rintro _ w ⟨rfl, hS⟩
            have hR1f0 : R1.2.1 ≤ (List.length bs) := by rw [← hR1]; exact qZ_le (by assumption)
            replace hS : St g (cel r #[.slice a (List.length (by8 bs)) c, .int .i64 (R1.2.1 : Int), .int .i64 R1.2.2] 88 :: Sh 5 1 (by8 bs) a c :: cel o #[.int .i64 x.code, .int .u64 x.a, .int .u64 x.b, .int .i64 x.key, .int .i64 x.val, .int .i64 x.lo, .int .i64 x.hi, .int .i64 x.n, .bool x.flag, .string x.name, .slice ab (List.length (by8 x.bytes)) cb, .slice ae (List.length (en2 x.ents)) ce, .slice ac (List.length (ch4 x.chs)) cc] 27 :: Own 5 1 (by8 x.bytes) ab cb :: Own 40 2 (en2 x.ents) ae ce :: Own 63 4 (ch4 x.chs) ac cc :: L) w := hS
            refine WL.r 2 rfl ?_
            refine WL.st rfl rfl rfl 2 hS rfl rfl rfl rfl rfl rfl (fun w hS => ?_)
            replace hS : St g (cel r #[.slice a (List.length (by8 bs)) c, .int .i64 (R1.2.1 : Int), .int .i64 R1.2.2] 88 :: Sh 5 1 (by8 bs) a c :: cel o #[.int .i64 x.code, .int .u64 x.a, .int .u64 x.b, .int .i64 x.key, .int .i64 R1.1, .int .i64 x.lo, .int .i64 x.hi, .int .i64 x.n, .bool x.flag, .string x.name, .slice ab (List.length (by8 x.bytes)) cb, .slice ae (List.length (en2 x.ents)) ce, .slice ac (List.length (ch4 x.chs)) cc] 27 :: Own 5 1 (by8 x.bytes) ab cb :: Own 40 2 (en2 x.ents) ae ce :: Own 63 4 (ch4 x.chs) ac cc :: L) w := hS
            refine WL.nil ?_
            refine ⟨[], trivial, ?_⟩
            subst_vars; rw [qField_V]; exact ⟨_, _, _, _, _, _, rfl, hS⟩
          · refine WC.seq ?_
            refine WC.region ?_
            refine WL.r 2 rfl ?_
            refine WL.nil ?_
            refine WC.ifP rfl (fun cd5 => ?_) (fun cd5 => ?_)
            · refine WC.region ?_
              refine WL.r 2 rfl ?_
              refine WL.call rfl rfl (qz_spec (r := r) (c := c) (a := a) (bs := bs) (p := p) (e := e) (hp := (by assumption)) (hl := (by assumption)) (hb := (by assumption)) (hS := hS)) rfl ?_
              generalize hR1 : qZ bs p e = R1
              rintro _ w ⟨rfl, hS⟩
              have hR1f0 : R1.2.1 ≤ (List.length bs) := by rw [← hR1]; exact qZ_le (by assumption)
              replace hS : St g (cel r #[.slice a (List.length (by8 bs)) c, .int .i64 (R1.2.1 : Int), .int .i64 R1.2.2] 88 :: Sh 5 1 (by8 bs) a c :: cel o #[.int .i64 x.code, .int .u64 x.a, .int .u64 x.b, .int .i64 x.key, .int .i64 x.val, .int .i64 x.lo, .int .i64 x.hi, .int .i64 x.n, .bool x.flag, .string x.name, .slice ab (List.length (by8 x.bytes)) cb, .slice ae (List.length (en2 x.ents)) ce, .slice ac (List.length (ch4 x.chs)) cc] 27 :: Own 5 1 (by8 x.bytes) ab cb :: Own 40 2 (en2 x.ents) ae ce :: Own 63 4 (ch4 x.chs) ac cc :: L) w := hS
              refine WL.r 2 rfl ?_
              refine WL.st rfl rfl rfl 2 hS rfl rfl rfl rfl rfl rfl (fun w hS => ?_)
              replace hS : St g (cel r #[.slice a (List.length (by8 bs)) c, .int .i64 (R1.2.1 : Int), .int .i64 R1.2.2] 88 :: Sh 5 1 (by8 bs) a c :: cel o #[.int .i64 x.code, .int .u64 x.a, .int .u64 x.b, .int .i64 x.key, .int .i64 x.val, .int .i64 R1.1, .int .i64 x.hi, .int .i64 x.n, .bool x.flag, .string x.name, .slice ab (List.length (by8 x.bytes)) cb, .slice ae (List.length (en2 x.ents)) ce, .slice ac (List.length (ch4 x.chs)) cc] 27 :: Own 5 1 (by8 x.bytes) ab cb :: Own 40 2 (en2 x.ents) ae ce :: Own 63 4 (ch4 x.chs) ac cc :: L) w := hS
              refine WL.nil ?_
              refine ⟨[], trivial, ?_⟩
              subst_vars; rw [qField_L]; exact ⟨_, _, _, _, _, _, rfl, hS⟩
            · refine WC.seq ?_
              refine WC.region ?_
              refine WL.r 2 rfl ?_
              refine WL.nil ?_
              refine WC.ifP rfl (fun cd6 => ?_) (fun cd6 => ?_)
              · refine WC.region ?_
                refine WL.r 2 rfl ?_
                refine WL.call rfl rfl (qz_spec (r := r) (c := c) (a := a) (bs := bs) (p := p) (e := e) (hp := (by assumption)) (hl := (by assumption)) (hb := (by assumption)) (hS := hS)) rfl ?_
                generalize hR1 : qZ bs p e = R1
                rintro _ w ⟨rfl, hS⟩
                have hR1f0 : R1.2.1 ≤ (List.length bs) := by rw [← hR1]; exact qZ_le (by assumption)
                replace hS : St g (cel r #[.slice a (List.length (by8 bs)) c, .int .i64 (R1.2.1 : Int), .int .i64 R1.2.2] 88 :: Sh 5 1 (by8 bs) a c :: cel o #[.int .i64 x.code, .int .u64 x.a, .int .u64 x.b, .int .i64 x.key, .int .i64 x.val, .int .i64 x.lo, .int .i64 x.hi, .int .i64 x.n, .bool x.flag, .string x.name, .slice ab (List.length (by8 x.bytes)) cb, .slice ae (List.length (en2 x.ents)) ce, .slice ac (List.length (ch4 x.chs)) cc] 27 :: Own 5 1 (by8 x.bytes) ab cb :: Own 40 2 (en2 x.ents) ae ce :: Own 63 4 (ch4 x.chs) ac cc :: L) w := hS
                refine WL.r 2 rfl ?_
                refine WL.st rfl rfl rfl 2 hS rfl rfl rfl rfl rfl rfl (fun w hS => ?_)
                replace hS : St g (cel r #[.slice a (List.length (by8 bs)) c, .int .i64 (R1.2.1 : Int), .int .i64 R1.2.2] 88 :: Sh 5 1 (by8 bs) a c :: cel o #[.int .i64 x.code, .int .u64 x.a, .int .u64 x.b, .int .i64 x.key, .int .i64 x.val, .int .i64 x.lo, .int .i64 R1.1, .int .i64 x.n, .bool x.flag, .string x.name, .slice ab (List.length (by8 x.bytes)) cb, .slice ae (List.length (en2 x.ents)) ce, .slice ac (List.length (ch4 x.chs)) cc] 27 :: Own 5 1 (by8 x.bytes) ab cb :: Own 40 2 (en2 x.ents) ae ce :: Own 63 4 (ch4 x.chs) ac cc :: L) w := hS
                refine WL.nil ?_
                refine ⟨[], trivial, ?_⟩
                subst_vars; rw [qField_H]; exact ⟨_, _, _, _, _, _, rfl, hS⟩
              · refine WC.seq ?_
                refine WC.region ?_
                refine WL.r 2 rfl ?_
                refine WL.nil ?_
                refine WC.ifP rfl (fun cd7 => ?_) (fun cd7 => ?_)
                · refine WC.region ?_
                  refine WL.r 2 rfl ?_
                  refine WL.call rfl rfl (qu_spec (r := r) (c := c) (a := a) (bs := bs) (p := p) (e := e) (most := 2147483647) (hp := (by assumption)) (hl := (by assumption)) (hb := (by assumption)) (hm := (by omega)) (hS := hS)) rfl ?_
                  generalize hR1 : qU bs 2147483647 p e = R1
                  rintro _ w ⟨rfl, hS⟩
                  have hR1f0 : R1.2.1 ≤ (List.length bs) := by rw [← hR1]; exact qU_le (by assumption)
                  have hR1f1 : (0 ≤ R1.1) ∧ (R1.1 ≤ 2147483647) := by rw [← hR1]; exact qU_b (by assumption) (by omega)
                  replace hS : St g (cel r #[.slice a (List.length (by8 bs)) c, .int .i64 (R1.2.1 : Int), .int .i64 R1.2.2] 88 :: Sh 5 1 (by8 bs) a c :: cel o #[.int .i64 x.code, .int .u64 x.a, .int .u64 x.b, .int .i64 x.key, .int .i64 x.val, .int .i64 x.lo, .int .i64 x.hi, .int .i64 x.n, .bool x.flag, .string x.name, .slice ab (List.length (by8 x.bytes)) cb, .slice ae (List.length (en2 x.ents)) ce, .slice ac (List.length (ch4 x.chs)) cc] 27 :: Own 5 1 (by8 x.bytes) ab cb :: Own 40 2 (en2 x.ents) ae ce :: Own 63 4 (ch4 x.chs) ac cc :: L) w := hS
                  refine WL.r 1 rfl ?_
                  refine WL.nw 54 rfl (w64 (by omega)) ?_
                  refine WL.r 2 rfl ?_
                  refine WL.st rfl rfl rfl 2 hS rfl rfl rfl rfl rfl rfl (fun w hS => ?_)
                  replace hS : St g (cel r #[.slice a (List.length (by8 bs)) c, .int .i64 (R1.2.1 : Int), .int .i64 R1.2.2] 88 :: Sh 5 1 (by8 bs) a c :: cel o #[.int .i64 x.code, .int .u64 x.a, .int .u64 x.b, .int .i64 x.key, .int .i64 x.val, .int .i64 x.lo, .int .i64 x.hi, .int .i64 R1.1, .bool x.flag, .string x.name, .slice ab (List.length (by8 x.bytes)) cb, .slice ae (List.length (en2 x.ents)) ce, .slice ac (List.length (ch4 x.chs)) cc] 27 :: Own 5 1 (by8 x.bytes) ab cb :: Own 40 2 (en2 x.ents) ae ce :: Own 63 4 (ch4 x.chs) ac cc :: L) w := hS
                  refine WL.nil ?_
                  refine ⟨[], trivial, ?_⟩
                  subst_vars; rw [qField_N]; exact ⟨_, _, _, _, _, _, rfl, hS⟩
                · refine WC.seq ?_
                  refine WC.region ?_
                  refine WL.r 2 rfl ?_
                  refine WL.nil ?_
                  refine WC.ifP rfl (fun cd8 => ?_) (fun cd8 => ?_)
                  · refine WC.region ?_
                    refine WL.r 2 rfl ?_
                    refine WL.call rfl rfl (qc_spec (r := r) (c := c) (a := a) (bs := bs) (p := p) (e := e) (most := 1) (hp := (by assumption)) (hl := (by assumption)) (hb := (by assumption)) (hm := (by omega)) (hS := hS)) rfl ?_
                    generalize hR1 : qC bs 1 p e = R1
                    rintro _ w ⟨rfl, hS⟩
                    have hR1f0 : R1.2.1 ≤ (List.length bs) := by rw [← hR1]; exact qC_le (by assumption)
                    have hR1f1 : (0 ≤ R1.1) ∧ (R1.1 ≤ 1) := by rw [← hR1]; exact qC_b (by assumption) (by omega)
                    replace hS : St g (cel r #[.slice a (List.length (by8 bs)) c, .int .i64 (R1.2.1 : Int), .int .i64 R1.2.2] 88 :: Sh 5 1 (by8 bs) a c :: cel o #[.int .i64 x.code, .int .u64 x.a, .int .u64 x.b, .int .i64 x.key, .int .i64 x.val, .int .i64 x.lo, .int .i64 x.hi, .int .i64 x.n, .bool x.flag, .string x.name, .slice ab (List.length (by8 x.bytes)) cb, .slice ae (List.length (en2 x.ents)) ce, .slice ac (List.length (ch4 x.chs)) cc] 27 :: Own 5 1 (by8 x.bytes) ab cb :: Own 40 2 (en2 x.ents) ae ce :: Own 63 4 (ch4 x.chs) ac cc :: L) w := hS
                    refine WL.r 3 rfl ?_
                    refine WL.st rfl rfl rfl 2 hS rfl rfl rfl rfl rfl rfl (fun w hS => ?_)
                    replace hS : St g (cel r #[.slice a (List.length (by8 bs)) c, .int .i64 (R1.2.1 : Int), .int .i64 R1.2.2] 88 :: Sh 5 1 (by8 bs) a c :: cel o #[.int .i64 x.code, .int .u64 x.a, .int .u64 x.b, .int .i64 x.key, .int .i64 x.val, .int .i64 x.lo, .int .i64 x.hi, .int .i64 x.n, .bool (decide (R1.1 = 1)), .string x.name, .slice ab (List.length (by8 x.bytes)) cb, .slice ae (List.length (en2 x.ents)) ce, .slice ac (List.length (ch4 x.chs)) cc] 27 :: Own 5 1 (by8 x.bytes) ab cb :: Own 40 2 (en2 x.ents) ae ce :: Own 63 4 (ch4 x.chs) ac cc :: L) w := hS
                    refine WL.nil ?_
                    refine ⟨[], trivial, ?_⟩
                    subst_vars; rw [qField_F]; exact ⟨_, _, _, _, _, _, rfl, hS⟩
                  · refine WC.seq ?_
                    refine WC.region ?_
                    refine WL.r 2 rfl ?_
                    refine WL.nil ?_
                    as_aux_lemma =>
                      refine WC.ifP rfl (fun cd9 => ?_) (fun cd9 => ?_)
                      · refine WC.region ?_
                        refine WL.r 2 rfl ?_
                        refine WL.call rfl rfl (qtext_spec (r := r) (c := c) (a := a) (bs := bs) (p := p) (e := e) (most := 32) (hp := (by assumption)) (hl := (by assumption)) (hb := (by assumption)) (hm := (by omega)) (hS := hS)) rfl ?_
                        generalize hR1 : qText bs 32 p e = R1
                        rintro _ w ⟨a1, c1, rfl, hS⟩
                        have hR1f0 : R1.2.1 ≤ (List.length bs) := by rw [← hR1]; exact qText_le (by assumption) (by omega) (by assumption)
                        have hR1f1 : B8 R1.1 := by rw [← hR1]; exact qText_B8 (by assumption)
                        replace hS : St g (cel r #[.slice a (List.length (by8 bs)) c, .int .i64 (R1.2.1 : Int), .int .i64 R1.2.2] 88 :: Sh 5 1 (by8 bs) a c :: Own 5 1 (by8 R1.1) a1 c1 :: cel o #[.int .i64 x.code, .int .u64 x.a, .int .u64 x.b, .int .i64 x.key, .int .i64 x.val, .int .i64 x.lo, .int .i64 x.hi, .int .i64 x.n, .bool x.flag, .string x.name, .slice ab (List.length (by8 x.bytes)) cb, .slice ae (List.length (en2 x.ents)) ce, .slice ac (List.length (ch4 x.chs)) cc] 27 :: Own 5 1 (by8 x.bytes) ab cb :: Own 40 2 (en2 x.ents) ae ce :: Own 63 4 (ch4 x.chs) ac cc :: L) w := hS
                        refine WL.reb 69 (.slice a1 R1.1.length c1) (congrArg (fun m => Value.slice a1 m c1) (by8_len R1.1)) ?_
                        refine WL.toS rfl rfl Try.underlying23 Try.underlying9 Try.underlying5 (hS.srcO 2 rfl) (by assumption) rfl ?_
                        refine WL.r 2 rfl ?_
                        refine WL.st rfl rfl rfl 3 hS rfl rfl rfl rfl rfl rfl (fun w hS => ?_)
                        replace hS : St g (cel r #[.slice a (List.length (by8 bs)) c, .int .i64 (R1.2.1 : Int), .int .i64 R1.2.2] 88 :: Sh 5 1 (by8 bs) a c :: Own 5 1 (by8 R1.1) a1 c1 :: cel o #[.int .i64 x.code, .int .u64 x.a, .int .u64 x.b, .int .i64 x.key, .int .i64 x.val, .int .i64 x.lo, .int .i64 x.hi, .int .i64 x.n, .bool x.flag, .string (mkS R1.1), .slice ab (List.length (by8 x.bytes)) cb, .slice ae (List.length (en2 x.ents)) ce, .slice ac (List.length (ch4 x.chs)) cc] 27 :: Own 5 1 (by8 x.bytes) ab cb :: Own 40 2 (en2 x.ents) ae ce :: Own 63 4 (ch4 x.chs) ac cc :: L) w := hS
                        refine WL.nil ?_
                        refine ⟨[], trivial, ?_⟩
                        replace hS := (hS.sel 7 [0, 0, 1, 1, 1, 1] rfl)
                        subst_vars; rw [qField_S]; exact ⟨_, _, _, _, _, _, rfl, hS⟩
                      · refine WC.seq ?_
                        refine WC.region ?_
                        refine WL.r 2 rfl ?_
                        refine WL.nil ?_
                        refine WC.ifP rfl (fun cd10 => ?_) (fun cd10 => ?_)
                        · refine WC.region ?_
                          refine WL.r 2 rfl ?_
                          refine WL.call rfl rfl (qtext_spec (r := r) (c := c) (a := a) (bs := bs) (p := p) (e := e) (most := 65536) (hp := (by assumption)) (hl := (by assumption)) (hb := (by assumption)) (hm := (by omega)) (hS := hS)) rfl ?_
                          generalize hR1 : qText bs 65536 p e = R1
                          rintro _ w ⟨a1, c1, rfl, hS⟩
                          have hR1f0 : R1.2.1 ≤ (List.length bs) := by rw [← hR1]; exact qText_le (by assumption) (by omega) (by assumption)
                          have hR1f1 : B8 R1.1 := by rw [← hR1]; exact qText_B8 (by assumption)
                          replace hS : St g (cel r #[.slice a (List.length (by8 bs)) c, .int .i64 (R1.2.1 : Int), .int .i64 R1.2.2] 88 :: Sh 5 1 (by8 bs) a c :: Own 5 1 (by8 R1.1) a1 c1 :: cel o #[.int .i64 x.code, .int .u64 x.a, .int .u64 x.b, .int .i64 x.key, .int .i64 x.val, .int .i64 x.lo, .int .i64 x.hi, .int .i64 x.n, .bool x.flag, .string x.name, .slice ab (List.length (by8 x.bytes)) cb, .slice ae (List.length (en2 x.ents)) ce, .slice ac (List.length (ch4 x.chs)) cc] 27 :: Own 5 1 (by8 x.bytes) ab cb :: Own 40 2 (en2 x.ents) ae ce :: Own 63 4 (ch4 x.chs) ac cc :: L) w := hS
                          refine WL.r 2 rfl ?_
                          refine WL.st rfl rfl rfl 3 hS rfl rfl rfl rfl rfl rfl (fun w hS => ?_)
                          replace hS : St g (cel r #[.slice a (List.length (by8 bs)) c, .int .i64 (R1.2.1 : Int), .int .i64 R1.2.2] 88 :: Sh 5 1 (by8 bs) a c :: Own 5 1 (by8 R1.1) a1 c1 :: cel o #[.int .i64 x.code, .int .u64 x.a, .int .u64 x.b, .int .i64 x.key, .int .i64 x.val, .int .i64 x.lo, .int .i64 x.hi, .int .i64 x.n, .bool x.flag, .string x.name, .slice a1 (List.length (by8 R1.1)) c1, .slice ae (List.length (en2 x.ents)) ce, .slice ac (List.length (ch4 x.chs)) cc] 27 :: Own 5 1 (by8 x.bytes) ab cb :: Own 40 2 (en2 x.ents) ae ce :: Own 63 4 (ch4 x.chs) ac cc :: L) w := hS
                          refine WL.nil ?_
                          refine ⟨[], trivial, ?_⟩
                          replace hS := (hS.sel 7 [0, 0, 1, 0, 1, 1] rfl)
                          subst_vars; rw [qField_Y]; exact ⟨_, _, _, _, _, _, rfl, hS⟩
                        · refine WC.seq ?_
                          refine WC.region ?_
                          refine WL.r 2 rfl ?_
                          refine WL.nil ?_
                          refine WC.ifP rfl (fun cd11 => ?_) (fun cd11 => ?_)
                          · refine WC.region ?_
                            refine WL.r 3 rfl ?_
                            refine WL.call rfl rfl (qsize_spec (r := r) (c := c) (a := a) (bs := bs) (p := p) (e := e) (most := 1000) (hp := (by assumption)) (hl := (by assumption)) (hb := (by assumption)) (hm := (by omega)) (hS := hS)) rfl ?_
                            generalize hR1 : qSize bs 1000 p e = R1
                            rintro _ w ⟨rfl, hS⟩
                            have hR1f0 : R1.2.1 ≤ (List.length bs) := by rw [← hR1]; exact qSize_le (by assumption)
                            have hR1f1 : (0 ≤ R1.1) ∧ (R1.1 ≤ 1000) ∧ (R1.1 + (R1.2.1 : Int) ≤ (List.length bs)) := by rw [← hR1]; exact qSize_b (by assumption) (by omega) (by assumption)
                            replace hS : St g (cel r #[.slice a (List.length (by8 bs)) c, .int .i64 (R1.2.1 : Int), .int .i64 R1.2.2] 88 :: Sh 5 1 (by8 bs) a c :: cel o #[.int .i64 x.code, .int .u64 x.a, .int .u64 x.b, .int .i64 x.key, .int .i64 x.val, .int .i64 x.lo, .int .i64 x.hi, .int .i64 x.n, .bool x.flag, .string x.name, .slice ab (List.length (by8 x.bytes)) cb, .slice ae (List.length (en2 x.ents)) ce, .slice ac (List.length (ch4 x.chs)) cc] 27 :: Own 5 1 (by8 x.bytes) ab cb :: Own 40 2 (en2 x.ents) ae ce :: Own 63 4 (ch4 x.chs) ac cc :: L) w := hS
                            refine WL.call rfl rfl (qentries_spec (r := r) (c := c) (a := a) (bs := bs) (p := R1.2.1) (e := R1.2.2) (n := R1.1) (hp := (by assumption)) (hl := (by assumption)) (hb := (by assumption)) (hn := (by omega)) (hS := hS)) rfl ?_
                            generalize hR2 : qEnts bs R1.1.toNat R1.2.1 R1.2.2 = R2
                            rintro _ w ⟨a1, c1, rfl, hS⟩
                            have hR2f0 : R2.2.1 ≤ (List.length bs) := by rw [← hR2]; exact qEnts_le (by assumption)
                            have hR2f1 : (List.length R2.1) ≤ R1.1.toNat := by rw [← hR2]; exact (qEnts_p _ _ _ (by assumption)).2
                            replace hS : St g (cel r #[.slice a (List.length (by8 bs)) c, .int .i64 (R2.2.1 : Int), .int .i64 R2.2.2] 88 :: Sh 5 1 (by8 bs) a c :: Own 40 2 (en2 R2.1) a1 c1 :: cel o #[.int .i64 x.code, .int .u64 x.a, .int .u64 x.b, .int .i64 x.key, .int .i64 x.val, .int .i64 x.lo, .int .i64 x.hi, .int .i64 x.n, .bool x.flag, .string x.name, .slice ab (List.length (by8 x.bytes)) cb, .slice ae (List.length (en2 x.ents)) ce, .slice ac (List.length (ch4 x.chs)) cc] 27 :: Own 5 1 (by8 x.bytes) ab cb :: Own 40 2 (en2 x.ents) ae ce :: Own 63 4 (ch4 x.chs) ac cc :: L) w := hS
                            refine WL.r 2 rfl ?_
                            refine WL.st rfl rfl rfl 3 hS rfl rfl rfl rfl rfl rfl (fun w hS => ?_)
                            replace hS : St g (cel r #[.slice a (List.length (by8 bs)) c, .int .i64 (R2.2.1 : Int), .int .i64 R2.2.2] 88 :: Sh 5 1 (by8 bs) a c :: Own 40 2 (en2 R2.1) a1 c1 :: cel o #[.int .i64 x.code, .int .u64 x.a, .int .u64 x.b, .int .i64 x.key, .int .i64 x.val, .int .i64 x.lo, .int .i64 x.hi, .int .i64 x.n, .bool x.flag, .string x.name, .slice ab (List.length (by8 x.bytes)) cb, .slice a1 (List.length (en2 R2.1)) c1, .slice ac (List.length (ch4 x.chs)) cc] 27 :: Own 5 1 (by8 x.bytes) ab cb :: Own 40 2 (en2 x.ents) ae ce :: Own 63 4 (ch4 x.chs) ac cc :: L) w := hS
                            refine WL.nil ?_
                            refine ⟨[], trivial, ?_⟩
                            replace hS := (hS.sel 7 [0, 0, 1, 1, 0, 1] rfl)
                            subst_vars; rw [qField_E]; exact ⟨_, _, _, _, _, _, rfl, hS⟩
                          · refine WC.seq ?_
                            refine WC.region ?_
                            refine WL.r 2 rfl ?_
                            refine WL.nil ?_
                            refine WC.ifP rfl (fun cd12 => ?_) (fun cd12 => ?_)
                            · refine WC.region ?_
                              refine WL.r 3 rfl ?_
                              refine WL.call rfl rfl (qsize_spec (r := r) (c := c) (a := a) (bs := bs) (p := p) (e := e) (most := 1000) (hp := (by assumption)) (hl := (by assumption)) (hb := (by assumption)) (hm := (by omega)) (hS := hS)) rfl ?_
                              generalize hR1 : qSize bs 1000 p e = R1
                              rintro _ w ⟨rfl, hS⟩
                              have hR1f0 : R1.2.1 ≤ (List.length bs) := by rw [← hR1]; exact qSize_le (by assumption)
                              have hR1f1 : (0 ≤ R1.1) ∧ (R1.1 ≤ 1000) ∧ (R1.1 + (R1.2.1 : Int) ≤ (List.length bs)) := by rw [← hR1]; exact qSize_b (by assumption) (by omega) (by assumption)
                              replace hS : St g (cel r #[.slice a (List.length (by8 bs)) c, .int .i64 (R1.2.1 : Int), .int .i64 R1.2.2] 88 :: Sh 5 1 (by8 bs) a c :: cel o #[.int .i64 x.code, .int .u64 x.a, .int .u64 x.b, .int .i64 x.key, .int .i64 x.val, .int .i64 x.lo, .int .i64 x.hi, .int .i64 x.n, .bool x.flag, .string x.name, .slice ab (List.length (by8 x.bytes)) cb, .slice ae (List.length (en2 x.ents)) ce, .slice ac (List.length (ch4 x.chs)) cc] 27 :: Own 5 1 (by8 x.bytes) ab cb :: Own 40 2 (en2 x.ents) ae ce :: Own 63 4 (ch4 x.chs) ac cc :: L) w := hS
                              refine WL.call rfl rfl (qchanges_spec (r := r) (c := c) (a := a) (bs := bs) (p := R1.2.1) (e := R1.2.2) (n := R1.1) (hp := (by assumption)) (hl := (by assumption)) (hb := (by assumption)) (hn := (by omega)) (hS := hS)) rfl ?_
                              generalize hR2 : qChs bs R1.1.toNat R1.2.1 R1.2.2 = R2
                              rintro _ w ⟨a1, c1, rfl, hS⟩
                              have hR2f0 : R2.2.1 ≤ (List.length bs) := by rw [← hR2]; exact qChs_le (by assumption)
                              have hR2f1 : (List.length R2.1) ≤ R1.1.toNat := by rw [← hR2]; exact (qChs_p _ _ _ (by assumption)).2
                              replace hS : St g (cel r #[.slice a (List.length (by8 bs)) c, .int .i64 (R2.2.1 : Int), .int .i64 R2.2.2] 88 :: Sh 5 1 (by8 bs) a c :: Own 63 4 (ch4 R2.1) a1 c1 :: cel o #[.int .i64 x.code, .int .u64 x.a, .int .u64 x.b, .int .i64 x.key, .int .i64 x.val, .int .i64 x.lo, .int .i64 x.hi, .int .i64 x.n, .bool x.flag, .string x.name, .slice ab (List.length (by8 x.bytes)) cb, .slice ae (List.length (en2 x.ents)) ce, .slice ac (List.length (ch4 x.chs)) cc] 27 :: Own 5 1 (by8 x.bytes) ab cb :: Own 40 2 (en2 x.ents) ae ce :: Own 63 4 (ch4 x.chs) ac cc :: L) w := hS
                              refine WL.r 2 rfl ?_
                              refine WL.st rfl rfl rfl 3 hS rfl rfl rfl rfl rfl rfl (fun w hS => ?_)
                              replace hS : St g (cel r #[.slice a (List.length (by8 bs)) c, .int .i64 (R2.2.1 : Int), .int .i64 R2.2.2] 88 :: Sh 5 1 (by8 bs) a c :: Own 63 4 (ch4 R2.1) a1 c1 :: cel o #[.int .i64 x.code, .int .u64 x.a, .int .u64 x.b, .int .i64 x.key, .int .i64 x.val, .int .i64 x.lo, .int .i64 x.hi, .int .i64 x.n, .bool x.flag, .string x.name, .slice ab (List.length (by8 x.bytes)) cb, .slice ae (List.length (en2 x.ents)) ce, .slice a1 (List.length (ch4 R2.1)) c1] 27 :: Own 5 1 (by8 x.bytes) ab cb :: Own 40 2 (en2 x.ents) ae ce :: Own 63 4 (ch4 x.chs) ac cc :: L) w := hS
                              refine WL.nil ?_
                              refine ⟨[], trivial, ?_⟩
                              replace hS := (hS.sel 7 [0, 0, 1, 1, 1, 0] rfl)
                              subst_vars; rw [qField_C]; exact ⟨_, _, _, _, _, _, rfl, hS⟩
                            · refine WC.skip ?_
                              refine ⟨[], trivial, ?_⟩
                              rw [qField_no (by unfold Ltr32; omega)]; exact ⟨_, _, _, _, _, _, rfl, hS⟩

theorem qnext_spec {g w : World} {L : List HP} (a : Option Addr) (c : Nat) (bs : List Int) (p : Int) (hl : bs.length ≤ 100000) (hb : B8 bs) (hS : St g (Sh 5 1 (by8 bs) a c :: L) w) :
    Sp Try.prog 26 [.slice a (List.length (by8 bs)) c, .int .i64 p] w (fun v w' => ∃ (ab ae ac : Option Addr) (cb ce cc : Nat), v = .tuple #[.agg #[.int .i64 (qNx bs p).1.code, .int .u64 (qNx bs p).1.a, .int .u64 (qNx bs p).1.b, .int .i64 (qNx bs p).1.key, .int .i64 (qNx bs p).1.val, .int .i64 (qNx bs p).1.lo, .int .i64 (qNx bs p).1.hi, .int .i64 (qNx bs p).1.n, .bool (qNx bs p).1.flag, .string (qNx bs p).1.name, .slice ab (List.length (by8 (qNx bs p).1.bytes)) cb, .slice ae (List.length (en2 (qNx bs p).1.ents)) ce, .slice ac (List.length (ch4 (qNx bs p).1.chs)) cc], .int .i64 (qNx bs p).2.1, .int .i64 (qNx bs p).2.2] ∧ St g (Sh 5 1 (by8 bs) a c :: Own 5 1 (by8 (qNx bs p).1.bytes) ab cb :: Own 40 2 (en2 (qNx bs p).1.ents) ae ce :: Own 63 4 (ch4 (qNx bs p).1.chs) ac cc :: L) w') := by
  refine Sp.enter Try.func26 rfl (by kernel_rfl) (by kernel_rfl) ?_
  have _ := hb
  have _ := hl
  refine WC.seq ?_
  refine WC.region ?_
  refine WL.new rfl rfl zv_27 hS (fun b1 w hS => ?_)
  refine WL.r 2 rfl ?_
  refine WL.nil ?_
  refine WC.seq ?_
  refine WC.seq ?_
  refine WC.region ?_
  have hl8 := by8_len bs
  refine WL.r 2 rfl ?_
  refine WL.rG 6 rfl (fun j => ?_)
  refine WL.prop 19 rfl (bor (dd _) (dd _)) ?_
  refine WL.nil ?_
  refine WC.ifP rfl (fun cd1 => ?_) (fun cd1 => ?_)
  · refine WC.seq ?_
    refine WC.region ?_
    refine WL.build rfl rfl (cs := [.int .i64 0, .int .u64 0, .int .u64 0, .int .i64 0, .int .i64 0, .int .i64 0, .int .i64 0, .int .i64 0, .bool false, .string ⟨#[]⟩, .slice none 0 0, .slice none 0 0, .slice none 0 0]) zv_27 rfl rfl ?_
    refine WL.stF rfl rfl rfl 0 hS rfl rfl rfl rfl rfl ag_27 (fun w hS => ?_)
    replace hS : St g (cel b1 #[.int .i64 0, .int .u64 0, .int .u64 0, .int .i64 0, .int .i64 0, .int .i64 0, .int .i64 0, .int .i64 0, .bool false, .string ⟨#[]⟩, .slice none 0 0, .slice none 0 0, .slice none 0 0] 27 :: Sh 5 1 (by8 bs) a c :: L) w := hS
    refine WL.r 2 rfl ?_
    refine WL.nil ?_
    refine WC.ret ?_
    refine ⟨[.agg #[.int .i64 0, .int .u64 0, .int .u64 0, .int .i64 0, .int .i64 0, .int .i64 0, .int .i64 0, .int .i64 0, .bool false, .string ⟨#[]⟩, .slice none 0 0, .slice none 0 0, .slice none 0 0], .int .i64 0, .int .i64 1], ⟨⟨_, rfl, hS.lvF 0 rfl ag_27⟩, rfl, rfl⟩, ?_⟩
    replace hS := hS.nil_ 5 1
    replace hS := hS.nil_ 40 2
    replace hS := hS.nil_ 63 4
    replace hS := (hS.sel 5 [4, 2, 1, 0] rfl)
    rw [by8_len] at cd1; rw [qNx, if_pos cd1]; exact ⟨_, _, _, _, _, _, rfl, hS⟩
  · refine WC.skip ?_
    refine WC.seq ?_
    refine WC.region ?_
    obtain ⟨q0, rfl⟩ : ∃ q : Nat, p = q := ⟨p.toNat, by omega⟩; have hl8 := by8_len bs; have hp : q0 ≤ bs.length := by omega
    refine WL.r 2 rfl ?_
    refine WL.build rfl rfl (cs := [.slice a (List.length (by8 bs)) c, .int .i64 (q0 : Int), .int .i64 0]) zv_88 rfl rfl ?_
    refine WL.box rfl rfl #[.slice a (List.length (by8 bs)) c, .int .i64 (q0 : Int), .int .i64 0] hS rfl rfl (fun b2 w hS => ?_)
    refine WL.r 1 rfl ?_
    refine WL.nil ?_
    refine WC.seq ?_
    refine WC.region ?_
    refine WL.r 1 rfl ?_
    refine WL.call rfl rfl (qc_spec (r := b2) (c := c) (a := a) (bs := bs) (p := q0) (e := 0) (most := 255) (hp := (by assumption)) (hl := (by assumption)) (hb := (by assumption)) (hm := (by omega)) (hS := (hS.sel 3 [0, 1, 0] rfl))) rfl ?_
    generalize hR1 : qC bs 255 q0 0 = R1
    rintro _ w ⟨rfl, hS⟩
    have hR1f0 : R1.2.1 ≤ (List.length bs) := by rw [← hR1]; exact qC_le (by assumption)
    have hR1f1 : (0 ≤ R1.1) ∧ (R1.1 ≤ 255) := by rw [← hR1]; exact qC_b (by assumption) (by omega)
    replace hS : St g (cel b2 #[.slice a (List.length (by8 bs)) c, .int .i64 (R1.2.1 : Int), .int .i64 R1.2.2] 88 :: Sh 5 1 (by8 bs) a c :: cel b1 #[.int .i64 0, .int .u64 0, .int .u64 0, .int .i64 0, .int .i64 0, .int .i64 0, .int .i64 0, .int .i64 0, .bool false, .string ⟨#[]⟩, .slice none 0 0, .slice none 0 0, .slice none 0 0] 27 :: L) w := hS
    refine WL.r 1 rfl ?_
    refine WL.nw 27 rfl (w64 (by omega)) ?_
    refine WL.build rfl rfl (cs := [.int .i64 R1.1, .int .u64 0, .int .u64 0, .int .i64 0, .int .i64 0, .int .i64 0, .int .i64 0, .int .i64 0, .bool false, .string ⟨#[]⟩, .slice none 0 0, .slice none 0 0, .slice none 0 0]) zv_27 rfl rfl ?_
    refine WL.new rfl rfl zv_27 hS (fun b3 w hS => ?_)
    refine WL.stF rfl rfl rfl 0 hS rfl rfl rfl rfl rfl ag_27 (fun w hS => ?_)
    replace hS : St g (cel b3 #[.int .i64 R1.1, .int .u64 0, .int .u64 0, .int .i64 0, .int .i64 0, .int .i64 0, .int .i64 0, .int .i64 0, .bool false, .string ⟨#[]⟩, .slice none 0 0, .slice none 0 0, .slice none 0 0] 27 :: cel b2 #[.slice a (List.length (by8 bs)) c, .int .i64 (R1.2.1 : Int), .int .i64 R1.2.2] 88 :: Sh 5 1 (by8 bs) a c :: cel b1 #[.int .i64 0, .int .u64 0, .int .u64 0, .int .i64 0, .int .i64 0, .int .i64 0, .int .i64 0, .int .i64 0, .bool false, .string ⟨#[]⟩, .slice none 0 0, .slice none 0 0, .slice none 0 0] 27 :: L) w := hS
    refine WL.nil ?_
    as_aux_lemma =>
      refine WC.seq ?_
      refine WC.region ?_
      have hsz := ltr_size R1.1; have h6 := fs_len R1.1
      refine WL.run 2 [.int .i64 R1.1] rfl (by exact hS.ld 0 rfl rfl) ?_
      refine WL.call rfl rfl (Fields_spec (c := R1.1)  (hS := hS)) rfl ?_
      rintro _ w ⟨rfl, hS⟩
      replace hS : St g (cel b3 #[.int .i64 R1.1, .int .u64 0, .int .u64 0, .int .i64 0, .int .i64 0, .int .i64 0, .int .i64 0, .int .i64 0, .bool false, .string ⟨#[]⟩, .slice none 0 0, .slice none 0 0, .slice none 0 0] 27 :: cel b2 #[.slice a (List.length (by8 bs)) c, .int .i64 (R1.2.1 : Int), .int .i64 R1.2.2] 88 :: Sh 5 1 (by8 bs) a c :: cel b1 #[.int .i64 0, .int .u64 0, .int .u64 0, .int .i64 0, .int .i64 0, .int .i64 0, .int .i64 0, .int .i64 0, .bool false, .string ⟨#[]⟩, .slice none 0 0, .slice none 0 0, .slice none 0 0] 27 :: L) w := hS
      refine WL.r 5 rfl ?_
      refine WL.nil ?_
      refine WC.seq ?_
      refine WC.seq ?_
      refine WC.region ?_
      refine WL.run 5 [.int .i64 R1.2.2] rfl (by exact hS.ld 1 rfl rfl) ?_
      refine WL.rG 4 rfl (fun j => ?_)
      refine WL.prop 43 rfl (band (dd _) (bnot (dv _))) ?_
      refine WL.nil ?_
      refine WC.cut [4, 5, 6, 7, 8, 9] (fun vs w => ∃ (e2 : Int), vs = [.pointer (some ⟨b1, 0, none⟩), .int .i64 0, .int .i64 0, .pointer (some ⟨b2, 0, none⟩), .pointer (some ⟨b3, 0, none⟩), .string (mkS ((fs R1.1).map (· + 32)))] ∧ St g (cel b3 #[.int .i64 R1.1, .int .u64 0, .int .u64 0, .int .i64 0, .int .i64 0, .int .i64 0, .int .i64 0, .int .i64 0, .bool false, .string ⟨#[]⟩, .slice none 0 0, .slice none 0 0, .slice none 0 0] 27 :: cel b2 #[.slice a (List.length (by8 bs)) c, .int .i64 (R1.2.1 : Int), .int .i64 e2] 88 :: Sh 5 1 (by8 bs) a c :: cel b1 #[.int .i64 0, .int .u64 0, .int .u64 0, .int .i64 0, .int .i64 0, .int .i64 0, .int .i64 0, .int .i64 0, .bool false, .string ⟨#[]⟩, .slice none 0 0, .slice none 0 0, .slice none 0 0] 27 :: L) w ∧ (e2 = if R1.2.2 = 0 ∧ ¬ isOp R1.1 = true then 13 else R1.2.2)) ?_ ?_
      · refine WC.ifP rfl (fun cd2 => ?_) (fun cd2 => ?_)
        · refine WC.region ?_
          refine WL.r 3 rfl ?_
          refine WL.st rfl rfl rfl 1 hS rfl rfl rfl rfl rfl rfl (fun w hS => ?_)
          replace hS : St g (cel b3 #[.int .i64 R1.1, .int .u64 0, .int .u64 0, .int .i64 0, .int .i64 0, .int .i64 0, .int .i64 0, .int .i64 0, .bool false, .string ⟨#[]⟩, .slice none 0 0, .slice none 0 0, .slice none 0 0] 27 :: cel b2 #[.slice a (List.length (by8 bs)) c, .int .i64 (R1.2.1 : Int), .int .i64 13] 88 :: Sh 5 1 (by8 bs) a c :: cel b1 #[.int .i64 0, .int .u64 0, .int .u64 0, .int .i64 0, .int .i64 0, .int .i64 0, .int .i64 0, .int .i64 0, .bool false, .string ⟨#[]⟩, .slice none 0 0, .slice none 0 0, .slice none 0 0] 27 :: L) w := hS
          refine WL.nil ?_
          exact ⟨13, rfl, hS, (by rw [if_pos (by simpa using cd2)])⟩
        · refine WC.skip ?_
          exact ⟨R1.2.2, rfl, hS, (by rw [if_neg (by simpa using cd2)])⟩
      clear hS; rintro _ w j ⟨e2, rfl, hS, he2⟩
      refine WC.seq ?_
      refine WC.seq ?_
      refine WC.region ?_
      refine WL.r 1 rfl ?_
      refine WL.nil ?_
      refine WC.block ?_
      replace hS := hS.nil_ 63 4
      replace hS := hS.nil_ 40 2
      replace hS := hS.nil_ 5 1
      refine WC.loop [4, 5, 6, 7, 8, 9, 11] (fun kM vs w => ∃ (k : Nat) (x : OpM) (q : Nat) (e : Int) (ab ae ac : Option Addr) (cb ce cc : Nat), vs = [.pointer (some ⟨b1, 0, none⟩), .int .i64 0, .int .i64 0, .pointer (some ⟨b2, 0, none⟩), .pointer (some ⟨b3, 0, none⟩), .string (mkS ((fs R1.1).map (· + 32))), .int .i64 (k : Int)] ∧ St g (Own 5 1 (by8 x.bytes) ab cb :: Own 40 2 (en2 x.ents) ae ce :: Own 63 4 (ch4 x.chs) ac cc :: cel b3 #[.int .i64 x.code, .int .u64 x.a, .int .u64 x.b, .int .i64 x.key, .int .i64 x.val, .int .i64 x.lo, .int .i64 x.hi, .int .i64 x.n, .bool x.flag, .string x.name, .slice ab (List.length (by8 x.bytes)) cb, .slice ae (List.length (en2 x.ents)) ce, .slice ac (List.length (ch4 x.chs)) cc] 27 :: cel b2 #[.slice a (List.length (by8 bs)) c, .int .i64 (q : Int), .int .i64 e] 88 :: Sh 5 1 (by8 bs) a c :: cel b1 #[.int .i64 0, .int .u64 0, .int .u64 0, .int .i64 0, .int .i64 0, .int .i64 0, .int .i64 0, .int .i64 0, .bool false, .string ⟨#[]⟩, .slice none 0 0, .slice none 0 0, .slice none 0 0] 27 :: L) w ∧ (k ≤ (fs R1.1).length) ∧ (q ≤ bs.length) ∧ (qFields bs (fs R1.1) (op0 R1.1) R1.2.1 e2 = qFields bs ((fs R1.1).drop k) x q e) ∧ ((fs R1.1).length - k) = kM) ((List.length (fs R1.1)) - 0) ⟨0, op0 R1.1, R1.2.1, _, none, none, none, 0, 0, 0, rfl, hS, (Nat.zero_le _), (by assumption), (rfl), rfl⟩ ?_
      clear hS; rintro _ _ w j ⟨k, x, q, e, ab, ae, ac, cb, ce, cc, rfl, hS, hk, hq, hr, rfl⟩
      refine WC.seq ?_
      refine WC.seq ?_
      refine WC.region ?_
      refine WL.r 4 rfl ?_
      refine WL.runG 7 [.int .i64 e] rfl (by exact (fun _ => hS.ld 4 rfl rfl)) (fun j => ?_)
      refine WL.prop 57 rfl (band (dd _) (dd _)) ?_
      refine WL.nil ?_
      as_aux_lemma =>
        refine WC.ifP rfl (fun cd2 => ?_) (fun cd2 => ?_)
        · refine WC.skip ?_
          refine WC.seq ?_
          refine WC.block ?_
          refine WC.region ?_
          refine WL.r 3 rfl ?_
          refine WL.ixs rfl rfl (v := (k : Int)) (k) rfl rfl rfl (by omega) (ltr_at (by omega)) ?_
          refine WL.call rfl rfl (qfield_spec (r := b2) (c := c) (a := a) (bs := bs) (p := q) (e := e) (o := b3) (x := x) (f := (fs R1.1).getD k 0 + 32) (ab := ab) (ae := ae) (ac := ac) (cb := cb) (ce := ce) (cc := cc) (hp := (by assumption)) (hl := (by assumption)) (hb := (by assumption)) (hS := (hS.sel 7 [4, 4, 3, 0, 0, 0, 0] rfl))) rfl ?_
          generalize hR2 : qField bs ((fs R1.1).getD k 0 + 32) x q e = R2
          rintro _ w ⟨ab1, ae1, ac1, cb1, ce1, cc1, rfl, hS⟩
          have hR2f0 : R2.2.1 ≤ (List.length bs) := by rw [← hR2]; exact qField_le (by assumption) (by assumption)
          replace hS : St g (cel b2 #[.slice a (List.length (by8 bs)) c, .int .i64 (R2.2.1 : Int), .int .i64 R2.2.2] 88 :: Sh 5 1 (by8 bs) a c :: cel b3 #[.int .i64 R2.1.code, .int .u64 R2.1.a, .int .u64 R2.1.b, .int .i64 R2.1.key, .int .i64 R2.1.val, .int .i64 R2.1.lo, .int .i64 R2.1.hi, .int .i64 R2.1.n, .bool R2.1.flag, .string R2.1.name, .slice ab1 (List.length (by8 R2.1.bytes)) cb1, .slice ae1 (List.length (en2 R2.1.ents)) ce1, .slice ac1 (List.length (ch4 R2.1.chs)) cc1] 27 :: Own 5 1 (by8 R2.1.bytes) ab1 cb1 :: Own 40 2 (en2 R2.1.ents) ae1 ce1 :: Own 63 4 (ch4 R2.1.chs) ac1 cc1 :: cel b1 #[.int .i64 0, .int .u64 0, .int .u64 0, .int .i64 0, .int .i64 0, .int .i64 0, .int .i64 0, .int .i64 0, .bool false, .string ⟨#[]⟩, .slice none 0 0, .slice none 0 0, .slice none 0 0] 27 :: L) w := hS
          refine WL.nil ?_
          refine WC.region ?_
          refine WL.r 2 rfl ?_
          refine WL.nw 59 rfl (w64 (by omega)) ?_
          refine WL.r 1 rfl ?_
          refine WL.nil ?_
          exact ⟨_, by omega, k + 1, _, _, _, _, _, _, _, _, _, rfl, (hS.sel 7 [3, 3, 3, 2, 0, 0, 0] rfl), (by omega), (by assumption), (by subst_vars; rw [hr, qFields_go (by omega)]), rfl⟩
        · refine WC.exit ?_
          refine WC.seq ?_
          refine WC.seq ?_
          refine WC.region ?_
          refine WL.run 5 [.int .i64 e] rfl (by exact hS.ld 4 rfl rfl) ?_
          refine WL.nil ?_
          refine WC.ifP rfl (fun cd3 => ?_) (fun cd3 => ?_)
          · refine WC.seq ?_
            refine WC.plan [([1, 2, 3, 4], some (0, [1, 2, 3, 4])), ([], some (5, [1, 2, 3, 4])), ([6, 7], none)] (by kernel_rfl) (by kernel_rfl) ?_
            refine WQ.run 4 [.int .i64 e] rfl (by exact hS.ld 4 rfl rfl) ?_
            refine WQ.nil ?_
            intro m1
            replace hS := hS.drewN m1; generalize hwm1 : World.drewN _ _ = w at *; clear hwm1
            refine WL.build rfl rfl (cs := [.int .i64 0, .int .u64 0, .int .u64 0, .int .i64 0, .int .i64 0, .int .i64 0, .int .i64 0, .int .i64 0, .bool false, .string ⟨#[]⟩, .slice none 0 0, .slice none 0 0, .slice none 0 0]) zv_27 rfl rfl ?_
            refine WL.nil ?_
            refine ⟨by exact ⟨RQ.pure rfl rfl rfl rfl, RQ.pure rfl rfl rfl rfl, RQ.pure rfl rfl rfl rfl, RQ.load rfl rfl rfl rfl (hS.ld 4 rfl rfl)⟩, ?_⟩
            refine WQ.nil ?_
            intro m2
            replace hS := hS.drewN m2; generalize hwm2 : World.drewN _ _ = w at *; clear hwm2
            refine WL.stF rfl rfl rfl 6 hS rfl rfl rfl rfl rfl ag_27 (fun w hS => ?_)
            replace hS : St g (Own 5 1 (by8 x.bytes) ab cb :: Own 40 2 (en2 x.ents) ae ce :: Own 63 4 (ch4 x.chs) ac cc :: cel b3 #[.int .i64 x.code, .int .u64 x.a, .int .u64 x.b, .int .i64 x.key, .int .i64 x.val, .int .i64 x.lo, .int .i64 x.hi, .int .i64 x.n, .bool x.flag, .string x.name, .slice ab (List.length (by8 x.bytes)) cb, .slice ae (List.length (en2 x.ents)) ce, .slice ac (List.length (ch4 x.chs)) cc] 27 :: cel b2 #[.slice a (List.length (by8 bs)) c, .int .i64 (q : Int), .int .i64 e] 88 :: Sh 5 1 (by8 bs) a c :: cel b1 #[.int .i64 0, .int .u64 0, .int .u64 0, .int .i64 0, .int .i64 0, .int .i64 0, .int .i64 0, .int .i64 0, .bool false, .string ⟨#[]⟩, .slice none 0 0, .slice none 0 0, .slice none 0 0] 27 :: L) w := hS
            refine WL.nil ?_
            refine ⟨by exact ⟨RQ.pure rfl rfl rfl rfl, RQ.pure rfl rfl rfl rfl, RQ.pure rfl rfl rfl rfl, RQ.load rfl rfl rfl rfl (hS.ld 4 rfl rfl)⟩, ?_⟩
            refine WQ.r 2 rfl ?_
            refine WQ.nil ?_
            intro m3
            replace hS := hS.drewN m3; generalize hwm3 : World.drewN _ _ = w at *; clear hwm3
            as_aux_lemma =>
              refine WC.ret ?_
              refine ⟨[.agg #[.int .i64 0, .int .u64 0, .int .u64 0, .int .i64 0, .int .i64 0, .int .i64 0, .int .i64 0, .int .i64 0, .bool false, .string ⟨#[]⟩, .slice none 0 0, .slice none 0 0, .slice none 0 0], .int .i64 0, .int .i64 e], ⟨⟨_, rfl, hS.lvF 6 rfl ag_27⟩, rfl, rfl⟩, ?_⟩
              replace hS := hS.nil_ 5 1
              replace hS := hS.nil_ 40 2
              replace hS := hS.nil_ 63 4
              replace hS := (hS.sel 10 [8, 2, 1, 0] rfl)
              have hr2 : qOpr bs q0 = (op0 0, 0, e) := by
                rw [qFields_end (by omega)] at hr; subst hR1; unfold qOpr; simp only; rw [← he2, hr]; simp only; rw [if_pos cd3]
              have hn : qNx bs (q0 : Int) = (op0 0, 0, e) := by rw [qNx, if_neg (by omega)]; simp only [Int.toNat_natCast, hr2]; rfl
              rw [hn]; exact ⟨_, _, _, _, _, _, rfl, hS⟩
          · refine WC.skip ?_
            refine WC.seq ?_
            refine WC.plan [([1, 2, 3, 4], some (0, [1, 2, 3, 4])), ([], some (5, [1, 2, 3, 4])), ([6, 7], none)] (by kernel_rfl) (by kernel_rfl) ?_
            refine WQ.run 4 [.int .i64 (q : Int)] rfl (by exact hS.ld 4 rfl rfl) ?_
            refine WQ.nil ?_
            intro m1
            replace hS := hS.drewN m1; generalize hwm1 : World.drewN _ _ = w at *; clear hwm1
            refine WL.ldF rfl rfl 3 hS rfl rfl ag_27 ?_
            refine WL.nil ?_
            refine ⟨by exact ⟨RQ.pure rfl rfl rfl rfl, RQ.pure rfl rfl rfl rfl, RQ.pure rfl rfl rfl rfl, RQ.load rfl rfl rfl rfl (hS.ld 4 rfl rfl)⟩, ?_⟩
            refine WQ.nil ?_
            intro m2
            replace hS := hS.drewN m2; generalize hwm2 : World.drewN _ _ = w at *; clear hwm2
            refine WL.stF rfl rfl rfl 6 hS rfl rfl rfl rfl rfl ag_27 (fun w hS => ?_)
            replace hS : St g (Own 5 1 (by8 x.bytes) ab cb :: Own 40 2 (en2 x.ents) ae ce :: Own 63 4 (ch4 x.chs) ac cc :: cel b3 #[.int .i64 x.code, .int .u64 x.a, .int .u64 x.b, .int .i64 x.key, .int .i64 x.val, .int .i64 x.lo, .int .i64 x.hi, .int .i64 x.n, .bool x.flag, .string x.name, .slice ab (List.length (by8 x.bytes)) cb, .slice ae (List.length (en2 x.ents)) ce, .slice ac (List.length (ch4 x.chs)) cc] 27 :: cel b2 #[.slice a (List.length (by8 bs)) c, .int .i64 (q : Int), .int .i64 e] 88 :: Sh 5 1 (by8 bs) a c :: cel b1 #[.int .i64 x.code, .int .u64 x.a, .int .u64 x.b, .int .i64 x.key, .int .i64 x.val, .int .i64 x.lo, .int .i64 x.hi, .int .i64 x.n, .bool x.flag, .string x.name, .slice ab (List.length (by8 x.bytes)) cb, .slice ae (List.length (en2 x.ents)) ce, .slice ac (List.length (ch4 x.chs)) cc] 27 :: L) w := hS
            refine WL.nil ?_
            refine ⟨by exact ⟨RQ.pure rfl rfl rfl rfl, RQ.pure rfl rfl rfl rfl, RQ.pure rfl rfl rfl rfl, RQ.load rfl rfl rfl rfl (hS.ld 4 rfl rfl)⟩, ?_⟩
            refine WQ.r 2 rfl ?_
            refine WQ.nil ?_
            intro m3
            replace hS := hS.drewN m3; generalize hwm3 : World.drewN _ _ = w at *; clear hwm3
            as_aux_lemma =>
              refine WC.ret ?_
              refine ⟨[.agg #[.int .i64 x.code, .int .u64 x.a, .int .u64 x.b, .int .i64 x.key, .int .i64 x.val, .int .i64 x.lo, .int .i64 x.hi, .int .i64 x.n, .bool x.flag, .string x.name, .slice ab (List.length (by8 x.bytes)) cb, .slice ae (List.length (en2 x.ents)) ce, .slice ac (List.length (ch4 x.chs)) cc], .int .i64 (q : Int), .int .i64 0], ⟨⟨_, rfl, hS.lvF 6 rfl ag_27⟩, rfl, rfl⟩, ?_⟩
              replace hS := (hS.sel 7 [5, 0, 0, 0] rfl)
              have he : e = 0 := Classical.not_not.1 cd3
              have hr2 : qOpr bs q0 = (x, q, 0) := by
                rw [qFields_end (by omega)] at hr; subst hR1; unfold qOpr; simp only; rw [← he2, hr]; simp only; rw [if_neg cd3, he]
              have hn : qNx bs (q0 : Int) = (x, (q : Int), 0) := by rw [qNx, if_neg (by omega)]; simp only [Int.toNat_natCast, hr2]
              rw [hn]; exact ⟨_, _, _, _, _, _, rfl, hS⟩
theorem qnextAnswer_spec {g w : World} {L : List HP} (a : Option Addr) (c : Nat) (bs : List Int) (p : Int) (hl : bs.length ≤ 100000) (hb : B8 bs) (hS : St g (Sh 5 1 (by8 bs) a c :: L) w) :
    Sp Try.prog 22 [.slice a (List.length (by8 bs)) c, .int .i64 p] w (fun v w' => ∃ (ab ae ac ak : Option Addr) (cb ce cc ck : Nat), v = .tuple #[.agg #[.int .i64 (qNxa bs p).1.err, .int .u64 (qNxa bs p).1.handle, .int .i64 (qNxa bs p).1.value, .bool (qNxa bs p).1.found, .int .i64 (qNxa bs p).1.n, .int .i64 (qNxa bs p).1.ekey, .int .i64 (qNxa bs p).1.eval, .int .i64 (qNxa bs p).1.count, .int .i64 (qNxa bs p).1.sum, .int .i64 (qNxa bs p).1.mn, .int .i64 (qNxa bs p).1.mx, .slice ae (List.length (en2 (qNxa bs p).1.ents)) ce, .slice ac (List.length (ch4 (qNxa bs p).1.chs)) cc, .slice ak (List.length (i64s (qNxa bs p).1.keys)) ck, .slice ab (List.length (by8 (qNxa bs p).1.bytes)) cb], .int .i64 (qNxa bs p).2.1, .int .i64 (qNxa bs p).2.2] ∧ St g (Sh 5 1 (by8 bs) a c :: Own 5 1 (by8 (qNxa bs p).1.bytes) ab cb :: Own 40 2 (en2 (qNxa bs p).1.ents) ae ce :: Own 63 4 (ch4 (qNxa bs p).1.chs) ac cc :: Own 2 1 (i64s (qNxa bs p).1.keys) ak ck :: L) w') := by
  refine Sp.enter Try.func22 rfl (by kernel_rfl) (by kernel_rfl) ?_
  have _ := hb
  have _ := hl
  refine WC.seq ?_
  refine WC.region ?_
  refine WL.new rfl rfl zv_45 hS (fun b1 w hS => ?_)
  refine WL.r 2 rfl ?_
  refine WL.nil ?_
  refine WC.seq ?_
  refine WC.seq ?_
  refine WC.region ?_
  have hl8 := by8_len bs
  refine WL.r 2 rfl ?_
  refine WL.rG 6 rfl (fun j => ?_)
  refine WL.prop 19 rfl (bor (dd _) (dd _)) ?_
  refine WL.nil ?_
  refine WC.ifP rfl (fun cd1 => ?_) (fun cd1 => ?_)
  · refine WC.seq ?_
    refine WC.region ?_
    refine WL.build rfl rfl (cs := [.int .i64 0, .int .u64 0, .int .i64 0, .bool false, .int .i64 0, .int .i64 0, .int .i64 0, .int .i64 0, .int .i64 0, .int .i64 0, .int .i64 0, .slice none 0 0, .slice none 0 0, .slice none 0 0, .slice none 0 0]) zv_45 rfl rfl ?_
    refine WL.stF rfl rfl rfl 0 hS rfl rfl rfl rfl rfl ag_45 (fun w hS => ?_)
    replace hS : St g (cel b1 #[.int .i64 0, .int .u64 0, .int .i64 0, .bool false, .int .i64 0, .int .i64 0, .int .i64 0, .int .i64 0, .int .i64 0, .int .i64 0, .int .i64 0, .slice none 0 0, .slice none 0 0, .slice none 0 0, .slice none 0 0] 45 :: Sh 5 1 (by8 bs) a c :: L) w := hS
    refine WL.r 2 rfl ?_
    refine WL.nil ?_
    refine WC.ret ?_
    refine ⟨[.agg #[.int .i64 0, .int .u64 0, .int .i64 0, .bool false, .int .i64 0, .int .i64 0, .int .i64 0, .int .i64 0, .int .i64 0, .int .i64 0, .int .i64 0, .slice none 0 0, .slice none 0 0, .slice none 0 0, .slice none 0 0], .int .i64 0, .int .i64 1], ⟨⟨_, rfl, hS.lvF 0 rfl ag_45⟩, rfl, rfl⟩, ?_⟩
    replace hS := hS.nil_ 5 1
    replace hS := hS.nil_ 40 2
    replace hS := hS.nil_ 63 4
    replace hS := hS.nil_ 2 1
    replace hS := (hS.sel 6 [5, 3, 2, 1, 0] rfl)
    rw [by8_len] at cd1; rw [qNxa, if_pos cd1]; exact ⟨_, _, _, _, _, _, _, _, rfl, hS⟩
  · refine WC.skip ?_
    refine WC.seq ?_
    refine WC.region ?_
    obtain ⟨q0, rfl⟩ : ∃ q : Nat, p = q := ⟨p.toNat, by omega⟩; have hl8 := by8_len bs; have hp : q0 ≤ bs.length := by omega
    refine WL.r 2 rfl ?_
    refine WL.build rfl rfl (cs := [.slice a (List.length (by8 bs)) c, .int .i64 (q0 : Int), .int .i64 0]) zv_88 rfl rfl ?_
    refine WL.box rfl rfl #[.slice a (List.length (by8 bs)) c, .int .i64 (q0 : Int), .int .i64 0] hS rfl rfl (fun b2 w hS => ?_)
    refine WL.r 1 rfl ?_
    refine WL.nil ?_
    refine WC.seq ?_
    refine WC.region ?_
    refine WL.r 1 rfl ?_
    refine WL.call rfl rfl (qu_spec (r := b2) (c := c) (a := a) (bs := bs) (p := q0) (e := 0) (most := 255) (hp := (by assumption)) (hl := (by assumption)) (hb := (by assumption)) (hm := (by omega)) (hS := (hS.sel 3 [0, 1, 0] rfl))) rfl ?_
    generalize hR1 : qU bs 255 q0 0 = R1
    rintro _ w ⟨rfl, hS⟩
    have hR1f0 : R1.2.1 ≤ (List.length bs) := by rw [← hR1]; exact qU_le (by assumption)
    have hR1f1 : (0 ≤ R1.1) ∧ (R1.1 ≤ 255) := by rw [← hR1]; exact qU_b (by assumption) (by omega)
    replace hS : St g (cel b2 #[.slice a (List.length (by8 bs)) c, .int .i64 (R1.2.1 : Int), .int .i64 R1.2.2] 88 :: Sh 5 1 (by8 bs) a c :: cel b1 #[.int .i64 0, .int .u64 0, .int .i64 0, .bool false, .int .i64 0, .int .i64 0, .int .i64 0, .int .i64 0, .int .i64 0, .int .i64 0, .int .i64 0, .slice none 0 0, .slice none 0 0, .slice none 0 0, .slice none 0 0] 45 :: L) w := hS
    refine WL.r 1 rfl ?_
    refine WL.nw 27 rfl (w64 (by omega)) ?_
    refine WL.build rfl rfl (cs := [.int .i64 R1.1, .int .u64 0, .int .i64 0, .bool false, .int .i64 0, .int .i64 0, .int .i64 0, .int .i64 0, .int .i64 0, .int .i64 0, .int .i64 0, .slice none 0 0, .slice none 0 0, .slice none 0 0, .slice none 0 0]) zv_45 rfl rfl ?_
    refine WL.new rfl rfl zv_45 hS (fun b3 w hS => ?_)
    refine WL.stF rfl rfl rfl 0 hS rfl rfl rfl rfl rfl ag_45 (fun w hS => ?_)
    replace hS : St g (cel b3 #[.int .i64 R1.1, .int .u64 0, .int .i64 0, .bool false, .int .i64 0, .int .i64 0, .int .i64 0, .int .i64 0, .int .i64 0, .int .i64 0, .int .i64 0, .slice none 0 0, .slice none 0 0, .slice none 0 0, .slice none 0 0] 45 :: cel b2 #[.slice a (List.length (by8 bs)) c, .int .i64 (R1.2.1 : Int), .int .i64 R1.2.2] 88 :: Sh 5 1 (by8 bs) a c :: cel b1 #[.int .i64 0, .int .u64 0, .int .i64 0, .bool false, .int .i64 0, .int .i64 0, .int .i64 0, .int .i64 0, .int .i64 0, .int .i64 0, .int .i64 0, .slice none 0 0, .slice none 0 0, .slice none 0 0, .slice none 0 0] 45 :: L) w := hS
    refine WL.nil ?_
    as_aux_lemma =>
      refine WC.seq ?_
      refine WC.region ?_
      refine WL.r 1 rfl ?_
      refine WL.call rfl rfl (qu_spec (r := b2) (c := c) (a := a) (bs := bs) (p := R1.2.1) (e := R1.2.2) (most := 18446744073709551615) (hp := (by assumption)) (hl := (by assumption)) (hb := (by assumption)) (hm := (by omega)) (hS := (hS.sel 4 [1, 1, 0, 0] rfl))) rfl ?_
      generalize hR2 : qU bs 18446744073709551615 R1.2.1 R1.2.2 = R2
      rintro _ w ⟨rfl, hS⟩
      have hR2f0 : R2.2.1 ≤ (List.length bs) := by rw [← hR2]; exact qU_le (by assumption)
      have hR2f1 : (0 ≤ R2.1) ∧ (R2.1 ≤ 18446744073709551615) := by rw [← hR2]; exact qU_b (by assumption) (by omega)
      replace hS : St g (cel b2 #[.slice a (List.length (by8 bs)) c, .int .i64 (R2.2.1 : Int), .int .i64 R2.2.2] 88 :: Sh 5 1 (by8 bs) a c :: cel b3 #[.int .i64 R1.1, .int .u64 0, .int .i64 0, .bool false, .int .i64 0, .int .i64 0, .int .i64 0, .int .i64 0, .int .i64 0, .int .i64 0, .int .i64 0, .slice none 0 0, .slice none 0 0, .slice none 0 0, .slice none 0 0] 45 :: cel b1 #[.int .i64 0, .int .u64 0, .int .i64 0, .bool false, .int .i64 0, .int .i64 0, .int .i64 0, .int .i64 0, .int .i64 0, .int .i64 0, .int .i64 0, .slice none 0 0, .slice none 0 0, .slice none 0 0, .slice none 0 0] 45 :: L) w := hS
      refine WL.r 1 rfl ?_
      refine WL.st rfl rfl rfl 2 hS rfl rfl rfl rfl rfl rfl (fun w hS => ?_)
      replace hS : St g (cel b2 #[.slice a (List.length (by8 bs)) c, .int .i64 (R2.2.1 : Int), .int .i64 R2.2.2] 88 :: Sh 5 1 (by8 bs) a c :: cel b3 #[.int .i64 R1.1, .int .u64 R2.1, .int .i64 0, .bool false, .int .i64 0, .int .i64 0, .int .i64 0, .int .i64 0, .int .i64 0, .int .i64 0, .int .i64 0, .slice none 0 0, .slice none 0 0, .slice none 0 0, .slice none 0 0] 45 :: cel b1 #[.int .i64 0, .int .u64 0, .int .i64 0, .bool false, .int .i64 0, .int .i64 0, .int .i64 0, .int .i64 0, .int .i64 0, .int .i64 0, .int .i64 0, .slice none 0 0, .slice none 0 0, .slice none 0 0, .slice none 0 0] 45 :: L) w := hS
      refine WL.nil ?_
      refine WC.seq ?_
      refine WC.region ?_
      refine WL.r 1 rfl ?_
      refine WL.call rfl rfl (qz_spec (r := b2) (c := c) (a := a) (bs := bs) (p := R2.2.1) (e := R2.2.2) (hp := (by assumption)) (hl := (by assumption)) (hb := (by assumption)) (hS := hS)) rfl ?_
      generalize hR3 : qZ bs R2.2.1 R2.2.2 = R3
      rintro _ w ⟨rfl, hS⟩
      have hR3f0 : R3.2.1 ≤ (List.length bs) := by rw [← hR3]; exact qZ_le (by assumption)
      replace hS : St g (cel b2 #[.slice a (List.length (by8 bs)) c, .int .i64 (R3.2.1 : Int), .int .i64 R3.2.2] 88 :: Sh 5 1 (by8 bs) a c :: cel b3 #[.int .i64 R1.1, .int .u64 R2.1, .int .i64 0, .bool false, .int .i64 0, .int .i64 0, .int .i64 0, .int .i64 0, .int .i64 0, .int .i64 0, .int .i64 0, .slice none 0 0, .slice none 0 0, .slice none 0 0, .slice none 0 0] 45 :: cel b1 #[.int .i64 0, .int .u64 0, .int .i64 0, .bool false, .int .i64 0, .int .i64 0, .int .i64 0, .int .i64 0, .int .i64 0, .int .i64 0, .int .i64 0, .slice none 0 0, .slice none 0 0, .slice none 0 0, .slice none 0 0] 45 :: L) w := hS
      refine WL.r 1 rfl ?_
      refine WL.st rfl rfl rfl 2 hS rfl rfl rfl rfl rfl rfl (fun w hS => ?_)
      replace hS : St g (cel b2 #[.slice a (List.length (by8 bs)) c, .int .i64 (R3.2.1 : Int), .int .i64 R3.2.2] 88 :: Sh 5 1 (by8 bs) a c :: cel b3 #[.int .i64 R1.1, .int .u64 R2.1, .int .i64 R3.1, .bool false, .int .i64 0, .int .i64 0, .int .i64 0, .int .i64 0, .int .i64 0, .int .i64 0, .int .i64 0, .slice none 0 0, .slice none 0 0, .slice none 0 0, .slice none 0 0] 45 :: cel b1 #[.int .i64 0, .int .u64 0, .int .i64 0, .bool false, .int .i64 0, .int .i64 0, .int .i64 0, .int .i64 0, .int .i64 0, .int .i64 0, .int .i64 0, .slice none 0 0, .slice none 0 0, .slice none 0 0, .slice none 0 0] 45 :: L) w := hS
      refine WL.nil ?_
      as_aux_lemma =>
        refine WC.seq ?_
        refine WC.region ?_
        refine WL.r 1 rfl ?_
        refine WL.call rfl rfl (qc_spec (r := b2) (c := c) (a := a) (bs := bs) (p := R3.2.1) (e := R3.2.2) (most := 1) (hp := (by assumption)) (hl := (by assumption)) (hb := (by assumption)) (hm := (by omega)) (hS := hS)) rfl ?_
        generalize hR4 : qC bs 1 R3.2.1 R3.2.2 = R4
        rintro _ w ⟨rfl, hS⟩
        have hR4f0 : R4.2.1 ≤ (List.length bs) := by rw [← hR4]; exact qC_le (by assumption)
        have hR4f1 : (0 ≤ R4.1) ∧ (R4.1 ≤ 1) := by rw [← hR4]; exact qC_b (by assumption) (by omega)
        replace hS : St g (cel b2 #[.slice a (List.length (by8 bs)) c, .int .i64 (R4.2.1 : Int), .int .i64 R4.2.2] 88 :: Sh 5 1 (by8 bs) a c :: cel b3 #[.int .i64 R1.1, .int .u64 R2.1, .int .i64 R3.1, .bool false, .int .i64 0, .int .i64 0, .int .i64 0, .int .i64 0, .int .i64 0, .int .i64 0, .int .i64 0, .slice none 0 0, .slice none 0 0, .slice none 0 0, .slice none 0 0] 45 :: cel b1 #[.int .i64 0, .int .u64 0, .int .i64 0, .bool false, .int .i64 0, .int .i64 0, .int .i64 0, .int .i64 0, .int .i64 0, .int .i64 0, .int .i64 0, .slice none 0 0, .slice none 0 0, .slice none 0 0, .slice none 0 0] 45 :: L) w := hS
        refine WL.r 2 rfl ?_
        refine WL.st rfl rfl rfl 2 hS rfl rfl rfl rfl rfl rfl (fun w hS => ?_)
        replace hS : St g (cel b2 #[.slice a (List.length (by8 bs)) c, .int .i64 (R4.2.1 : Int), .int .i64 R4.2.2] 88 :: Sh 5 1 (by8 bs) a c :: cel b3 #[.int .i64 R1.1, .int .u64 R2.1, .int .i64 R3.1, .bool (decide (R4.1 = 1)), .int .i64 0, .int .i64 0, .int .i64 0, .int .i64 0, .int .i64 0, .int .i64 0, .int .i64 0, .slice none 0 0, .slice none 0 0, .slice none 0 0, .slice none 0 0] 45 :: cel b1 #[.int .i64 0, .int .u64 0, .int .i64 0, .bool false, .int .i64 0, .int .i64 0, .int .i64 0, .int .i64 0, .int .i64 0, .int .i64 0, .int .i64 0, .slice none 0 0, .slice none 0 0, .slice none 0 0, .slice none 0 0] 45 :: L) w := hS
        refine WL.nil ?_
        refine WC.seq ?_
        refine WC.region ?_
        refine WL.r 1 rfl ?_
        refine WL.call rfl rfl (qz_spec (r := b2) (c := c) (a := a) (bs := bs) (p := R4.2.1) (e := R4.2.2) (hp := (by assumption)) (hl := (by assumption)) (hb := (by assumption)) (hS := hS)) rfl ?_
        generalize hR5 : qZ bs R4.2.1 R4.2.2 = R5
        rintro _ w ⟨rfl, hS⟩
        have hR5f0 : R5.2.1 ≤ (List.length bs) := by rw [← hR5]; exact qZ_le (by assumption)
        replace hS : St g (cel b2 #[.slice a (List.length (by8 bs)) c, .int .i64 (R5.2.1 : Int), .int .i64 R5.2.2] 88 :: Sh 5 1 (by8 bs) a c :: cel b3 #[.int .i64 R1.1, .int .u64 R2.1, .int .i64 R3.1, .bool (decide (R4.1 = 1)), .int .i64 0, .int .i64 0, .int .i64 0, .int .i64 0, .int .i64 0, .int .i64 0, .int .i64 0, .slice none 0 0, .slice none 0 0, .slice none 0 0, .slice none 0 0] 45 :: cel b1 #[.int .i64 0, .int .u64 0, .int .i64 0, .bool false, .int .i64 0, .int .i64 0, .int .i64 0, .int .i64 0, .int .i64 0, .int .i64 0, .int .i64 0, .slice none 0 0, .slice none 0 0, .slice none 0 0, .slice none 0 0] 45 :: L) w := hS
        refine WL.r 1 rfl ?_
        refine WL.st rfl rfl rfl 2 hS rfl rfl rfl rfl rfl rfl (fun w hS => ?_)
        replace hS : St g (cel b2 #[.slice a (List.length (by8 bs)) c, .int .i64 (R5.2.1 : Int), .int .i64 R5.2.2] 88 :: Sh 5 1 (by8 bs) a c :: cel b3 #[.int .i64 R1.1, .int .u64 R2.1, .int .i64 R3.1, .bool (decide (R4.1 = 1)), .int .i64 R5.1, .int .i64 0, .int .i64 0, .int .i64 0, .int .i64 0, .int .i64 0, .int .i64 0, .slice none 0 0, .slice none 0 0, .slice none 0 0, .slice none 0 0] 45 :: cel b1 #[.int .i64 0, .int .u64 0, .int .i64 0, .bool false, .int .i64 0, .int .i64 0, .int .i64 0, .int .i64 0, .int .i64 0, .int .i64 0, .int .i64 0, .slice none 0 0, .slice none 0 0, .slice none 0 0, .slice none 0 0] 45 :: L) w := hS
        refine WL.nil ?_
        as_aux_lemma =>
          refine WC.seq ?_
          refine WC.region ?_
          refine WL.r 1 rfl ?_
          refine WL.call rfl rfl (qz_spec (r := b2) (c := c) (a := a) (bs := bs) (p := R5.2.1) (e := R5.2.2) (hp := (by assumption)) (hl := (by assumption)) (hb := (by assumption)) (hS := hS)) rfl ?_
          generalize hR6 : qZ bs R5.2.1 R5.2.2 = R6
          rintro _ w ⟨rfl, hS⟩
          have hR6f0 : R6.2.1 ≤ (List.length bs) := by rw [← hR6]; exact qZ_le (by assumption)
          replace hS : St g (cel b2 #[.slice a (List.length (by8 bs)) c, .int .i64 (R6.2.1 : Int), .int .i64 R6.2.2] 88 :: Sh 5 1 (by8 bs) a c :: cel b3 #[.int .i64 R1.1, .int .u64 R2.1, .int .i64 R3.1, .bool (decide (R4.1 = 1)), .int .i64 R5.1, .int .i64 0, .int .i64 0, .int .i64 0, .int .i64 0, .int .i64 0, .int .i64 0, .slice none 0 0, .slice none 0 0, .slice none 0 0, .slice none 0 0] 45 :: cel b1 #[.int .i64 0, .int .u64 0, .int .i64 0, .bool false, .int .i64 0, .int .i64 0, .int .i64 0, .int .i64 0, .int .i64 0, .int .i64 0, .int .i64 0, .slice none 0 0, .slice none 0 0, .slice none 0 0, .slice none 0 0] 45 :: L) w := hS
          refine WL.r 2 rfl ?_
          refine WL.st rfl rfl rfl 2 hS rfl rfl rfl rfl rfl rfl (fun w hS => ?_)
          replace hS : St g (cel b2 #[.slice a (List.length (by8 bs)) c, .int .i64 (R6.2.1 : Int), .int .i64 R6.2.2] 88 :: Sh 5 1 (by8 bs) a c :: cel b3 #[.int .i64 R1.1, .int .u64 R2.1, .int .i64 R3.1, .bool (decide (R4.1 = 1)), .int .i64 R5.1, .int .i64 R6.1, .int .i64 0, .int .i64 0, .int .i64 0, .int .i64 0, .int .i64 0, .slice none 0 0, .slice none 0 0, .slice none 0 0, .slice none 0 0] 45 :: cel b1 #[.int .i64 0, .int .u64 0, .int .i64 0, .bool false, .int .i64 0, .int .i64 0, .int .i64 0, .int .i64 0, .int .i64 0, .int .i64 0, .int .i64 0, .slice none 0 0, .slice none 0 0, .slice none 0 0, .slice none 0 0] 45 :: L) w := hS
          refine WL.nil ?_
          refine WC.seq ?_
          refine WC.region ?_
          refine WL.r 1 rfl ?_
          refine WL.call rfl rfl (qz_spec (r := b2) (c := c) (a := a) (bs := bs) (p := R6.2.1) (e := R6.2.2) (hp := (by assumption)) (hl := (by assumption)) (hb := (by assumption)) (hS := hS)) rfl ?_
          generalize hR7 : qZ bs R6.2.1 R6.2.2 = R7
          rintro _ w ⟨rfl, hS⟩
          have hR7f0 : R7.2.1 ≤ (List.length bs) := by rw [← hR7]; exact qZ_le (by assumption)
          replace hS : St g (cel b2 #[.slice a (List.length (by8 bs)) c, .int .i64 (R7.2.1 : Int), .int .i64 R7.2.2] 88 :: Sh 5 1 (by8 bs) a c :: cel b3 #[.int .i64 R1.1, .int .u64 R2.1, .int .i64 R3.1, .bool (decide (R4.1 = 1)), .int .i64 R5.1, .int .i64 R6.1, .int .i64 0, .int .i64 0, .int .i64 0, .int .i64 0, .int .i64 0, .slice none 0 0, .slice none 0 0, .slice none 0 0, .slice none 0 0] 45 :: cel b1 #[.int .i64 0, .int .u64 0, .int .i64 0, .bool false, .int .i64 0, .int .i64 0, .int .i64 0, .int .i64 0, .int .i64 0, .int .i64 0, .int .i64 0, .slice none 0 0, .slice none 0 0, .slice none 0 0, .slice none 0 0] 45 :: L) w := hS
          refine WL.r 2 rfl ?_
          refine WL.st rfl rfl rfl 2 hS rfl rfl rfl rfl rfl rfl (fun w hS => ?_)
          replace hS : St g (cel b2 #[.slice a (List.length (by8 bs)) c, .int .i64 (R7.2.1 : Int), .int .i64 R7.2.2] 88 :: Sh 5 1 (by8 bs) a c :: cel b3 #[.int .i64 R1.1, .int .u64 R2.1, .int .i64 R3.1, .bool (decide (R4.1 = 1)), .int .i64 R5.1, .int .i64 R6.1, .int .i64 R7.1, .int .i64 0, .int .i64 0, .int .i64 0, .int .i64 0, .slice none 0 0, .slice none 0 0, .slice none 0 0, .slice none 0 0] 45 :: cel b1 #[.int .i64 0, .int .u64 0, .int .i64 0, .bool false, .int .i64 0, .int .i64 0, .int .i64 0, .int .i64 0, .int .i64 0, .int .i64 0, .int .i64 0, .slice none 0 0, .slice none 0 0, .slice none 0 0, .slice none 0 0] 45 :: L) w := hS
          refine WL.nil ?_
          refine WC.seq ?_
          refine WC.region ?_
          refine WL.r 1 rfl ?_
          refine WL.call rfl rfl (qz_spec (r := b2) (c := c) (a := a) (bs := bs) (p := R7.2.1) (e := R7.2.2) (hp := (by assumption)) (hl := (by assumption)) (hb := (by assumption)) (hS := hS)) rfl ?_
          generalize hR8 : qZ bs R7.2.1 R7.2.2 = R8
          rintro _ w ⟨rfl, hS⟩
          have hR8f0 : R8.2.1 ≤ (List.length bs) := by rw [← hR8]; exact qZ_le (by assumption)
          replace hS : St g (cel b2 #[.slice a (List.length (by8 bs)) c, .int .i64 (R8.2.1 : Int), .int .i64 R8.2.2] 88 :: Sh 5 1 (by8 bs) a c :: cel b3 #[.int .i64 R1.1, .int .u64 R2.1, .int .i64 R3.1, .bool (decide (R4.1 = 1)), .int .i64 R5.1, .int .i64 R6.1, .int .i64 R7.1, .int .i64 0, .int .i64 0, .int .i64 0, .int .i64 0, .slice none 0 0, .slice none 0 0, .slice none 0 0, .slice none 0 0] 45 :: cel b1 #[.int .i64 0, .int .u64 0, .int .i64 0, .bool false, .int .i64 0, .int .i64 0, .int .i64 0, .int .i64 0, .int .i64 0, .int .i64 0, .int .i64 0, .slice none 0 0, .slice none 0 0, .slice none 0 0, .slice none 0 0] 45 :: L) w := hS
          refine WL.r 2 rfl ?_
          refine WL.st rfl rfl rfl 2 hS rfl rfl rfl rfl rfl rfl (fun w hS => ?_)
          replace hS : St g (cel b2 #[.slice a (List.length (by8 bs)) c, .int .i64 (R8.2.1 : Int), .int .i64 R8.2.2] 88 :: Sh 5 1 (by8 bs) a c :: cel b3 #[.int .i64 R1.1, .int .u64 R2.1, .int .i64 R3.1, .bool (decide (R4.1 = 1)), .int .i64 R5.1, .int .i64 R6.1, .int .i64 R7.1, .int .i64 R8.1, .int .i64 0, .int .i64 0, .int .i64 0, .slice none 0 0, .slice none 0 0, .slice none 0 0, .slice none 0 0] 45 :: cel b1 #[.int .i64 0, .int .u64 0, .int .i64 0, .bool false, .int .i64 0, .int .i64 0, .int .i64 0, .int .i64 0, .int .i64 0, .int .i64 0, .int .i64 0, .slice none 0 0, .slice none 0 0, .slice none 0 0, .slice none 0 0] 45 :: L) w := hS
          refine WL.nil ?_
          as_aux_lemma =>
            refine WC.seq ?_
            refine WC.region ?_
            refine WL.r 1 rfl ?_
            refine WL.call rfl rfl (qz_spec (r := b2) (c := c) (a := a) (bs := bs) (p := R8.2.1) (e := R8.2.2) (hp := (by assumption)) (hl := (by assumption)) (hb := (by assumption)) (hS := hS)) rfl ?_
            generalize hR9 : qZ bs R8.2.1 R8.2.2 = R9
            rintro _ w ⟨rfl, hS⟩
            have hR9f0 : R9.2.1 ≤ (List.length bs) := by rw [← hR9]; exact qZ_le (by assumption)
            replace hS : St g (cel b2 #[.slice a (List.length (by8 bs)) c, .int .i64 (R9.2.1 : Int), .int .i64 R9.2.2] 88 :: Sh 5 1 (by8 bs) a c :: cel b3 #[.int .i64 R1.1, .int .u64 R2.1, .int .i64 R3.1, .bool (decide (R4.1 = 1)), .int .i64 R5.1, .int .i64 R6.1, .int .i64 R7.1, .int .i64 R8.1, .int .i64 0, .int .i64 0, .int .i64 0, .slice none 0 0, .slice none 0 0, .slice none 0 0, .slice none 0 0] 45 :: cel b1 #[.int .i64 0, .int .u64 0, .int .i64 0, .bool false, .int .i64 0, .int .i64 0, .int .i64 0, .int .i64 0, .int .i64 0, .int .i64 0, .int .i64 0, .slice none 0 0, .slice none 0 0, .slice none 0 0, .slice none 0 0] 45 :: L) w := hS
            refine WL.r 2 rfl ?_
            refine WL.st rfl rfl rfl 2 hS rfl rfl rfl rfl rfl rfl (fun w hS => ?_)
            replace hS : St g (cel b2 #[.slice a (List.length (by8 bs)) c, .int .i64 (R9.2.1 : Int), .int .i64 R9.2.2] 88 :: Sh 5 1 (by8 bs) a c :: cel b3 #[.int .i64 R1.1, .int .u64 R2.1, .int .i64 R3.1, .bool (decide (R4.1 = 1)), .int .i64 R5.1, .int .i64 R6.1, .int .i64 R7.1, .int .i64 R8.1, .int .i64 R9.1, .int .i64 0, .int .i64 0, .slice none 0 0, .slice none 0 0, .slice none 0 0, .slice none 0 0] 45 :: cel b1 #[.int .i64 0, .int .u64 0, .int .i64 0, .bool false, .int .i64 0, .int .i64 0, .int .i64 0, .int .i64 0, .int .i64 0, .int .i64 0, .int .i64 0, .slice none 0 0, .slice none 0 0, .slice none 0 0, .slice none 0 0] 45 :: L) w := hS
            refine WL.nil ?_
            refine WC.seq ?_
            refine WC.region ?_
            refine WL.r 1 rfl ?_
            refine WL.call rfl rfl (qz_spec (r := b2) (c := c) (a := a) (bs := bs) (p := R9.2.1) (e := R9.2.2) (hp := (by assumption)) (hl := (by assumption)) (hb := (by assumption)) (hS := hS)) rfl ?_
            generalize hR10 : qZ bs R9.2.1 R9.2.2 = R10
            rintro _ w ⟨rfl, hS⟩
            have hR10f0 : R10.2.1 ≤ (List.length bs) := by rw [← hR10]; exact qZ_le (by assumption)
            replace hS : St g (cel b2 #[.slice a (List.length (by8 bs)) c, .int .i64 (R10.2.1 : Int), .int .i64 R10.2.2] 88 :: Sh 5 1 (by8 bs) a c :: cel b3 #[.int .i64 R1.1, .int .u64 R2.1, .int .i64 R3.1, .bool (decide (R4.1 = 1)), .int .i64 R5.1, .int .i64 R6.1, .int .i64 R7.1, .int .i64 R8.1, .int .i64 R9.1, .int .i64 0, .int .i64 0, .slice none 0 0, .slice none 0 0, .slice none 0 0, .slice none 0 0] 45 :: cel b1 #[.int .i64 0, .int .u64 0, .int .i64 0, .bool false, .int .i64 0, .int .i64 0, .int .i64 0, .int .i64 0, .int .i64 0, .int .i64 0, .int .i64 0, .slice none 0 0, .slice none 0 0, .slice none 0 0, .slice none 0 0] 45 :: L) w := hS
            refine WL.r 2 rfl ?_
            refine WL.st rfl rfl rfl 2 hS rfl rfl rfl rfl rfl rfl (fun w hS => ?_)
            replace hS : St g (cel b2 #[.slice a (List.length (by8 bs)) c, .int .i64 (R10.2.1 : Int), .int .i64 R10.2.2] 88 :: Sh 5 1 (by8 bs) a c :: cel b3 #[.int .i64 R1.1, .int .u64 R2.1, .int .i64 R3.1, .bool (decide (R4.1 = 1)), .int .i64 R5.1, .int .i64 R6.1, .int .i64 R7.1, .int .i64 R8.1, .int .i64 R9.1, .int .i64 R10.1, .int .i64 0, .slice none 0 0, .slice none 0 0, .slice none 0 0, .slice none 0 0] 45 :: cel b1 #[.int .i64 0, .int .u64 0, .int .i64 0, .bool false, .int .i64 0, .int .i64 0, .int .i64 0, .int .i64 0, .int .i64 0, .int .i64 0, .int .i64 0, .slice none 0 0, .slice none 0 0, .slice none 0 0, .slice none 0 0] 45 :: L) w := hS
            refine WL.nil ?_
            refine WC.seq ?_
            refine WC.region ?_
            refine WL.r 1 rfl ?_
            refine WL.call rfl rfl (qz_spec (r := b2) (c := c) (a := a) (bs := bs) (p := R10.2.1) (e := R10.2.2) (hp := (by assumption)) (hl := (by assumption)) (hb := (by assumption)) (hS := hS)) rfl ?_
            generalize hR11 : qZ bs R10.2.1 R10.2.2 = R11
            rintro _ w ⟨rfl, hS⟩
            have hR11f0 : R11.2.1 ≤ (List.length bs) := by rw [← hR11]; exact qZ_le (by assumption)
            replace hS : St g (cel b2 #[.slice a (List.length (by8 bs)) c, .int .i64 (R11.2.1 : Int), .int .i64 R11.2.2] 88 :: Sh 5 1 (by8 bs) a c :: cel b3 #[.int .i64 R1.1, .int .u64 R2.1, .int .i64 R3.1, .bool (decide (R4.1 = 1)), .int .i64 R5.1, .int .i64 R6.1, .int .i64 R7.1, .int .i64 R8.1, .int .i64 R9.1, .int .i64 R10.1, .int .i64 0, .slice none 0 0, .slice none 0 0, .slice none 0 0, .slice none 0 0] 45 :: cel b1 #[.int .i64 0, .int .u64 0, .int .i64 0, .bool false, .int .i64 0, .int .i64 0, .int .i64 0, .int .i64 0, .int .i64 0, .int .i64 0, .int .i64 0, .slice none 0 0, .slice none 0 0, .slice none 0 0, .slice none 0 0] 45 :: L) w := hS
            refine WL.r 2 rfl ?_
            refine WL.st rfl rfl rfl 2 hS rfl rfl rfl rfl rfl rfl (fun w hS => ?_)
            replace hS : St g (cel b2 #[.slice a (List.length (by8 bs)) c, .int .i64 (R11.2.1 : Int), .int .i64 R11.2.2] 88 :: Sh 5 1 (by8 bs) a c :: cel b3 #[.int .i64 R1.1, .int .u64 R2.1, .int .i64 R3.1, .bool (decide (R4.1 = 1)), .int .i64 R5.1, .int .i64 R6.1, .int .i64 R7.1, .int .i64 R8.1, .int .i64 R9.1, .int .i64 R10.1, .int .i64 R11.1, .slice none 0 0, .slice none 0 0, .slice none 0 0, .slice none 0 0] 45 :: cel b1 #[.int .i64 0, .int .u64 0, .int .i64 0, .bool false, .int .i64 0, .int .i64 0, .int .i64 0, .int .i64 0, .int .i64 0, .int .i64 0, .int .i64 0, .slice none 0 0, .slice none 0 0, .slice none 0 0, .slice none 0 0] 45 :: L) w := hS
            refine WL.nil ?_
            as_aux_lemma =>
              refine WC.seq ?_
              refine WC.region ?_
              refine WL.r 2 rfl ?_
              refine WL.call rfl rfl (qsize_spec (r := b2) (c := c) (a := a) (bs := bs) (p := R11.2.1) (e := R11.2.2) (most := 18446744073709551615) (hp := (by assumption)) (hl := (by assumption)) (hb := (by assumption)) (hm := (by omega)) (hS := hS)) rfl ?_
              generalize hR12 : qSize bs 18446744073709551615 R11.2.1 R11.2.2 = R12
              rintro _ w ⟨rfl, hS⟩
              have hR12f0 : R12.2.1 ≤ (List.length bs) := by rw [← hR12]; exact qSize_le (by assumption)
              have hR12f1 : (0 ≤ R12.1) ∧ (R12.1 ≤ 18446744073709551615) ∧ (R12.1 + (R12.2.1 : Int) ≤ (List.length bs)) := by rw [← hR12]; exact qSize_b (by assumption) (by omega) (by assumption)
              replace hS : St g (cel b2 #[.slice a (List.length (by8 bs)) c, .int .i64 (R12.2.1 : Int), .int .i64 R12.2.2] 88 :: Sh 5 1 (by8 bs) a c :: cel b3 #[.int .i64 R1.1, .int .u64 R2.1, .int .i64 R3.1, .bool (decide (R4.1 = 1)), .int .i64 R5.1, .int .i64 R6.1, .int .i64 R7.1, .int .i64 R8.1, .int .i64 R9.1, .int .i64 R10.1, .int .i64 R11.1, .slice none 0 0, .slice none 0 0, .slice none 0 0, .slice none 0 0] 45 :: cel b1 #[.int .i64 0, .int .u64 0, .int .i64 0, .bool false, .int .i64 0, .int .i64 0, .int .i64 0, .int .i64 0, .int .i64 0, .int .i64 0, .int .i64 0, .slice none 0 0, .slice none 0 0, .slice none 0 0, .slice none 0 0] 45 :: L) w := hS
              refine WL.call rfl rfl (qentries_spec (r := b2) (c := c) (a := a) (bs := bs) (p := R12.2.1) (e := R12.2.2) (n := R12.1) (hp := (by assumption)) (hl := (by assumption)) (hb := (by assumption)) (hn := (by omega)) (hS := hS)) rfl ?_
              generalize hR13 : qEnts bs R12.1.toNat R12.2.1 R12.2.2 = R13
              rintro _ w ⟨a1, c1, rfl, hS⟩
              have hR13f0 : R13.2.1 ≤ (List.length bs) := by rw [← hR13]; exact qEnts_le (by assumption)
              have hR13f1 : (List.length R13.1) ≤ R12.1.toNat := by rw [← hR13]; exact (qEnts_p _ _ _ (by assumption)).2
              replace hS : St g (cel b2 #[.slice a (List.length (by8 bs)) c, .int .i64 (R13.2.1 : Int), .int .i64 R13.2.2] 88 :: Sh 5 1 (by8 bs) a c :: Own 40 2 (en2 R13.1) a1 c1 :: cel b3 #[.int .i64 R1.1, .int .u64 R2.1, .int .i64 R3.1, .bool (decide (R4.1 = 1)), .int .i64 R5.1, .int .i64 R6.1, .int .i64 R7.1, .int .i64 R8.1, .int .i64 R9.1, .int .i64 R10.1, .int .i64 R11.1, .slice none 0 0, .slice none 0 0, .slice none 0 0, .slice none 0 0] 45 :: cel b1 #[.int .i64 0, .int .u64 0, .int .i64 0, .bool false, .int .i64 0, .int .i64 0, .int .i64 0, .int .i64 0, .int .i64 0, .int .i64 0, .int .i64 0, .slice none 0 0, .slice none 0 0, .slice none 0 0, .slice none 0 0] 45 :: L) w := hS
              refine WL.r 1 rfl ?_
              refine WL.st rfl rfl rfl 3 hS rfl rfl rfl rfl rfl rfl (fun w hS => ?_)
              replace hS : St g (cel b2 #[.slice a (List.length (by8 bs)) c, .int .i64 (R13.2.1 : Int), .int .i64 R13.2.2] 88 :: Sh 5 1 (by8 bs) a c :: Own 40 2 (en2 R13.1) a1 c1 :: cel b3 #[.int .i64 R1.1, .int .u64 R2.1, .int .i64 R3.1, .bool (decide (R4.1 = 1)), .int .i64 R5.1, .int .i64 R6.1, .int .i64 R7.1, .int .i64 R8.1, .int .i64 R9.1, .int .i64 R10.1, .int .i64 R11.1, .slice a1 (List.length (en2 R13.1)) c1, .slice none 0 0, .slice none 0 0, .slice none 0 0] 45 :: cel b1 #[.int .i64 0, .int .u64 0, .int .i64 0, .bool false, .int .i64 0, .int .i64 0, .int .i64 0, .int .i64 0, .int .i64 0, .int .i64 0, .int .i64 0, .slice none 0 0, .slice none 0 0, .slice none 0 0, .slice none 0 0] 45 :: L) w := hS
              refine WL.nil ?_
              refine WC.seq ?_
              refine WC.region ?_
              refine WL.r 2 rfl ?_
              refine WL.call rfl rfl (qsize_spec (r := b2) (c := c) (a := a) (bs := bs) (p := R13.2.1) (e := R13.2.2) (most := 18446744073709551615) (hp := (by assumption)) (hl := (by assumption)) (hb := (by assumption)) (hm := (by omega)) (hS := hS)) rfl ?_
              generalize hR14 : qSize bs 18446744073709551615 R13.2.1 R13.2.2 = R14
              rintro _ w ⟨rfl, hS⟩
              have hR14f0 : R14.2.1 ≤ (List.length bs) := by rw [← hR14]; exact qSize_le (by assumption)
              have hR14f1 : (0 ≤ R14.1) ∧ (R14.1 ≤ 18446744073709551615) ∧ (R14.1 + (R14.2.1 : Int) ≤ (List.length bs)) := by rw [← hR14]; exact qSize_b (by assumption) (by omega) (by assumption)
              replace hS : St g (cel b2 #[.slice a (List.length (by8 bs)) c, .int .i64 (R14.2.1 : Int), .int .i64 R14.2.2] 88 :: Sh 5 1 (by8 bs) a c :: Own 40 2 (en2 R13.1) a1 c1 :: cel b3 #[.int .i64 R1.1, .int .u64 R2.1, .int .i64 R3.1, .bool (decide (R4.1 = 1)), .int .i64 R5.1, .int .i64 R6.1, .int .i64 R7.1, .int .i64 R8.1, .int .i64 R9.1, .int .i64 R10.1, .int .i64 R11.1, .slice a1 (List.length (en2 R13.1)) c1, .slice none 0 0, .slice none 0 0, .slice none 0 0] 45 :: cel b1 #[.int .i64 0, .int .u64 0, .int .i64 0, .bool false, .int .i64 0, .int .i64 0, .int .i64 0, .int .i64 0, .int .i64 0, .int .i64 0, .int .i64 0, .slice none 0 0, .slice none 0 0, .slice none 0 0, .slice none 0 0] 45 :: L) w := hS
              refine WL.call rfl rfl (qchanges_spec (r := b2) (c := c) (a := a) (bs := bs) (p := R14.2.1) (e := R14.2.2) (n := R14.1) (hp := (by assumption)) (hl := (by assumption)) (hb := (by assumption)) (hn := (by omega)) (hS := hS)) rfl ?_
              generalize hR15 : qChs bs R14.1.toNat R14.2.1 R14.2.2 = R15
              rintro _ w ⟨a2, c2, rfl, hS⟩
              have hR15f0 : R15.2.1 ≤ (List.length bs) := by rw [← hR15]; exact qChs_le (by assumption)
              have hR15f1 : (List.length R15.1) ≤ R14.1.toNat := by rw [← hR15]; exact (qChs_p _ _ _ (by assumption)).2
              replace hS : St g (cel b2 #[.slice a (List.length (by8 bs)) c, .int .i64 (R15.2.1 : Int), .int .i64 R15.2.2] 88 :: Sh 5 1 (by8 bs) a c :: Own 63 4 (ch4 R15.1) a2 c2 :: Own 40 2 (en2 R13.1) a1 c1 :: cel b3 #[.int .i64 R1.1, .int .u64 R2.1, .int .i64 R3.1, .bool (decide (R4.1 = 1)), .int .i64 R5.1, .int .i64 R6.1, .int .i64 R7.1, .int .i64 R8.1, .int .i64 R9.1, .int .i64 R10.1, .int .i64 R11.1, .slice a1 (List.length (en2 R13.1)) c1, .slice none 0 0, .slice none 0 0, .slice none 0 0] 45 :: cel b1 #[.int .i64 0, .int .u64 0, .int .i64 0, .bool false, .int .i64 0, .int .i64 0, .int .i64 0, .int .i64 0, .int .i64 0, .int .i64 0, .int .i64 0, .slice none 0 0, .slice none 0 0, .slice none 0 0, .slice none 0 0] 45 :: L) w := hS
              refine WL.r 1 rfl ?_
              refine WL.st rfl rfl rfl 4 hS rfl rfl rfl rfl rfl rfl (fun w hS => ?_)
              replace hS : St g (cel b2 #[.slice a (List.length (by8 bs)) c, .int .i64 (R15.2.1 : Int), .int .i64 R15.2.2] 88 :: Sh 5 1 (by8 bs) a c :: Own 63 4 (ch4 R15.1) a2 c2 :: Own 40 2 (en2 R13.1) a1 c1 :: cel b3 #[.int .i64 R1.1, .int .u64 R2.1, .int .i64 R3.1, .bool (decide (R4.1 = 1)), .int .i64 R5.1, .int .i64 R6.1, .int .i64 R7.1, .int .i64 R8.1, .int .i64 R9.1, .int .i64 R10.1, .int .i64 R11.1, .slice a1 (List.length (en2 R13.1)) c1, .slice a2 (List.length (ch4 R15.1)) c2, .slice none 0 0, .slice none 0 0] 45 :: cel b1 #[.int .i64 0, .int .u64 0, .int .i64 0, .bool false, .int .i64 0, .int .i64 0, .int .i64 0, .int .i64 0, .int .i64 0, .int .i64 0, .int .i64 0, .slice none 0 0, .slice none 0 0, .slice none 0 0, .slice none 0 0] 45 :: L) w := hS
              refine WL.nil ?_
              as_aux_lemma =>
                refine WC.seq ?_
                refine WC.seq ?_
                refine WC.region ?_
                refine WL.r 1 rfl ?_
                refine WL.call rfl rfl (qsize_spec (r := b2) (c := c) (a := a) (bs := bs) (p := R15.2.1) (e := R15.2.2) (most := 18446744073709551615) (hp := (by assumption)) (hl := (by assumption)) (hb := (by assumption)) (hm := (by omega)) (hS := hS)) rfl ?_
                generalize hR16 : qSize bs 18446744073709551615 R15.2.1 R15.2.2 = R16
                rintro _ w ⟨rfl, hS⟩
                have hR16f0 : R16.2.1 ≤ (List.length bs) := by rw [← hR16]; exact qSize_le (by assumption)
                have hR16f1 : (0 ≤ R16.1) ∧ (R16.1 ≤ 18446744073709551615) ∧ (R16.1 + (R16.2.1 : Int) ≤ (List.length bs)) := by rw [← hR16]; exact qSize_b (by assumption) (by omega) (by assumption)
                replace hS : St g (cel b2 #[.slice a (List.length (by8 bs)) c, .int .i64 (R16.2.1 : Int), .int .i64 R16.2.2] 88 :: Sh 5 1 (by8 bs) a c :: Own 63 4 (ch4 R15.1) a2 c2 :: Own 40 2 (en2 R13.1) a1 c1 :: cel b3 #[.int .i64 R1.1, .int .u64 R2.1, .int .i64 R3.1, .bool (decide (R4.1 = 1)), .int .i64 R5.1, .int .i64 R6.1, .int .i64 R7.1, .int .i64 R8.1, .int .i64 R9.1, .int .i64 R10.1, .int .i64 R11.1, .slice a1 (List.length (en2 R13.1)) c1, .slice a2 (List.length (ch4 R15.1)) c2, .slice none 0 0, .slice none 0 0] 45 :: cel b1 #[.int .i64 0, .int .u64 0, .int .i64 0, .bool false, .int .i64 0, .int .i64 0, .int .i64 0, .int .i64 0, .int .i64 0, .int .i64 0, .int .i64 0, .slice none 0 0, .slice none 0 0, .slice none 0 0, .slice none 0 0] 45 :: L) w := hS
                refine WL.r 1 rfl ?_
                refine WL.nil ?_
                refine WC.block ?_
                replace hS := hS.nil_ 2 1
                refine WC.loop [4, 5, 6, 7, 8, 9] (fun kM vs w => ∃ (n : Int) (ks : List Int) (q : Nat) (e : Int) (ak : Option Addr) (ck : Nat), vs = [.pointer (some ⟨b1, 0, none⟩), .int .i64 0, .int .i64 0, .pointer (some ⟨b2, 0, none⟩), .pointer (some ⟨b3, 0, none⟩), .int .i64 n] ∧ St g (Own 2 1 (i64s ks) ak ck :: cel b2 #[.slice a (List.length (by8 bs)) c, .int .i64 (q : Int), .int .i64 e] 88 :: Sh 5 1 (by8 bs) a c :: Own 63 4 (ch4 R15.1) a2 c2 :: Own 40 2 (en2 R13.1) a1 c1 :: cel b3 #[.int .i64 R1.1, .int .u64 R2.1, .int .i64 R3.1, .bool (decide (R4.1 = 1)), .int .i64 R5.1, .int .i64 R6.1, .int .i64 R7.1, .int .i64 R8.1, .int .i64 R9.1, .int .i64 R10.1, .int .i64 R11.1, .slice a1 (List.length (en2 R13.1)) c1, .slice a2 (List.length (ch4 R15.1)) c2, .slice ak (List.length (i64s ks)) ck, .slice none 0 0] 45 :: cel b1 #[.int .i64 0, .int .u64 0, .int .i64 0, .bool false, .int .i64 0, .int .i64 0, .int .i64 0, .int .i64 0, .int .i64 0, .int .i64 0, .int .i64 0, .slice none 0 0, .slice none 0 0, .slice none 0 0, .slice none 0 0] 45 :: L) w ∧ (0 ≤ n ∧ n + ks.length = R16.1) ∧ (q ≤ bs.length) ∧ (qInts bs R16.1.toNat R16.2.1 R16.2.2 = (ks ++ (qInts bs n.toNat q e).1, (qInts bs n.toNat q e).2)) ∧ (n.toNat) = kM) (R16.1.toNat) ⟨R16.1, [], _, _, none, 0, rfl, hS, (by simp; omega), (by assumption), (rfl), rfl⟩ ?_
                clear hS; rintro _ _ w j ⟨n, ks, q, e, ak, ck, rfl, hS, hk, hq, hr, rfl⟩
                refine WC.seq ?_
                refine WC.seq ?_
                refine WC.region ?_
                refine WL.r 2 rfl ?_
                refine WL.runG 7 [.int .i64 e] rfl (by exact (fun _ => hS.ld 1 rfl rfl)) (fun j => ?_)
                refine WL.prop 86 rfl (band (dd _) (dd _)) ?_
                refine WL.nil ?_
                refine WC.ifP rfl (fun cd2 => ?_) (fun cd2 => ?_)
                · refine WC.skip ?_
                  as_aux_lemma =>
                    refine WC.seq ?_
                    refine WC.block ?_
                    refine WC.seq ?_
                    refine WC.region ?_
                    refine WL.r 1 rfl ?_
                    refine WL.call rfl rfl (qz_spec (r := b2) (c := c) (a := a) (bs := bs) (p := q) (e := e) (hp := (by assumption)) (hl := (by assumption)) (hb := (by assumption)) (hS := (hS.sel 7 [1, 1, 0, 0, 0, 0, 0] rfl))) rfl ?_
                    generalize hR17 : qZ bs q e = R17
                    rintro _ w ⟨rfl, hS⟩
                    have hR17f0 : R17.2.1 ≤ (List.length bs) := by rw [← hR17]; exact qZ_le (by assumption)
                    replace hS : St g (cel b2 #[.slice a (List.length (by8 bs)) c, .int .i64 (R17.2.1 : Int), .int .i64 R17.2.2] 88 :: Sh 5 1 (by8 bs) a c :: Own 2 1 (i64s ks) ak ck :: Own 63 4 (ch4 R15.1) a2 c2 :: Own 40 2 (en2 R13.1) a1 c1 :: cel b3 #[.int .i64 R1.1, .int .u64 R2.1, .int .i64 R3.1, .bool (decide (R4.1 = 1)), .int .i64 R5.1, .int .i64 R6.1, .int .i64 R7.1, .int .i64 R8.1, .int .i64 R9.1, .int .i64 R10.1, .int .i64 R11.1, .slice a1 (List.length (en2 R13.1)) c1, .slice a2 (List.length (ch4 R15.1)) c2, .slice ak (List.length (i64s ks)) ck, .slice none 0 0] 45 :: cel b1 #[.int .i64 0, .int .u64 0, .int .i64 0, .bool false, .int .i64 0, .int .i64 0, .int .i64 0, .int .i64 0, .int .i64 0, .int .i64 0, .int .i64 0, .slice none 0 0, .slice none 0 0, .slice none 0 0, .slice none 0 0] 45 :: L) w := hS
                    refine WL.r 1 rfl ?_
                    refine WL.nil ?_
                    refine WC.seq ?_
                    refine WC.region ?_
                    refine WL.run 3 [.slice ak (List.length (i64s ks)) ck] rfl (by exact hS.ld 5 rfl rfl) ?_
                    refine WL.lit rfl rfl (i64s [R17.1]) el_43 hS (by exact ⟨rfl, rfl⟩) (i64s_ok _) rfl (by decide) (fun b4 w hS => ?_)
                    refine WL.app rfl rfl 3 (i64s (ks ++ [R17.1])) el_43 hS rfl (hS.srcO 0 rfl) (i64s_app _ _).symm (Rm.of (by first | omega | (simp <;> omega)) (by decide)) rfl rfl (fun a3 c3 w hS => ?_)
                    replace hS : St g (Own 2 1 (i64s [R17.1]) (some ⟨b4, 0, none⟩) (List.length (i64s [R17.1])) :: cel b2 #[.slice a (List.length (by8 bs)) c, .int .i64 (R17.2.1 : Int), .int .i64 R17.2.2] 88 :: Sh 5 1 (by8 bs) a c :: Own 2 1 (i64s (ks ++ [R17.1])) a3 c3 :: Own 63 4 (ch4 R15.1) a2 c2 :: Own 40 2 (en2 R13.1) a1 c1 :: cel b3 #[.int .i64 R1.1, .int .u64 R2.1, .int .i64 R3.1, .bool (decide (R4.1 = 1)), .int .i64 R5.1, .int .i64 R6.1, .int .i64 R7.1, .int .i64 R8.1, .int .i64 R9.1, .int .i64 R10.1, .int .i64 R11.1, .slice a1 (List.length (en2 R13.1)) c1, .slice a2 (List.length (ch4 R15.1)) c2, .slice ak (List.length (i64s ks)) ck, .slice none 0 0] 45 :: cel b1 #[.int .i64 0, .int .u64 0, .int .i64 0, .bool false, .int .i64 0, .int .i64 0, .int .i64 0, .int .i64 0, .int .i64 0, .int .i64 0, .int .i64 0, .slice none 0 0, .slice none 0 0, .slice none 0 0, .slice none 0 0] 45 :: L) w := hS
                    refine WL.r 1 rfl ?_
                    refine WL.nil ?_
                    refine WC.region ?_
                    refine WL.r 2 rfl ?_
                    refine WL.st rfl rfl rfl 6 hS rfl rfl rfl rfl rfl rfl (fun w hS => ?_)
                    replace hS : St g (Own 2 1 (i64s [R17.1]) (some ⟨b4, 0, none⟩) (List.length (i64s [R17.1])) :: cel b2 #[.slice a (List.length (by8 bs)) c, .int .i64 (R17.2.1 : Int), .int .i64 R17.2.2] 88 :: Sh 5 1 (by8 bs) a c :: Own 2 1 (i64s (ks ++ [R17.1])) a3 c3 :: Own 63 4 (ch4 R15.1) a2 c2 :: Own 40 2 (en2 R13.1) a1 c1 :: cel b3 #[.int .i64 R1.1, .int .u64 R2.1, .int .i64 R3.1, .bool (decide (R4.1 = 1)), .int .i64 R5.1, .int .i64 R6.1, .int .i64 R7.1, .int .i64 R8.1, .int .i64 R9.1, .int .i64 R10.1, .int .i64 R11.1, .slice a1 (List.length (en2 R13.1)) c1, .slice a2 (List.length (ch4 R15.1)) c2, .slice a3 (List.length (i64s (ks ++ [R17.1]))) c3, .slice none 0 0] 45 :: cel b1 #[.int .i64 0, .int .u64 0, .int .i64 0, .bool false, .int .i64 0, .int .i64 0, .int .i64 0, .int .i64 0, .int .i64 0, .int .i64 0, .int .i64 0, .slice none 0 0, .slice none 0 0, .slice none 0 0, .slice none 0 0] 45 :: L) w := hS
                    refine WL.nil ?_
                    as_aux_lemma =>
                      refine WC.region ?_
                      refine WL.r 2 rfl ?_
                      refine WL.nw 88 rfl (w64 (by omega)) ?_
                      refine WL.r 1 rfl ?_
                      refine WL.nil ?_
                      exact ⟨_, by omega, n - 1, ks ++ [R17.1], R17.2.1, R17.2.2, _, _, rfl, (hS.sel 8 [3, 1, 1, 1, 1, 1, 1] rfl), (by simp; omega), (by assumption), (by rw [hr, show n.toNat = (n - 1).toNat + 1 by omega, qInts, if_neg (by simp [cd2.2])]; subst hR17; simp), rfl⟩
                · refine WC.exit ?_
                  as_aux_lemma =>
                    refine WC.seq ?_
                    refine WC.region ?_
                    have hr2 : qInts bs R16.1.toNat R16.2.1 R16.2.2 = (ks, q, e) := by
                      rw [hr]
                      rcases Int.lt_or_le 0 n with h | h
                      · rw [qInts_0 (by omega)]; simp
                      · rw [show n.toNat = 0 by omega]; simp [qInts]
                    refine WL.r 1 rfl ?_
                    refine WL.call rfl rfl (qtext_spec (r := b2) (c := c) (a := a) (bs := bs) (p := q) (e := e) (most := 18446744073709551615) (hp := (by assumption)) (hl := (by assumption)) (hb := (by assumption)) (hm := (by omega)) (hS := (hS.sel 7 [1, 1, 0, 0, 0, 0, 0] rfl))) rfl ?_
                    generalize hR17 : qText bs 18446744073709551615 q e = R17
                    rintro _ w ⟨a3, c3, rfl, hS⟩
                    have hR17f0 : R17.2.1 ≤ (List.length bs) := by rw [← hR17]; exact qText_le (by assumption) (by omega) (by assumption)
                    have hR17f1 : B8 R17.1 := by rw [← hR17]; exact qText_B8 (by assumption)
                    replace hS : St g (cel b2 #[.slice a (List.length (by8 bs)) c, .int .i64 (R17.2.1 : Int), .int .i64 R17.2.2] 88 :: Sh 5 1 (by8 bs) a c :: Own 5 1 (by8 R17.1) a3 c3 :: Own 2 1 (i64s ks) ak ck :: Own 63 4 (ch4 R15.1) a2 c2 :: Own 40 2 (en2 R13.1) a1 c1 :: cel b3 #[.int .i64 R1.1, .int .u64 R2.1, .int .i64 R3.1, .bool (decide (R4.1 = 1)), .int .i64 R5.1, .int .i64 R6.1, .int .i64 R7.1, .int .i64 R8.1, .int .i64 R9.1, .int .i64 R10.1, .int .i64 R11.1, .slice a1 (List.length (en2 R13.1)) c1, .slice a2 (List.length (ch4 R15.1)) c2, .slice ak (List.length (i64s ks)) ck, .slice none 0 0] 45 :: cel b1 #[.int .i64 0, .int .u64 0, .int .i64 0, .bool false, .int .i64 0, .int .i64 0, .int .i64 0, .int .i64 0, .int .i64 0, .int .i64 0, .int .i64 0, .slice none 0 0, .slice none 0 0, .slice none 0 0, .slice none 0 0] 45 :: L) w := hS
                    refine WL.r 1 rfl ?_
                    refine WL.st rfl rfl rfl 6 hS rfl rfl rfl rfl rfl rfl (fun w hS => ?_)
                    replace hS : St g (cel b2 #[.slice a (List.length (by8 bs)) c, .int .i64 (R17.2.1 : Int), .int .i64 R17.2.2] 88 :: Sh 5 1 (by8 bs) a c :: Own 5 1 (by8 R17.1) a3 c3 :: Own 2 1 (i64s ks) ak ck :: Own 63 4 (ch4 R15.1) a2 c2 :: Own 40 2 (en2 R13.1) a1 c1 :: cel b3 #[.int .i64 R1.1, .int .u64 R2.1, .int .i64 R3.1, .bool (decide (R4.1 = 1)), .int .i64 R5.1, .int .i64 R6.1, .int .i64 R7.1, .int .i64 R8.1, .int .i64 R9.1, .int .i64 R10.1, .int .i64 R11.1, .slice a1 (List.length (en2 R13.1)) c1, .slice a2 (List.length (ch4 R15.1)) c2, .slice ak (List.length (i64s ks)) ck, .slice a3 (List.length (by8 R17.1)) c3] 45 :: cel b1 #[.int .i64 0, .int .u64 0, .int .i64 0, .bool false, .int .i64 0, .int .i64 0, .int .i64 0, .int .i64 0, .int .i64 0, .int .i64 0, .int .i64 0, .slice none 0 0, .slice none 0 0, .slice none 0 0, .slice none 0 0] 45 :: L) w := hS
                    refine WL.nil ?_
                    refine WC.seq ?_
                    refine WC.seq ?_
                    refine WC.region ?_
                    refine WL.run 5 [.int .i64 R17.2.2] rfl (by exact hS.ld 0 rfl rfl) ?_
                    refine WL.nil ?_
                    refine WC.ifP rfl (fun cd3 => ?_) (fun cd3 => ?_)
                    · refine WC.seq ?_
                      refine WC.plan [([1, 2, 3, 4], some (0, [1, 2, 3, 4])), ([], some (5, [1, 2, 3, 4])), ([6, 7], none)] (by kernel_rfl) (by kernel_rfl) ?_
                      refine WQ.run 4 [.int .i64 R17.2.2] rfl (by exact hS.ld 0 rfl rfl) ?_
                      refine WQ.nil ?_
                      intro m1
                      replace hS := hS.drewN m1; generalize hwm1 : World.drewN _ _ = w at *; clear hwm1
                      refine WL.build rfl rfl (cs := [.int .i64 0, .int .u64 0, .int .i64 0, .bool false, .int .i64 0, .int .i64 0, .int .i64 0, .int .i64 0, .int .i64 0, .int .i64 0, .int .i64 0, .slice none 0 0, .slice none 0 0, .slice none 0 0, .slice none 0 0]) zv_45 rfl rfl ?_
                      refine WL.nil ?_
                      refine ⟨by exact ⟨RQ.pure rfl rfl rfl rfl, RQ.pure rfl rfl rfl rfl, RQ.pure rfl rfl rfl rfl, RQ.load rfl rfl rfl rfl (hS.ld 0 rfl rfl)⟩, ?_⟩
                      refine WQ.nil ?_
                      intro m2
                      replace hS := hS.drewN m2; generalize hwm2 : World.drewN _ _ = w at *; clear hwm2
                      refine WL.stF rfl rfl rfl 7 hS rfl rfl rfl rfl rfl ag_45 (fun w hS => ?_)
                      replace hS : St g (cel b2 #[.slice a (List.length (by8 bs)) c, .int .i64 (R17.2.1 : Int), .int .i64 R17.2.2] 88 :: Sh 5 1 (by8 bs) a c :: Own 5 1 (by8 R17.1) a3 c3 :: Own 2 1 (i64s ks) ak ck :: Own 63 4 (ch4 R15.1) a2 c2 :: Own 40 2 (en2 R13.1) a1 c1 :: cel b3 #[.int .i64 R1.1, .int .u64 R2.1, .int .i64 R3.1, .bool (decide (R4.1 = 1)), .int .i64 R5.1, .int .i64 R6.1, .int .i64 R7.1, .int .i64 R8.1, .int .i64 R9.1, .int .i64 R10.1, .int .i64 R11.1, .slice a1 (List.length (en2 R13.1)) c1, .slice a2 (List.length (ch4 R15.1)) c2, .slice ak (List.length (i64s ks)) ck, .slice a3 (List.length (by8 R17.1)) c3] 45 :: cel b1 #[.int .i64 0, .int .u64 0, .int .i64 0, .bool false, .int .i64 0, .int .i64 0, .int .i64 0, .int .i64 0, .int .i64 0, .int .i64 0, .int .i64 0, .slice none 0 0, .slice none 0 0, .slice none 0 0, .slice none 0 0] 45 :: L) w := hS
                      refine WL.nil ?_
                      refine ⟨by exact ⟨RQ.pure rfl rfl rfl rfl, RQ.pure rfl rfl rfl rfl, RQ.pure rfl rfl rfl rfl, RQ.load rfl rfl rfl rfl (hS.ld 0 rfl rfl)⟩, ?_⟩
                      refine WQ.r 2 rfl ?_
                      refine WQ.nil ?_
                      intro m3
                      replace hS := hS.drewN m3; generalize hwm3 : World.drewN _ _ = w at *; clear hwm3
                      as_aux_lemma =>
                        refine WC.ret ?_
                        refine ⟨[.agg #[.int .i64 0, .int .u64 0, .int .i64 0, .bool false, .int .i64 0, .int .i64 0, .int .i64 0, .int .i64 0, .int .i64 0, .int .i64 0, .int .i64 0, .slice none 0 0, .slice none 0 0, .slice none 0 0, .slice none 0 0], .int .i64 0, .int .i64 R17.2.2], ⟨⟨_, rfl, hS.lvF 7 rfl ag_45⟩, rfl, rfl⟩, ?_⟩
                        replace hS := hS.nil_ 5 1
                        replace hS := hS.nil_ 40 2
                        replace hS := hS.nil_ 63 4
                        replace hS := hS.nil_ 2 1
                        replace hS := (hS.sel 12 [5, 3, 2, 1, 0] rfl)
                        have hA : (qAns bs q0).2.2 = R17.2.2 := by rw [qAns, hR1, qan1, hR2, qan2, hR3, qan3, hR4, qan4, hR5, qan5, hR6, qan6, hR7, qan7, hR8, qan8, hR9, qan9, hR10, qan10, hR11, qan11, hR12, qan12, hR13, qan13, hR14, qan14, hR15, qan15, hR16, qan16, hr2, qan17, hR17, qan18]
                        have hn : qNxa bs (q0 : Int) = (an0, 0, R17.2.2) := by rw [qNxa, if_neg (by omega)]; simp only [Int.toNat_natCast, hA]; rw [if_pos cd3]
                        rw [hn]; exact ⟨_, _, _, _, _, _, _, _, rfl, hS⟩
                    · refine WC.skip ?_
                      refine WC.seq ?_
                      refine WC.plan [([1, 2, 3, 4], some (0, [1, 2, 3, 4])), ([], some (5, [1, 2, 3, 4])), ([6, 7], none)] (by kernel_rfl) (by kernel_rfl) ?_
                      refine WQ.run 4 [.int .i64 (R17.2.1 : Int)] rfl (by exact hS.ld 0 rfl rfl) ?_
                      refine WQ.nil ?_
                      intro m1
                      replace hS := hS.drewN m1; generalize hwm1 : World.drewN _ _ = w at *; clear hwm1
                      refine WL.ldF rfl rfl 6 hS rfl rfl ag_45 ?_
                      refine WL.nil ?_
                      refine ⟨by exact ⟨RQ.pure rfl rfl rfl rfl, RQ.pure rfl rfl rfl rfl, RQ.pure rfl rfl rfl rfl, RQ.load rfl rfl rfl rfl (hS.ld 0 rfl rfl)⟩, ?_⟩
                      refine WQ.nil ?_
                      intro m2
                      replace hS := hS.drewN m2; generalize hwm2 : World.drewN _ _ = w at *; clear hwm2
                      refine WL.stF rfl rfl rfl 7 hS rfl rfl rfl rfl rfl ag_45 (fun w hS => ?_)
                      replace hS : St g (cel b2 #[.slice a (List.length (by8 bs)) c, .int .i64 (R17.2.1 : Int), .int .i64 R17.2.2] 88 :: Sh 5 1 (by8 bs) a c :: Own 5 1 (by8 R17.1) a3 c3 :: Own 2 1 (i64s ks) ak ck :: Own 63 4 (ch4 R15.1) a2 c2 :: Own 40 2 (en2 R13.1) a1 c1 :: cel b3 #[.int .i64 R1.1, .int .u64 R2.1, .int .i64 R3.1, .bool (decide (R4.1 = 1)), .int .i64 R5.1, .int .i64 R6.1, .int .i64 R7.1, .int .i64 R8.1, .int .i64 R9.1, .int .i64 R10.1, .int .i64 R11.1, .slice a1 (List.length (en2 R13.1)) c1, .slice a2 (List.length (ch4 R15.1)) c2, .slice ak (List.length (i64s ks)) ck, .slice a3 (List.length (by8 R17.1)) c3] 45 :: cel b1 #[.int .i64 R1.1, .int .u64 R2.1, .int .i64 R3.1, .bool (decide (R4.1 = 1)), .int .i64 R5.1, .int .i64 R6.1, .int .i64 R7.1, .int .i64 R8.1, .int .i64 R9.1, .int .i64 R10.1, .int .i64 R11.1, .slice a1 (List.length (en2 R13.1)) c1, .slice a2 (List.length (ch4 R15.1)) c2, .slice ak (List.length (i64s ks)) ck, .slice a3 (List.length (by8 R17.1)) c3] 45 :: L) w := hS
                      refine WL.nil ?_
                      refine ⟨by exact ⟨RQ.pure rfl rfl rfl rfl, RQ.pure rfl rfl rfl rfl, RQ.pure rfl rfl rfl rfl, RQ.load rfl rfl rfl rfl (hS.ld 0 rfl rfl)⟩, ?_⟩
                      refine WQ.r 2 rfl ?_
                      refine WQ.nil ?_
                      intro m3
                      replace hS := hS.drewN m3; generalize hwm3 : World.drewN _ _ = w at *; clear hwm3
                      as_aux_lemma =>
                        refine WC.ret ?_
                        refine ⟨[.agg #[.int .i64 R1.1, .int .u64 R2.1, .int .i64 R3.1, .bool (decide (R4.1 = 1)), .int .i64 R5.1, .int .i64 R6.1, .int .i64 R7.1, .int .i64 R8.1, .int .i64 R9.1, .int .i64 R10.1, .int .i64 R11.1, .slice a1 (List.length (en2 R13.1)) c1, .slice a2 (List.length (ch4 R15.1)) c2, .slice ak (List.length (i64s ks)) ck, .slice a3 (List.length (by8 R17.1)) c3], .int .i64 (R17.2.1 : Int), .int .i64 0], ⟨⟨_, rfl, hS.lvF 7 rfl ag_45⟩, rfl, rfl⟩, ?_⟩
                        replace hS := (hS.sel 8 [1, 1, 3, 2, 1] rfl)
                        have hA : qAns bs q0 = ({ err := R1.1, handle := R2.1, value := R3.1, found := decide (R4.1 = 1), n := R5.1, ekey := R6.1, eval := R7.1, count := R8.1, sum := R9.1, mn := R10.1, mx := R11.1, ents := R13.1, chs := R15.1, keys := ks, bytes := R17.1 }, R17.2) := by rw [qAns, hR1, qan1, hR2, qan2, hR3, qan3, hR4, qan4, hR5, qan5, hR6, qan6, hR7, qan7, hR8, qan8, hR9, qan9, hR10, qan10, hR11, qan11, hR12, qan12, hR13, qan13, hR14, qan14, hR15, qan15, hR16, qan16, hr2, qan17, hR17, qan18]
                        have hn : qNxa bs (q0 : Int) = ({ err := R1.1, handle := R2.1, value := R3.1, found := decide (R4.1 = 1), n := R5.1, ekey := R6.1, eval := R7.1, count := R8.1, sum := R9.1, mn := R10.1, mx := R11.1, ents := R13.1, chs := R15.1, keys := ks, bytes := R17.1 }, (R17.2.1 : Int), 0) := by rw [qNxa, if_neg (by omega)]; simp only [Int.toNat_natCast, hA]; rw [if_neg cd3]
                        rw [hn]; exact ⟨_, _, _, _, _, _, _, _, rfl, hS⟩
end Go.Proofs.Ytofnoopjlmdelaa
