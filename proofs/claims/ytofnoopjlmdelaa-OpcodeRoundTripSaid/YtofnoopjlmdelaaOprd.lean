/-
  The reader of operations.
  Conditions: sizes below a bound that the laws meet.
-/
import Derived.Test.YtofnoopjlmdelaaRd2
import Derived.Test.YtofnoopjlmdelaaFld
namespace Go.Proofs.Ytofnoopjlmdelaa
open Go Go.V




theorem field_spec {g w : World} {L : List HP} (r c : Nat) (a : Option Addr) (bs : List Int) (p : Nat) (e : Int) (o : Nat) (x : OpM) (f : Int) (ab ae ac : Option Addr) (cb ce cc : Nat) (hp : p ≤ bs.length) (hl : bs.length ≤ 1000000000) (hb : B8 bs) (hS : St g (cel r #[.slice a (List.length (by8 bs)) c, .int .i64 (p : Int), .int .i64 e] 78 :: Sh 5 1 (by8 bs) a c :: cel o #[.int .i64 x.code, .int .u64 x.a, .int .u64 x.b, .int .i64 x.key, .int .i64 x.val, .int .i64 x.lo, .int .i64 x.hi, .int .i64 x.n, .bool x.flag, .string x.name, .slice ab (List.length (by8 x.bytes)) cb, .slice ae (List.length (en2 x.ents)) ce, .slice ac (List.length (ch4 x.chs)) cc] 27 :: Own 5 1 (by8 x.bytes) ab cb :: Own 40 2 (en2 x.ents) ae ce :: Own 63 4 (ch4 x.chs) ac cc :: L) w) :
    Sp Try.prog 60 [.pointer (some ⟨r, 0, none⟩), .pointer (some ⟨o, 0, none⟩), .int .i32 f] w (fun v w' => ∃ (ab2 ae2 ac2 : Option Addr) (cb2 ce2 cc2 : Nat), v = .tuple #[] ∧ St g (cel r #[.slice a (List.length (by8 bs)) c, .int .i64 ((rField bs f x p e).2.1 : Int), .int .i64 (rField bs f x p e).2.2] 78 :: Sh 5 1 (by8 bs) a c :: cel o #[.int .i64 (rField bs f x p e).1.code, .int .u64 (rField bs f x p e).1.a, .int .u64 (rField bs f x p e).1.b, .int .i64 (rField bs f x p e).1.key, .int .i64 (rField bs f x p e).1.val, .int .i64 (rField bs f x p e).1.lo, .int .i64 (rField bs f x p e).1.hi, .int .i64 (rField bs f x p e).1.n, .bool (rField bs f x p e).1.flag, .string (rField bs f x p e).1.name, .slice ab2 (List.length (by8 (rField bs f x p e).1.bytes)) cb2, .slice ae2 (List.length (en2 (rField bs f x p e).1.ents)) ce2, .slice ac2 (List.length (ch4 (rField bs f x p e).1.chs)) cc2] 27 :: Own 5 1 (by8 (rField bs f x p e).1.bytes) ab2 cb2 :: Own 40 2 (en2 (rField bs f x p e).1.ents) ae2 ce2 :: Own 63 4 (ch4 (rField bs f x p e).1.chs) ac2 cc2 :: L) w') := by
  refine Sp.enter Try.func60 rfl (by kernel_rfl) (by kernel_rfl) ?_
  have _ := hb
  have _ := hl
  have _ := hp
  refine WC.seq ?_
  refine WC.region ?_
  refine WL.r 1 rfl ?_
  refine WL.nil ?_
  refine WC.block ?_
  refine WC.seq ?_
  refine WC.region ?_
  refine WL.r 2 rfl ?_
  refine WL.nil ?_
  refine WC.ifP rfl (fun cd1 => ?_) (fun cd1 => ?_)
  · refine WC.region ?_
    refine WL.r 2 rfl ?_
    refine WL.call rfl rfl (varint_spec (r := r) (c := c) (a := a) (bs := bs) (p := p) (e := e) (hp := (by assumption)) (hl := (by assumption)) (hb := (by assumption)) (hS := hS)) rfl ?_
    generalize hR1 : rU bs p e = R1
    rintro _ w ⟨rfl, hS⟩
    have hR1f0 : R1.2.1 ≤ (List.length bs) := by rw [← hR1]; exact rU_le (by assumption)
    replace hS : St g (cel r #[.slice a (List.length (by8 bs)) c, .int .i64 (R1.2.1 : Int), .int .i64 R1.2.2] 78 :: Sh 5 1 (by8 bs) a c :: cel o #[.int .i64 x.code, .int .u64 x.a, .int .u64 x.b, .int .i64 x.key, .int .i64 x.val, .int .i64 x.lo, .int .i64 x.hi, .int .i64 x.n, .bool x.flag, .string x.name, .slice ab (List.length (by8 x.bytes)) cb, .slice ae (List.length (en2 x.ents)) ce, .slice ac (List.length (ch4 x.chs)) cc] 27 :: Own 5 1 (by8 x.bytes) ab cb :: Own 40 2 (en2 x.ents) ae ce :: Own 63 4 (ch4 x.chs) ac cc :: L) w := hS
    refine WL.r 2 rfl ?_
    refine WL.st rfl rfl rfl 2 hS rfl rfl rfl rfl rfl rfl (fun w hS => ?_)
    replace hS : St g (cel r #[.slice a (List.length (by8 bs)) c, .int .i64 (R1.2.1 : Int), .int .i64 R1.2.2] 78 :: Sh 5 1 (by8 bs) a c :: cel o #[.int .i64 x.code, .int .u64 R1.1, .int .u64 x.b, .int .i64 x.key, .int .i64 x.val, .int .i64 x.lo, .int .i64 x.hi, .int .i64 x.n, .bool x.flag, .string x.name, .slice ab (List.length (by8 x.bytes)) cb, .slice ae (List.length (en2 x.ents)) ce, .slice ac (List.length (ch4 x.chs)) cc] 27 :: Own 5 1 (by8 x.bytes) ab cb :: Own 40 2 (en2 x.ents) ae ce :: Own 63 4 (ch4 x.chs) ac cc :: L) w := hS
    refine WL.nil ?_
    refine ⟨[], trivial, ?_⟩
    subst_vars; rw [rField_A]; exact ⟨_, _, _, _, _, _, rfl, hS⟩
  · refine WC.seq ?_
    refine WC.region ?_
    refine WL.r 2 rfl ?_
    refine WL.nil ?_
    refine WC.ifP rfl (fun cd2 => ?_) (fun cd2 => ?_)
    · refine WC.region ?_
      refine WL.r 2 rfl ?_
      refine WL.call rfl rfl (varint_spec (r := r) (c := c) (a := a) (bs := bs) (p := p) (e := e) (hp := (by assumption)) (hl := (by assumption)) (hb := (by assumption)) (hS := hS)) rfl ?_
      generalize hR1 : rU bs p e = R1
      rintro _ w ⟨rfl, hS⟩
      have hR1f0 : R1.2.1 ≤ (List.length bs) := by rw [← hR1]; exact rU_le (by assumption)
      replace hS : St g (cel r #[.slice a (List.length (by8 bs)) c, .int .i64 (R1.2.1 : Int), .int .i64 R1.2.2] 78 :: Sh 5 1 (by8 bs) a c :: cel o #[.int .i64 x.code, .int .u64 x.a, .int .u64 x.b, .int .i64 x.key, .int .i64 x.val, .int .i64 x.lo, .int .i64 x.hi, .int .i64 x.n, .bool x.flag, .string x.name, .slice ab (List.length (by8 x.bytes)) cb, .slice ae (List.length (en2 x.ents)) ce, .slice ac (List.length (ch4 x.chs)) cc] 27 :: Own 5 1 (by8 x.bytes) ab cb :: Own 40 2 (en2 x.ents) ae ce :: Own 63 4 (ch4 x.chs) ac cc :: L) w := hS
      refine WL.r 2 rfl ?_
      refine WL.st rfl rfl rfl 2 hS rfl rfl rfl rfl rfl rfl (fun w hS => ?_)
      replace hS : St g (cel r #[.slice a (List.length (by8 bs)) c, .int .i64 (R1.2.1 : Int), .int .i64 R1.2.2] 78 :: Sh 5 1 (by8 bs) a c :: cel o #[.int .i64 x.code, .int .u64 x.a, .int .u64 R1.1, .int .i64 x.key, .int .i64 x.val, .int .i64 x.lo, .int .i64 x.hi, .int .i64 x.n, .bool x.flag, .string x.name, .slice ab (List.length (by8 x.bytes)) cb, .slice ae (List.length (en2 x.ents)) ce, .slice ac (List.length (ch4 x.chs)) cc] 27 :: Own 5 1 (by8 x.bytes) ab cb :: Own 40 2 (en2 x.ents) ae ce :: Own 63 4 (ch4 x.chs) ac cc :: L) w := hS
      refine WL.nil ?_
      refine ⟨[], trivial, ?_⟩
      subst_vars; rw [rField_B]; exact ⟨_, _, _, _, _, _, rfl, hS⟩
    · refine WC.seq ?_
      refine WC.region ?_
      refine WL.r 2 rfl ?_
      refine WL.nil ?_
      refine WC.ifP rfl (fun cd3 => ?_) (fun cd3 => ?_)
      · refine WC.region ?_
        refine WL.r 2 rfl ?_
        refine WL.call rfl rfl (signed_spec (r := r) (c := c) (a := a) (bs := bs) (p := p) (e := e) (hp := (by assumption)) (hl := (by assumption)) (hb := (by assumption)) (hS := hS)) rfl ?_
        generalize hR1 : rZ bs p e = R1
        rintro _ w ⟨rfl, hS⟩
        have hR1f0 : R1.2.1 ≤ (List.length bs) := by rw [← hR1]; exact rZ_le (by assumption)
        replace hS : St g (cel r #[.slice a (List.length (by8 bs)) c, .int .i64 (R1.2.1 : Int), .int .i64 R1.2.2] 78 :: Sh 5 1 (by8 bs) a c :: cel o #[.int .i64 x.code, .int .u64 x.a, .int .u64 x.b, .int .i64 x.key, .int .i64 x.val, .int .i64 x.lo, .int .i64 x.hi, .int .i64 x.n, .bool x.flag, .string x.name, .slice ab (List.length (by8 x.bytes)) cb, .slice ae (List.length (en2 x.ents)) ce, .slice ac (List.length (ch4 x.chs)) cc] 27 :: Own 5 1 (by8 x.bytes) ab cb :: Own 40 2 (en2 x.ents) ae ce :: Own 63 4 (ch4 x.chs) ac cc :: L) w := hS
        refine WL.r 2 rfl ?_
        refine WL.st rfl rfl rfl 2 hS rfl rfl rfl rfl rfl rfl (fun w hS => ?_)
        replace hS : St g (cel r #[.slice a (List.length (by8 bs)) c, .int .i64 (R1.2.1 : Int), .int .i64 R1.2.2] 78 :: Sh 5 1 (by8 bs) a c :: cel o #[.int .i64 x.code, .int .u64 x.a, .int .u64 x.b, .int .i64 R1.1, .int .i64 x.val, .int .i64 x.lo, .int .i64 x.hi, .int .i64 x.n, .bool x.flag, .string x.name, .slice ab (List.length (by8 x.bytes)) cb, .slice ae (List.length (en2 x.ents)) ce, .slice ac (List.length (ch4 x.chs)) cc] 27 :: Own 5 1 (by8 x.bytes) ab cb :: Own 40 2 (en2 x.ents) ae ce :: Own 63 4 (ch4 x.chs) ac cc :: L) w := hS
        refine WL.nil ?_
        refine ⟨[], trivial, ?_⟩
        subst_vars; rw [rField_K]; exact ⟨_, _, _, _, _, _, rfl, hS⟩
      · refine WC.seq ?_
        refine WC.region ?_
        refine WL.r 2 rfl ?_
        refine WL.nil ?_
        as_aux_lemma =>
          refine WC.ifP rfl (fun cd4 => ?_) (fun cd4 => ?_)
          · refine WC.region ?_
            refine WL.r 2 rfl ?_
            refine WL.call rfl rfl (signed_spec (r := r) (c := c) (a := a) (bs := bs) (p := p) (e := e) (hp := (by assumption)) (hl := (by assumption)) (hb := (by assumption)) (hS := hS)) rfl ?_
            generalize hR1 : rZ bs p e = R1
            rintro _ w ⟨rfl, hS⟩
            have hR1f0 : R1.2.1 ≤ (List.length bs) := by rw [← hR1]; exact rZ_le (by assumption)
            replace hS : St g (cel r #[.slice a (List.length (by8 bs)) c, .int .i64 (R1.2.1 : Int), .int .i64 R1.2.2] 78 :: Sh 5 1 (by8 bs) a c :: cel o #[.int .i64 x.code, .int .u64 x.a, .int .u64 x.b, .int .i64 x.key, .int .i64 x.val, .int .i64 x.lo, .int .i64 x.hi, .int .i64 x.n, .bool x.flag, .string x.name, .slice ab (List.length (by8 x.bytes)) cb, .slice ae (List.length (en2 x.ents)) ce, .slice ac (List.length (ch4 x.chs)) cc] 27 :: Own 5 1 (by8 x.bytes) ab cb :: Own 40 2 (en2 x.ents) ae ce :: Own 63 4 (ch4 x.chs) ac cc :: L) w := hS
            refine WL.r 2 rfl ?_
            refine WL.st rfl rfl rfl 2 hS rfl rfl rfl rfl rfl rfl (fun w hS => ?_)
            replace hS : St g (cel r #[.slice a (List.length (by8 bs)) c, .int .i64 (R1.2.1 : Int), .int .i64 R1.2.2] 78 :: Sh 5 1 (by8 bs) a c :: cel o #[.int .i64 x.code, .int .u64 x.a, .int .u64 x.b, .int .i64 x.key, .int .i64 R1.1, .int .i64 x.lo, .int .i64 x.hi, .int .i64 x.n, .bool x.flag, .string x.name, .slice ab (List.length (by8 x.bytes)) cb, .slice ae (List.length (en2 x.ents)) ce, .slice ac (List.length (ch4 x.chs)) cc] 27 :: Own 5 1 (by8 x.bytes) ab cb :: Own 40 2 (en2 x.ents) ae ce :: Own 63 4 (ch4 x.chs) ac cc :: L) w := hS
            refine WL.nil ?_
            refine ⟨[], trivial, ?_⟩
            subst_vars; rw [rField_V]; exact ⟨_, _, _, _, _, _, rfl, hS⟩
          · refine WC.seq ?_
            refine WC.region ?_
            refine WL.r 2 rfl ?_
            refine WL.nil ?_
            refine WC.ifP rfl (fun cd5 => ?_) (fun cd5 => ?_)
            · refine WC.region ?_
              refine WL.r 2 rfl ?_
              refine WL.call rfl rfl (signed_spec (r := r) (c := c) (a := a) (bs := bs) (p := p) (e := e) (hp := (by assumption)) (hl := (by assumption)) (hb := (by assumption)) (hS := hS)) rfl ?_
              generalize hR1 : rZ bs p e = R1
              rintro _ w ⟨rfl, hS⟩
              have hR1f0 : R1.2.1 ≤ (List.length bs) := by rw [← hR1]; exact rZ_le (by assumption)
              replace hS : St g (cel r #[.slice a (List.length (by8 bs)) c, .int .i64 (R1.2.1 : Int), .int .i64 R1.2.2] 78 :: Sh 5 1 (by8 bs) a c :: cel o #[.int .i64 x.code, .int .u64 x.a, .int .u64 x.b, .int .i64 x.key, .int .i64 x.val, .int .i64 x.lo, .int .i64 x.hi, .int .i64 x.n, .bool x.flag, .string x.name, .slice ab (List.length (by8 x.bytes)) cb, .slice ae (List.length (en2 x.ents)) ce, .slice ac (List.length (ch4 x.chs)) cc] 27 :: Own 5 1 (by8 x.bytes) ab cb :: Own 40 2 (en2 x.ents) ae ce :: Own 63 4 (ch4 x.chs) ac cc :: L) w := hS
              refine WL.r 2 rfl ?_
              refine WL.st rfl rfl rfl 2 hS rfl rfl rfl rfl rfl rfl (fun w hS => ?_)
              replace hS : St g (cel r #[.slice a (List.length (by8 bs)) c, .int .i64 (R1.2.1 : Int), .int .i64 R1.2.2] 78 :: Sh 5 1 (by8 bs) a c :: cel o #[.int .i64 x.code, .int .u64 x.a, .int .u64 x.b, .int .i64 x.key, .int .i64 x.val, .int .i64 R1.1, .int .i64 x.hi, .int .i64 x.n, .bool x.flag, .string x.name, .slice ab (List.length (by8 x.bytes)) cb, .slice ae (List.length (en2 x.ents)) ce, .slice ac (List.length (ch4 x.chs)) cc] 27 :: Own 5 1 (by8 x.bytes) ab cb :: Own 40 2 (en2 x.ents) ae ce :: Own 63 4 (ch4 x.chs) ac cc :: L) w := hS
              refine WL.nil ?_
              refine ⟨[], trivial, ?_⟩
              subst_vars; rw [rField_L]; exact ⟨_, _, _, _, _, _, rfl, hS⟩
            · refine WC.seq ?_
              refine WC.region ?_
              refine WL.r 2 rfl ?_
              refine WL.nil ?_
              refine WC.ifP rfl (fun cd6 => ?_) (fun cd6 => ?_)
              · refine WC.region ?_
                refine WL.r 2 rfl ?_
                refine WL.call rfl rfl (signed_spec (r := r) (c := c) (a := a) (bs := bs) (p := p) (e := e) (hp := (by assumption)) (hl := (by assumption)) (hb := (by assumption)) (hS := hS)) rfl ?_
                generalize hR1 : rZ bs p e = R1
                rintro _ w ⟨rfl, hS⟩
                have hR1f0 : R1.2.1 ≤ (List.length bs) := by rw [← hR1]; exact rZ_le (by assumption)
                replace hS : St g (cel r #[.slice a (List.length (by8 bs)) c, .int .i64 (R1.2.1 : Int), .int .i64 R1.2.2] 78 :: Sh 5 1 (by8 bs) a c :: cel o #[.int .i64 x.code, .int .u64 x.a, .int .u64 x.b, .int .i64 x.key, .int .i64 x.val, .int .i64 x.lo, .int .i64 x.hi, .int .i64 x.n, .bool x.flag, .string x.name, .slice ab (List.length (by8 x.bytes)) cb, .slice ae (List.length (en2 x.ents)) ce, .slice ac (List.length (ch4 x.chs)) cc] 27 :: Own 5 1 (by8 x.bytes) ab cb :: Own 40 2 (en2 x.ents) ae ce :: Own 63 4 (ch4 x.chs) ac cc :: L) w := hS
                refine WL.r 2 rfl ?_
                refine WL.st rfl rfl rfl 2 hS rfl rfl rfl rfl rfl rfl (fun w hS => ?_)
                replace hS : St g (cel r #[.slice a (List.length (by8 bs)) c, .int .i64 (R1.2.1 : Int), .int .i64 R1.2.2] 78 :: Sh 5 1 (by8 bs) a c :: cel o #[.int .i64 x.code, .int .u64 x.a, .int .u64 x.b, .int .i64 x.key, .int .i64 x.val, .int .i64 x.lo, .int .i64 R1.1, .int .i64 x.n, .bool x.flag, .string x.name, .slice ab (List.length (by8 x.bytes)) cb, .slice ae (List.length (en2 x.ents)) ce, .slice ac (List.length (ch4 x.chs)) cc] 27 :: Own 5 1 (by8 x.bytes) ab cb :: Own 40 2 (en2 x.ents) ae ce :: Own 63 4 (ch4 x.chs) ac cc :: L) w := hS
                refine WL.nil ?_
                refine ⟨[], trivial, ?_⟩
                subst_vars; rw [rField_H]; exact ⟨_, _, _, _, _, _, rfl, hS⟩
              · refine WC.seq ?_
                refine WC.region ?_
                refine WL.r 2 rfl ?_
                refine WL.nil ?_
                refine WC.ifP rfl (fun cd7 => ?_) (fun cd7 => ?_)
                · refine WC.region ?_
                  refine WL.r 2 rfl ?_
                  refine WL.call rfl rfl (limited_spec (r := r) (c := c) (a := a) (bs := bs) (p := p) (e := e) (lim := 2147483647) (hp := (by assumption)) (hl := (by assumption)) (hb := (by assumption)) (hlim := (by omega)) (hS := hS)) rfl ?_
                  generalize hR1 : rLim bs 2147483647 p e = R1
                  rintro _ w ⟨rfl, hS⟩
                  have hR1f0 : R1.2.1 ≤ (List.length bs) := by rw [← hR1]; exact rLim_le (by assumption)
                  have hR1f1 : (0 ≤ R1.1) ∧ (R1.1 ≤ 2147483647) := by rw [← hR1]; exact rLim_b (by assumption) (by omega)
                  replace hS : St g (cel r #[.slice a (List.length (by8 bs)) c, .int .i64 (R1.2.1 : Int), .int .i64 R1.2.2] 78 :: Sh 5 1 (by8 bs) a c :: cel o #[.int .i64 x.code, .int .u64 x.a, .int .u64 x.b, .int .i64 x.key, .int .i64 x.val, .int .i64 x.lo, .int .i64 x.hi, .int .i64 x.n, .bool x.flag, .string x.name, .slice ab (List.length (by8 x.bytes)) cb, .slice ae (List.length (en2 x.ents)) ce, .slice ac (List.length (ch4 x.chs)) cc] 27 :: Own 5 1 (by8 x.bytes) ab cb :: Own 40 2 (en2 x.ents) ae ce :: Own 63 4 (ch4 x.chs) ac cc :: L) w := hS
                  refine WL.r 2 rfl ?_
                  refine WL.st rfl rfl rfl 2 hS rfl rfl rfl rfl rfl rfl (fun w hS => ?_)
                  replace hS : St g (cel r #[.slice a (List.length (by8 bs)) c, .int .i64 (R1.2.1 : Int), .int .i64 R1.2.2] 78 :: Sh 5 1 (by8 bs) a c :: cel o #[.int .i64 x.code, .int .u64 x.a, .int .u64 x.b, .int .i64 x.key, .int .i64 x.val, .int .i64 x.lo, .int .i64 x.hi, .int .i64 R1.1, .bool x.flag, .string x.name, .slice ab (List.length (by8 x.bytes)) cb, .slice ae (List.length (en2 x.ents)) ce, .slice ac (List.length (ch4 x.chs)) cc] 27 :: Own 5 1 (by8 x.bytes) ab cb :: Own 40 2 (en2 x.ents) ae ce :: Own 63 4 (ch4 x.chs) ac cc :: L) w := hS
                  refine WL.nil ?_
                  refine ⟨[], trivial, ?_⟩
                  subst_vars; rw [rField_N]; exact ⟨_, _, _, _, _, _, rfl, hS⟩
                · refine WC.seq ?_
                  refine WC.region ?_
                  refine WL.r 2 rfl ?_
                  refine WL.nil ?_
                  refine WC.ifP rfl (fun cd8 => ?_) (fun cd8 => ?_)
                  · refine WC.region ?_
                    refine WL.r 2 rfl ?_
                    refine WL.call rfl rfl (bool_spec (r := r) (c := c) (a := a) (bs := bs) (p := p) (e := e) (hp := (by assumption)) (hl := (by assumption)) (hb := (by assumption)) (hS := hS)) rfl ?_
                    generalize hR1 : rBool bs p e = R1
                    rintro _ w ⟨rfl, hS⟩
                    have hR1f0 : R1.2.1 ≤ (List.length bs) := by rw [← hR1]; exact rBool_le (by assumption)
                    replace hS : St g (cel r #[.slice a (List.length (by8 bs)) c, .int .i64 (R1.2.1 : Int), .int .i64 R1.2.2] 78 :: Sh 5 1 (by8 bs) a c :: cel o #[.int .i64 x.code, .int .u64 x.a, .int .u64 x.b, .int .i64 x.key, .int .i64 x.val, .int .i64 x.lo, .int .i64 x.hi, .int .i64 x.n, .bool x.flag, .string x.name, .slice ab (List.length (by8 x.bytes)) cb, .slice ae (List.length (en2 x.ents)) ce, .slice ac (List.length (ch4 x.chs)) cc] 27 :: Own 5 1 (by8 x.bytes) ab cb :: Own 40 2 (en2 x.ents) ae ce :: Own 63 4 (ch4 x.chs) ac cc :: L) w := hS
                    refine WL.r 2 rfl ?_
                    refine WL.st rfl rfl rfl 2 hS rfl rfl rfl rfl rfl rfl (fun w hS => ?_)
                    replace hS : St g (cel r #[.slice a (List.length (by8 bs)) c, .int .i64 (R1.2.1 : Int), .int .i64 R1.2.2] 78 :: Sh 5 1 (by8 bs) a c :: cel o #[.int .i64 x.code, .int .u64 x.a, .int .u64 x.b, .int .i64 x.key, .int .i64 x.val, .int .i64 x.lo, .int .i64 x.hi, .int .i64 x.n, .bool R1.1, .string x.name, .slice ab (List.length (by8 x.bytes)) cb, .slice ae (List.length (en2 x.ents)) ce, .slice ac (List.length (ch4 x.chs)) cc] 27 :: Own 5 1 (by8 x.bytes) ab cb :: Own 40 2 (en2 x.ents) ae ce :: Own 63 4 (ch4 x.chs) ac cc :: L) w := hS
                    refine WL.nil ?_
                    refine ⟨[], trivial, ?_⟩
                    subst_vars; rw [rField_F]; exact ⟨_, _, _, _, _, _, rfl, hS⟩
                  · refine WC.seq ?_
                    refine WC.region ?_
                    refine WL.r 2 rfl ?_
                    refine WL.nil ?_
                    as_aux_lemma =>
                      refine WC.ifP rfl (fun cd9 => ?_) (fun cd9 => ?_)
                      · refine WC.region ?_
                        refine WL.r 3 rfl ?_
                        refine WL.call rfl rfl (limited_spec (r := r) (c := c) (a := a) (bs := bs) (p := p) (e := e) (lim := 32) (hp := (by assumption)) (hl := (by assumption)) (hb := (by assumption)) (hlim := (by omega)) (hS := hS)) rfl ?_
                        generalize hR1 : rLim bs 32 p e = R1
                        rintro _ w ⟨rfl, hS⟩
                        have hR1f0 : R1.2.1 ≤ (List.length bs) := by rw [← hR1]; exact rLim_le (by assumption)
                        have hR1f1 : (0 ≤ R1.1) ∧ (R1.1 ≤ 32) := by rw [← hR1]; exact rLim_b (by assumption) (by omega)
                        replace hS : St g (cel r #[.slice a (List.length (by8 bs)) c, .int .i64 (R1.2.1 : Int), .int .i64 R1.2.2] 78 :: Sh 5 1 (by8 bs) a c :: cel o #[.int .i64 x.code, .int .u64 x.a, .int .u64 x.b, .int .i64 x.key, .int .i64 x.val, .int .i64 x.lo, .int .i64 x.hi, .int .i64 x.n, .bool x.flag, .string x.name, .slice ab (List.length (by8 x.bytes)) cb, .slice ae (List.length (en2 x.ents)) ce, .slice ac (List.length (ch4 x.chs)) cc] 27 :: Own 5 1 (by8 x.bytes) ab cb :: Own 40 2 (en2 x.ents) ae ce :: Own 63 4 (ch4 x.chs) ac cc :: L) w := hS
                        refine WL.call rfl rfl (bytes_spec (r := r) (c := c) (a := a) (bs := bs) (p := R1.2.1) (e := R1.2.2) (n := R1.1) (hp := (by assumption)) (hl := (by assumption)) (hb := (by assumption)) (hn := (by omega)) (hS := hS)) rfl ?_
                        generalize hR2 : rBytes bs R1.1.toNat R1.2.1 R1.2.2 = R2
                        rintro _ w ⟨a1, c1, rfl, hS⟩
                        have hR2f0 : R2.2.1 ≤ (List.length bs) := by rw [← hR2]; exact rBytes_le (by assumption)
                        have hR2f1 : (List.length R2.1) ≤ (List.length bs) := by rw [← hR2]; exact rBytes_len
                        have hR2f2 : B8 R2.1 := by rw [← hR2]; exact rBytes_B8 (by assumption)
                        replace hS : St g (cel r #[.slice a (List.length (by8 bs)) c, .int .i64 (R2.2.1 : Int), .int .i64 R2.2.2] 78 :: Sh 5 1 (by8 bs) a c :: Own 5 1 (by8 R2.1) a1 c1 :: cel o #[.int .i64 x.code, .int .u64 x.a, .int .u64 x.b, .int .i64 x.key, .int .i64 x.val, .int .i64 x.lo, .int .i64 x.hi, .int .i64 x.n, .bool x.flag, .string x.name, .slice ab (List.length (by8 x.bytes)) cb, .slice ae (List.length (en2 x.ents)) ce, .slice ac (List.length (ch4 x.chs)) cc] 27 :: Own 5 1 (by8 x.bytes) ab cb :: Own 40 2 (en2 x.ents) ae ce :: Own 63 4 (ch4 x.chs) ac cc :: L) w := hS
                        refine WL.reb 69 (.slice a1 R2.1.length c1) (congrArg (fun m => Value.slice a1 m c1) (by8_len R2.1)) ?_
                        refine WL.toS rfl rfl Try.underlying23 Try.underlying9 Try.underlying5 (hS.srcO 2 rfl) (by assumption) rfl ?_
                        refine WL.r 2 rfl ?_
                        refine WL.st rfl rfl rfl 3 hS rfl rfl rfl rfl rfl rfl (fun w hS => ?_)
                        replace hS : St g (cel r #[.slice a (List.length (by8 bs)) c, .int .i64 (R2.2.1 : Int), .int .i64 R2.2.2] 78 :: Sh 5 1 (by8 bs) a c :: Own 5 1 (by8 R2.1) a1 c1 :: cel o #[.int .i64 x.code, .int .u64 x.a, .int .u64 x.b, .int .i64 x.key, .int .i64 x.val, .int .i64 x.lo, .int .i64 x.hi, .int .i64 x.n, .bool x.flag, .string (mkS R2.1), .slice ab (List.length (by8 x.bytes)) cb, .slice ae (List.length (en2 x.ents)) ce, .slice ac (List.length (ch4 x.chs)) cc] 27 :: Own 5 1 (by8 x.bytes) ab cb :: Own 40 2 (en2 x.ents) ae ce :: Own 63 4 (ch4 x.chs) ac cc :: L) w := hS
                        refine WL.nil ?_
                        refine ⟨[], trivial, ?_⟩
                        replace hS := (hS.sel 7 [0, 0, 1, 1, 1, 1] rfl)
                        subst_vars; rw [rField_S]; exact ⟨_, _, _, _, _, _, rfl, hS⟩
                      · refine WC.seq ?_
                        refine WC.region ?_
                        refine WL.r 2 rfl ?_
                        refine WL.nil ?_
                        refine WC.ifP rfl (fun cd10 => ?_) (fun cd10 => ?_)
                        · refine WC.region ?_
                          refine WL.r 3 rfl ?_
                          refine WL.call rfl rfl (limited_spec (r := r) (c := c) (a := a) (bs := bs) (p := p) (e := e) (lim := 65536) (hp := (by assumption)) (hl := (by assumption)) (hb := (by assumption)) (hlim := (by omega)) (hS := hS)) rfl ?_
                          generalize hR1 : rLim bs 65536 p e = R1
                          rintro _ w ⟨rfl, hS⟩
                          have hR1f0 : R1.2.1 ≤ (List.length bs) := by rw [← hR1]; exact rLim_le (by assumption)
                          have hR1f1 : (0 ≤ R1.1) ∧ (R1.1 ≤ 65536) := by rw [← hR1]; exact rLim_b (by assumption) (by omega)
                          replace hS : St g (cel r #[.slice a (List.length (by8 bs)) c, .int .i64 (R1.2.1 : Int), .int .i64 R1.2.2] 78 :: Sh 5 1 (by8 bs) a c :: cel o #[.int .i64 x.code, .int .u64 x.a, .int .u64 x.b, .int .i64 x.key, .int .i64 x.val, .int .i64 x.lo, .int .i64 x.hi, .int .i64 x.n, .bool x.flag, .string x.name, .slice ab (List.length (by8 x.bytes)) cb, .slice ae (List.length (en2 x.ents)) ce, .slice ac (List.length (ch4 x.chs)) cc] 27 :: Own 5 1 (by8 x.bytes) ab cb :: Own 40 2 (en2 x.ents) ae ce :: Own 63 4 (ch4 x.chs) ac cc :: L) w := hS
                          refine WL.call rfl rfl (bytes_spec (r := r) (c := c) (a := a) (bs := bs) (p := R1.2.1) (e := R1.2.2) (n := R1.1) (hp := (by assumption)) (hl := (by assumption)) (hb := (by assumption)) (hn := (by omega)) (hS := hS)) rfl ?_
                          generalize hR2 : rBytes bs R1.1.toNat R1.2.1 R1.2.2 = R2
                          rintro _ w ⟨a1, c1, rfl, hS⟩
                          have hR2f0 : R2.2.1 ≤ (List.length bs) := by rw [← hR2]; exact rBytes_le (by assumption)
                          have hR2f1 : (List.length R2.1) ≤ (List.length bs) := by rw [← hR2]; exact rBytes_len
                          have hR2f2 : B8 R2.1 := by rw [← hR2]; exact rBytes_B8 (by assumption)
                          replace hS : St g (cel r #[.slice a (List.length (by8 bs)) c, .int .i64 (R2.2.1 : Int), .int .i64 R2.2.2] 78 :: Sh 5 1 (by8 bs) a c :: Own 5 1 (by8 R2.1) a1 c1 :: cel o #[.int .i64 x.code, .int .u64 x.a, .int .u64 x.b, .int .i64 x.key, .int .i64 x.val, .int .i64 x.lo, .int .i64 x.hi, .int .i64 x.n, .bool x.flag, .string x.name, .slice ab (List.length (by8 x.bytes)) cb, .slice ae (List.length (en2 x.ents)) ce, .slice ac (List.length (ch4 x.chs)) cc] 27 :: Own 5 1 (by8 x.bytes) ab cb :: Own 40 2 (en2 x.ents) ae ce :: Own 63 4 (ch4 x.chs) ac cc :: L) w := hS
                          refine WL.r 2 rfl ?_
                          refine WL.st rfl rfl rfl 3 hS rfl rfl rfl rfl rfl rfl (fun w hS => ?_)
                          replace hS : St g (cel r #[.slice a (List.length (by8 bs)) c, .int .i64 (R2.2.1 : Int), .int .i64 R2.2.2] 78 :: Sh 5 1 (by8 bs) a c :: Own 5 1 (by8 R2.1) a1 c1 :: cel o #[.int .i64 x.code, .int .u64 x.a, .int .u64 x.b, .int .i64 x.key, .int .i64 x.val, .int .i64 x.lo, .int .i64 x.hi, .int .i64 x.n, .bool x.flag, .string x.name, .slice a1 (List.length (by8 R2.1)) c1, .slice ae (List.length (en2 x.ents)) ce, .slice ac (List.length (ch4 x.chs)) cc] 27 :: Own 5 1 (by8 x.bytes) ab cb :: Own 40 2 (en2 x.ents) ae ce :: Own 63 4 (ch4 x.chs) ac cc :: L) w := hS
                          refine WL.nil ?_
                          refine ⟨[], trivial, ?_⟩
                          replace hS := (hS.sel 7 [0, 0, 1, 0, 1, 1] rfl)
                          subst_vars; rw [rField_Y]; exact ⟨_, _, _, _, _, _, rfl, hS⟩
                        · refine WC.seq ?_
                          refine WC.region ?_
                          refine WL.r 2 rfl ?_
                          refine WL.nil ?_
                          refine WC.ifP rfl (fun cd11 => ?_) (fun cd11 => ?_)
                          · refine WC.region ?_
                            refine WL.r 3 rfl ?_
                            refine WL.call rfl rfl (elements_spec (r := r) (c := c) (a := a) (bs := bs) (p := p) (e := e) (lim := 1000) (hp := (by assumption)) (hl := (by assumption)) (hb := (by assumption)) (hlim := (by omega)) (hS := hS)) rfl ?_
                            generalize hR1 : rEl bs 1000 p e = R1
                            rintro _ w ⟨rfl, hS⟩
                            have hR1f0 : R1.2.1 ≤ (List.length bs) := by rw [← hR1]; exact rEl_le (by assumption)
                            have hR1f1 : (0 ≤ R1.1) ∧ (R1.1 + (R1.2.1 : Int) ≤ (List.length bs)) := by rw [← hR1]; exact rEl_b (by assumption) (by assumption) (by omega)
                            replace hS : St g (cel r #[.slice a (List.length (by8 bs)) c, .int .i64 (R1.2.1 : Int), .int .i64 R1.2.2] 78 :: Sh 5 1 (by8 bs) a c :: cel o #[.int .i64 x.code, .int .u64 x.a, .int .u64 x.b, .int .i64 x.key, .int .i64 x.val, .int .i64 x.lo, .int .i64 x.hi, .int .i64 x.n, .bool x.flag, .string x.name, .slice ab (List.length (by8 x.bytes)) cb, .slice ae (List.length (en2 x.ents)) ce, .slice ac (List.length (ch4 x.chs)) cc] 27 :: Own 5 1 (by8 x.bytes) ab cb :: Own 40 2 (en2 x.ents) ae ce :: Own 63 4 (ch4 x.chs) ac cc :: L) w := hS
                            refine WL.call rfl rfl (entries_spec (r := r) (c := c) (a := a) (bs := bs) (p := R1.2.1) (e := R1.2.2) (n := R1.1) (hp := (by assumption)) (hl := (by assumption)) (hb := (by assumption)) (hn := (by omega)) (hS := hS)) rfl ?_
                            generalize hR2 : rEnts bs R1.1.toNat R1.2.1 R1.2.2 = R2
                            rintro _ w ⟨a1, c1, rfl, hS⟩
                            have hR2f0 : R2.2.1 ≤ (List.length bs) := by rw [← hR2]; exact rEnts_le (by assumption)
                            have hR2f1 : (List.length R2.1) ≤ R1.1.toNat := by rw [← hR2]; exact (rEnts_p _ _ _ (by assumption)).2
                            replace hS : St g (cel r #[.slice a (List.length (by8 bs)) c, .int .i64 (R2.2.1 : Int), .int .i64 R2.2.2] 78 :: Sh 5 1 (by8 bs) a c :: Own 40 2 (en2 R2.1) a1 c1 :: cel o #[.int .i64 x.code, .int .u64 x.a, .int .u64 x.b, .int .i64 x.key, .int .i64 x.val, .int .i64 x.lo, .int .i64 x.hi, .int .i64 x.n, .bool x.flag, .string x.name, .slice ab (List.length (by8 x.bytes)) cb, .slice ae (List.length (en2 x.ents)) ce, .slice ac (List.length (ch4 x.chs)) cc] 27 :: Own 5 1 (by8 x.bytes) ab cb :: Own 40 2 (en2 x.ents) ae ce :: Own 63 4 (ch4 x.chs) ac cc :: L) w := hS
                            refine WL.r 2 rfl ?_
                            refine WL.st rfl rfl rfl 3 hS rfl rfl rfl rfl rfl rfl (fun w hS => ?_)
                            replace hS : St g (cel r #[.slice a (List.length (by8 bs)) c, .int .i64 (R2.2.1 : Int), .int .i64 R2.2.2] 78 :: Sh 5 1 (by8 bs) a c :: Own 40 2 (en2 R2.1) a1 c1 :: cel o #[.int .i64 x.code, .int .u64 x.a, .int .u64 x.b, .int .i64 x.key, .int .i64 x.val, .int .i64 x.lo, .int .i64 x.hi, .int .i64 x.n, .bool x.flag, .string x.name, .slice ab (List.length (by8 x.bytes)) cb, .slice a1 (List.length (en2 R2.1)) c1, .slice ac (List.length (ch4 x.chs)) cc] 27 :: Own 5 1 (by8 x.bytes) ab cb :: Own 40 2 (en2 x.ents) ae ce :: Own 63 4 (ch4 x.chs) ac cc :: L) w := hS
                            refine WL.nil ?_
                            refine ⟨[], trivial, ?_⟩
                            replace hS := (hS.sel 7 [0, 0, 1, 1, 0, 1] rfl)
                            subst_vars; rw [rField_E]; exact ⟨_, _, _, _, _, _, rfl, hS⟩
                          · refine WC.seq ?_
                            refine WC.region ?_
                            refine WL.r 2 rfl ?_
                            refine WL.nil ?_
                            refine WC.ifP rfl (fun cd12 => ?_) (fun cd12 => ?_)
                            · refine WC.region ?_
                              refine WL.r 3 rfl ?_
                              refine WL.call rfl rfl (elements_spec (r := r) (c := c) (a := a) (bs := bs) (p := p) (e := e) (lim := 1000) (hp := (by assumption)) (hl := (by assumption)) (hb := (by assumption)) (hlim := (by omega)) (hS := hS)) rfl ?_
                              generalize hR1 : rEl bs 1000 p e = R1
                              rintro _ w ⟨rfl, hS⟩
                              have hR1f0 : R1.2.1 ≤ (List.length bs) := by rw [← hR1]; exact rEl_le (by assumption)
                              have hR1f1 : (0 ≤ R1.1) ∧ (R1.1 + (R1.2.1 : Int) ≤ (List.length bs)) := by rw [← hR1]; exact rEl_b (by assumption) (by assumption) (by omega)
                              replace hS : St g (cel r #[.slice a (List.length (by8 bs)) c, .int .i64 (R1.2.1 : Int), .int .i64 R1.2.2] 78 :: Sh 5 1 (by8 bs) a c :: cel o #[.int .i64 x.code, .int .u64 x.a, .int .u64 x.b, .int .i64 x.key, .int .i64 x.val, .int .i64 x.lo, .int .i64 x.hi, .int .i64 x.n, .bool x.flag, .string x.name, .slice ab (List.length (by8 x.bytes)) cb, .slice ae (List.length (en2 x.ents)) ce, .slice ac (List.length (ch4 x.chs)) cc] 27 :: Own 5 1 (by8 x.bytes) ab cb :: Own 40 2 (en2 x.ents) ae ce :: Own 63 4 (ch4 x.chs) ac cc :: L) w := hS
                              refine WL.call rfl rfl (changes_spec (r := r) (c := c) (a := a) (bs := bs) (p := R1.2.1) (e := R1.2.2) (n := R1.1) (hp := (by assumption)) (hl := (by assumption)) (hb := (by assumption)) (hn := (by omega)) (hS := hS)) rfl ?_
                              generalize hR2 : rChs bs R1.1.toNat R1.2.1 R1.2.2 = R2
                              rintro _ w ⟨a1, c1, rfl, hS⟩
                              have hR2f0 : R2.2.1 ≤ (List.length bs) := by rw [← hR2]; exact rChs_le (by assumption)
                              have hR2f1 : (List.length R2.1) ≤ R1.1.toNat := by rw [← hR2]; exact (rChs_p _ _ _ (by assumption)).2
                              replace hS : St g (cel r #[.slice a (List.length (by8 bs)) c, .int .i64 (R2.2.1 : Int), .int .i64 R2.2.2] 78 :: Sh 5 1 (by8 bs) a c :: Own 63 4 (ch4 R2.1) a1 c1 :: cel o #[.int .i64 x.code, .int .u64 x.a, .int .u64 x.b, .int .i64 x.key, .int .i64 x.val, .int .i64 x.lo, .int .i64 x.hi, .int .i64 x.n, .bool x.flag, .string x.name, .slice ab (List.length (by8 x.bytes)) cb, .slice ae (List.length (en2 x.ents)) ce, .slice ac (List.length (ch4 x.chs)) cc] 27 :: Own 5 1 (by8 x.bytes) ab cb :: Own 40 2 (en2 x.ents) ae ce :: Own 63 4 (ch4 x.chs) ac cc :: L) w := hS
                              refine WL.r 2 rfl ?_
                              refine WL.st rfl rfl rfl 3 hS rfl rfl rfl rfl rfl rfl (fun w hS => ?_)
                              replace hS : St g (cel r #[.slice a (List.length (by8 bs)) c, .int .i64 (R2.2.1 : Int), .int .i64 R2.2.2] 78 :: Sh 5 1 (by8 bs) a c :: Own 63 4 (ch4 R2.1) a1 c1 :: cel o #[.int .i64 x.code, .int .u64 x.a, .int .u64 x.b, .int .i64 x.key, .int .i64 x.val, .int .i64 x.lo, .int .i64 x.hi, .int .i64 x.n, .bool x.flag, .string x.name, .slice ab (List.length (by8 x.bytes)) cb, .slice ae (List.length (en2 x.ents)) ce, .slice a1 (List.length (ch4 R2.1)) c1] 27 :: Own 5 1 (by8 x.bytes) ab cb :: Own 40 2 (en2 x.ents) ae ce :: Own 63 4 (ch4 x.chs) ac cc :: L) w := hS
                              refine WL.nil ?_
                              refine ⟨[], trivial, ?_⟩
                              replace hS := (hS.sel 7 [0, 0, 1, 1, 1, 0] rfl)
                              subst_vars; rw [rField_C]; exact ⟨_, _, _, _, _, _, rfl, hS⟩
                            · refine WC.skip ?_
                              refine ⟨[], trivial, ?_⟩
                              rw [rField_no (by unfold Ltr; omega)]; exact ⟨_, _, _, _, _, _, rfl, hS⟩
end Go.Proofs.Ytofnoopjlmdelaa
