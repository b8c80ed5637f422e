/-
  The reader of operations: Next.
  Conditions: sizes below a bound that the laws meet.
-/
import Derived.Test.YtofnoopjlmdelaaOprd
namespace Go.Proofs.Ytofnoopjlmdelaa
open Go Go.V





theorem next_spec {g w : World} {L : List HP} (a : Option Addr) (c : Nat) (bs : List Int) (p : Int) (hl : bs.length ≤ 1000000000) (hb : B8 bs) (hS : St g (Sh 5 1 (by8 bs) a c :: L) w) :
    Sp Try.prog 24 [.slice a (List.length (by8 bs)) c, .int .i64 p] w (fun v w' => ∃ (ab ae ac : Option Addr) (cb ce cc : Nat), v = .tuple #[.agg #[.int .i64 (rNx bs p).1.code, .int .u64 (rNx bs p).1.a, .int .u64 (rNx bs p).1.b, .int .i64 (rNx bs p).1.key, .int .i64 (rNx bs p).1.val, .int .i64 (rNx bs p).1.lo, .int .i64 (rNx bs p).1.hi, .int .i64 (rNx bs p).1.n, .bool (rNx bs p).1.flag, .string (rNx bs p).1.name, .slice ab (List.length (by8 (rNx bs p).1.bytes)) cb, .slice ae (List.length (en2 (rNx bs p).1.ents)) ce, .slice ac (List.length (ch4 (rNx bs p).1.chs)) cc], .int .i64 (rNx bs p).2.1, .int .i64 (rNx bs p).2.2] ∧ St g (Sh 5 1 (by8 bs) a c :: Own 5 1 (by8 (rNx bs p).1.bytes) ab cb :: Own 40 2 (en2 (rNx bs p).1.ents) ae ce :: Own 63 4 (ch4 (rNx bs p).1.chs) ac cc :: L) w') := by
  refine Sp.enter Try.func24 rfl (by kernel_rfl) (by kernel_rfl) ?_
  have _ := hb
  have _ := hl
  refine WC.seq ?_
  refine WC.region ?_
  refine WL.new rfl rfl zv_27 hS (fun b1 w hS => ?_)
  refine WL.r 2 rfl ?_
  refine WL.nil ?_
  refine WC.seq ?_
  refine WC.seq ?_
  refine WC.region ?_
  refine WL.r 2 rfl ?_
  refine WL.rG 6 rfl (fun j => ?_)
  refine WL.prop 20 rfl (bor (dd _) (dd _)) ?_
  refine WL.nil ?_
  refine WC.ifP rfl (fun cd1 => ?_) (fun cd1 => ?_)
  · refine WC.seq ?_
    refine WC.region ?_
    have hl8 := by8_len bs
    refine WL.build rfl rfl (cs := [.int .i64 0, .int .u64 0, .int .u64 0, .int .i64 0, .int .i64 0, .int .i64 0, .int .i64 0, .int .i64 0, .bool false, .string ⟨#[]⟩, .slice none 0 0, .slice none 0 0, .slice none 0 0]) zv_27 rfl rfl ?_
    refine WL.stF rfl rfl rfl 0 hS rfl rfl rfl rfl rfl ag_27 (fun w hS => ?_)
    replace hS : St g (cel b1 #[.int .i64 0, .int .u64 0, .int .u64 0, .int .i64 0, .int .i64 0, .int .i64 0, .int .i64 0, .int .i64 0, .bool false, .string ⟨#[]⟩, .slice none 0 0, .slice none 0 0, .slice none 0 0] 27 :: Sh 5 1 (by8 bs) a c :: L) w := hS
    refine WL.r 2 rfl ?_
    refine WL.nil ?_
    refine WC.ret ?_
    refine ⟨[.agg #[.int .i64 0, .int .u64 0, .int .u64 0, .int .i64 0, .int .i64 0, .int .i64 0, .int .i64 0, .int .i64 0, .bool false, .string ⟨#[]⟩, .slice none 0 0, .slice none 0 0, .slice none 0 0], .int .i64 0, .int .i64 1], ⟨⟨_, rfl, hS.lvF 0 rfl ag_27⟩, rfl, rfl⟩, ?_⟩
    replace hS := hS.nil_ 5 1
    replace hS := hS.nil_ 40 2
    replace hS := hS.nil_ 63 4
    replace hS := (hS.sel 5 [4, 2, 1, 0] rfl)
    rw [by8_len] at cd1; rw [rNx, if_pos cd1]; exact ⟨_, _, _, _, _, _, rfl, hS⟩
  · refine WC.skip ?_
    refine WC.seq ?_
    refine WC.region ?_
    obtain ⟨q0, rfl⟩ : ∃ q : Nat, p = q := ⟨p.toNat, by omega⟩; have hl8 := by8_len bs; have hp : q0 ≤ bs.length := by omega
    refine WL.r 2 rfl ?_
    refine WL.build rfl rfl (cs := [.slice a (List.length (by8 bs)) c, .int .i64 (q0 : Int), .int .i64 0]) zv_78 rfl rfl ?_
    refine WL.box rfl rfl #[.slice a (List.length (by8 bs)) c, .int .i64 (q0 : Int), .int .i64 0] hS rfl rfl (fun b2 w hS => ?_)
    refine WL.r 1 rfl ?_
    refine WL.nil ?_
    refine WC.seq ?_
    refine WC.region ?_
    refine WL.r 1 rfl ?_
    refine WL.call rfl rfl (byte_spec (r := b2) (c := c) (a := a) (bs := bs) (p := q0) (e := 0) (hp := (by assumption)) (hl := (by assumption)) (hb := (by assumption)) (hS := (hS.sel 3 [0, 1, 0] rfl))) rfl ?_
    generalize hR1 : rB bs q0 0 = R1
    rintro _ w ⟨rfl, hS⟩
    have hR1f0 : R1.2.1 ≤ (List.length bs) := by rw [← hR1]; exact rB_le (by assumption)
    have hR1f1 : (0 ≤ R1.1) ∧ (R1.1 ≤ 255) := by rw [← hR1]; exact rB_b (by assumption)
    replace hS : St g (cel b2 #[.slice a (List.length (by8 bs)) c, .int .i64 (R1.2.1 : Int), .int .i64 R1.2.2] 78 :: Sh 5 1 (by8 bs) a c :: cel b1 #[.int .i64 0, .int .u64 0, .int .u64 0, .int .i64 0, .int .i64 0, .int .i64 0, .int .i64 0, .int .i64 0, .bool false, .string ⟨#[]⟩, .slice none 0 0, .slice none 0 0, .slice none 0 0] 27 :: L) w := hS
    refine WL.r 1 rfl ?_
    refine WL.nw 28 rfl (w64 (by omega)) ?_
    refine WL.build rfl rfl (cs := [.int .i64 R1.1, .int .u64 0, .int .u64 0, .int .i64 0, .int .i64 0, .int .i64 0, .int .i64 0, .int .i64 0, .bool false, .string ⟨#[]⟩, .slice none 0 0, .slice none 0 0, .slice none 0 0]) zv_27 rfl rfl ?_
    refine WL.new rfl rfl zv_27 hS (fun b3 w hS => ?_)
    refine WL.stF rfl rfl rfl 0 hS rfl rfl rfl rfl rfl ag_27 (fun w hS => ?_)
    replace hS : St g (cel b3 #[.int .i64 R1.1, .int .u64 0, .int .u64 0, .int .i64 0, .int .i64 0, .int .i64 0, .int .i64 0, .int .i64 0, .bool false, .string ⟨#[]⟩, .slice none 0 0, .slice none 0 0, .slice none 0 0] 27 :: cel b2 #[.slice a (List.length (by8 bs)) c, .int .i64 (R1.2.1 : Int), .int .i64 R1.2.2] 78 :: Sh 5 1 (by8 bs) a c :: cel b1 #[.int .i64 0, .int .u64 0, .int .u64 0, .int .i64 0, .int .i64 0, .int .i64 0, .int .i64 0, .int .i64 0, .bool false, .string ⟨#[]⟩, .slice none 0 0, .slice none 0 0, .slice none 0 0] 27 :: L) w := hS
    refine WL.nil ?_
    as_aux_lemma =>
      refine WC.seq ?_
      refine WC.region ?_
      refine WL.run 2 [.int .i64 R1.1] rfl (by exact hS.ld 0 rfl rfl) ?_
      refine WL.call rfl rfl (fields_spec (c := R1.1)  (hS := hS)) rfl ?_
      rintro _ w ⟨rfl, hS⟩
      replace hS : St g (cel b3 #[.int .i64 R1.1, .int .u64 0, .int .u64 0, .int .i64 0, .int .i64 0, .int .i64 0, .int .i64 0, .int .i64 0, .bool false, .string ⟨#[]⟩, .slice none 0 0, .slice none 0 0, .slice none 0 0] 27 :: cel b2 #[.slice a (List.length (by8 bs)) c, .int .i64 (R1.2.1 : Int), .int .i64 R1.2.2] 78 :: Sh 5 1 (by8 bs) a c :: cel b1 #[.int .i64 0, .int .u64 0, .int .u64 0, .int .i64 0, .int .i64 0, .int .i64 0, .int .i64 0, .int .i64 0, .bool false, .string ⟨#[]⟩, .slice none 0 0, .slice none 0 0, .slice none 0 0] 27 :: L) w := hS
      refine WL.r 5 rfl ?_
      refine WL.nil ?_
      refine WC.seq ?_
      refine WC.seq ?_
      refine WC.region ?_
      refine WL.r 2 rfl ?_
      refine WL.nil ?_
      refine WC.if_ rfl (fun cd2 => ?_) (fun cd2 => ?_)
      · refine WC.region ?_
        refine WL.r 1 rfl ?_
        refine WL.call rfl rfl (fail_spec (r := b2) (n := List.length (by8 bs)) (c := c) (a := a) (p := (R1.2.1 : Int)) (e := R1.2.2) (e2 := 13)  (hS := (hS.sel 4 [1, 0, 0, 0] rfl))) rfl ?_
        rintro _ w ⟨rfl, hS⟩
        replace hS : St g (cel b2 #[.slice a (List.length (by8 bs)) c, .int .i64 (R1.2.1 : Int), .int .i64 (fl R1.2.2 13)] 78 :: cel b3 #[.int .i64 R1.1, .int .u64 0, .int .u64 0, .int .i64 0, .int .i64 0, .int .i64 0, .int .i64 0, .int .i64 0, .bool false, .string ⟨#[]⟩, .slice none 0 0, .slice none 0 0, .slice none 0 0] 27 :: Sh 5 1 (by8 bs) a c :: cel b1 #[.int .i64 0, .int .u64 0, .int .u64 0, .int .i64 0, .int .i64 0, .int .i64 0, .int .i64 0, .int .i64 0, .bool false, .string ⟨#[]⟩, .slice none 0 0, .slice none 0 0, .slice none 0 0] 27 :: L) w := hS
        refine WL.nil ?_
        refine WC.seq ?_
        refine WC.seq ?_
        refine WC.region ?_
        refine WL.r 1 rfl ?_
        refine WL.rng rfl rfl rfl hS rfl (fun b4 w hS => ?_)
        replace hS : St g (blk b4 (.stringIter (mkS (fs R1.1)) 0) :: cel b2 #[.slice a (List.length (by8 bs)) c, .int .i64 (R1.2.1 : Int), .int .i64 (fl R1.2.2 13)] 78 :: cel b3 #[.int .i64 R1.1, .int .u64 0, .int .u64 0, .int .i64 0, .int .i64 0, .int .i64 0, .int .i64 0, .int .i64 0, .bool false, .string ⟨#[]⟩, .slice none 0 0, .slice none 0 0, .slice none 0 0] 27 :: Sh 5 1 (by8 bs) a c :: cel b1 #[.int .i64 0, .int .u64 0, .int .u64 0, .int .i64 0, .int .i64 0, .int .i64 0, .int .i64 0, .int .i64 0, .bool false, .string ⟨#[]⟩, .slice none 0 0, .slice none 0 0, .slice none 0 0] 27 :: L) w := hS
        refine WL.nil ?_
        as_aux_lemma =>
          refine WC.block ?_
          replace hS := hS.nil_ 63 4
          replace hS := hS.nil_ 40 2
          replace hS := hS.nil_ 5 1
          refine WC.loop [4, 5, 6, 7, 8, 41] (fun kM vs w => ∃ (k : Nat) (x : OpM) (q : Nat) (e : Int) (ab ae ac : Option Addr) (cb ce cc : Nat), vs = [.pointer (some ⟨b1, 0, none⟩), .int .i64 0, .int .i64 0, .pointer (some ⟨b2, 0, none⟩), .pointer (some ⟨b3, 0, none⟩), .pointer (some ⟨b4, 0, none⟩)] ∧ St g (Own 5 1 (by8 x.bytes) ab cb :: Own 40 2 (en2 x.ents) ae ce :: Own 63 4 (ch4 x.chs) ac cc :: blk b4 (.stringIter (mkS (fs R1.1)) k) :: cel b2 #[.slice a (List.length (by8 bs)) c, .int .i64 (q : Int), .int .i64 e] 78 :: cel b3 #[.int .i64 x.code, .int .u64 x.a, .int .u64 x.b, .int .i64 x.key, .int .i64 x.val, .int .i64 x.lo, .int .i64 x.hi, .int .i64 x.n, .bool x.flag, .string x.name, .slice ab (List.length (by8 x.bytes)) cb, .slice ae (List.length (en2 x.ents)) ce, .slice ac (List.length (ch4 x.chs)) cc] 27 :: Sh 5 1 (by8 bs) a c :: cel b1 #[.int .i64 0, .int .u64 0, .int .u64 0, .int .i64 0, .int .i64 0, .int .i64 0, .int .i64 0, .int .i64 0, .bool false, .string ⟨#[]⟩, .slice none 0 0, .slice none 0 0, .slice none 0 0] 27 :: L) w ∧ (q ≤ bs.length) ∧ (rFields bs (fs R1.1) (op0 R1.1) R1.2.1 (if isOp R1.1 then R1.2.2 else fl R1.2.2 13) = rFields bs ((fs R1.1).drop k) x q e) ∧ ((fs R1.1).length - k) = kM) ((List.length (fs R1.1)) - 0) ⟨0, op0 R1.1, R1.2.1, _, none, none, none, 0, 0, 0, rfl, hS, (by assumption), (by rw [show isOp R1.1 = false by simpa using cd2]; rfl), rfl⟩ ?_
          clear hS; rintro _ _ w j ⟨k, x, q, e, ab, ae, ac, cb, ce, cc, rfl, hS, hq, hr, rfl⟩
          refine WC.seq ?_
          refine WC.region ?_
          refine WL.nx rfl rfl rfl rfl rfl rfl rfl 3 (fs_as _) hS rfl rfl (fun w hS => ?_)
          replace hS : St g (Own 5 1 (by8 x.bytes) ab cb :: Own 40 2 (en2 x.ents) ae ce :: Own 63 4 (ch4 x.chs) ac cc :: blk b4 (.stringIter (mkS (fs R1.1)) (if (k < (List.length (fs R1.1))) then (k + 1) else k)) :: cel b2 #[.slice a (List.length (by8 bs)) c, .int .i64 (q : Int), .int .i64 e] 78 :: cel b3 #[.int .i64 x.code, .int .u64 x.a, .int .u64 x.b, .int .i64 x.key, .int .i64 x.val, .int .i64 x.lo, .int .i64 x.hi, .int .i64 x.n, .bool x.flag, .string x.name, .slice ab (List.length (by8 x.bytes)) cb, .slice ae (List.length (en2 x.ents)) ce, .slice ac (List.length (ch4 x.chs)) cc] 27 :: Sh 5 1 (by8 bs) a c :: cel b1 #[.int .i64 0, .int .u64 0, .int .u64 0, .int .i64 0, .int .i64 0, .int .i64 0, .int .i64 0, .int .i64 0, .bool false, .string ⟨#[]⟩, .slice none 0 0, .slice none 0 0, .slice none 0 0] 27 :: L) w := hS
          refine WL.nil ?_
          refine WC.seq ?_
          refine WC.ifP rfl (fun cd3 => ?_) (fun cd3 => ?_)
          · refine WC.reb 42 (.tuple #[.bool true, .int .i64 (k : Int), .int .i32 (List.getD (fs R1.1) k 0)]) (nx_in cd3) ?_
            rw [if_pos cd3] at hS
            refine WC.skip ?_
            refine WC.block ?_
            refine WC.seq ?_
            refine WC.region ?_
            refine WL.r 2 rfl ?_
            refine WL.nil ?_
            refine WC.region ?_
            refine WL.r 2 rfl ?_
            refine WL.call rfl rfl (field_spec (r := b2) (c := c) (a := a) (bs := bs) (p := q) (e := e) (o := b3) (x := x) (f := List.getD (fs R1.1) k 0) (ab := ab) (ae := ae) (ac := ac) (cb := cb) (ce := ce) (cc := cc) (hp := (by assumption)) (hl := (by assumption)) (hb := (by assumption)) (hS := (hS.sel 8 [4, 5, 4, 0, 0, 0, 0, 0] rfl))) rfl ?_
            generalize hR2 : rField bs (List.getD (fs R1.1) k 0) x q e = R2
            rintro _ w ⟨ab1, ae1, ac1, cb1, ce1, cc1, rfl, hS⟩
            have hR2f0 : R2.2.1 ≤ (List.length bs) := by rw [← hR2]; exact rField_le (by assumption)
            replace hS : St g (cel b2 #[.slice a (List.length (by8 bs)) c, .int .i64 (R2.2.1 : Int), .int .i64 R2.2.2] 78 :: Sh 5 1 (by8 bs) a c :: cel b3 #[.int .i64 R2.1.code, .int .u64 R2.1.a, .int .u64 R2.1.b, .int .i64 R2.1.key, .int .i64 R2.1.val, .int .i64 R2.1.lo, .int .i64 R2.1.hi, .int .i64 R2.1.n, .bool R2.1.flag, .string R2.1.name, .slice ab1 (List.length (by8 R2.1.bytes)) cb1, .slice ae1 (List.length (en2 R2.1.ents)) ce1, .slice ac1 (List.length (ch4 R2.1.chs)) cc1] 27 :: Own 5 1 (by8 R2.1.bytes) ab1 cb1 :: Own 40 2 (en2 R2.1.ents) ae1 ce1 :: Own 63 4 (ch4 R2.1.chs) ac1 cc1 :: blk b4 (.stringIter (mkS (fs R1.1)) (k + 1)) :: cel b1 #[.int .i64 0, .int .u64 0, .int .u64 0, .int .i64 0, .int .i64 0, .int .i64 0, .int .i64 0, .int .i64 0, .bool false, .string ⟨#[]⟩, .slice none 0 0, .slice none 0 0, .slice none 0 0] 27 :: L) w := hS
            refine WL.nil ?_
            exact ⟨_, by omega, k + 1, _, _, _, _, _, _, _, _, _, rfl, (hS.sel 8 [3, 3, 3, 3, 0, 1, 0, 0] rfl), (by assumption), (by subst_vars; rw [hr, rFields_go cd3]), rfl⟩
          · rw [if_neg cd3] at hS
            refine WC.exit ?_
            refine WC.seq ?_
            refine WC.seq ?_
            refine WC.region ?_
            refine WL.run 5 [.int .i64 e] rfl (by exact hS.ld 4 rfl rfl) ?_
            refine WL.nil ?_
            refine WC.ifP rfl (fun cd4 => ?_) (fun cd4 => ?_)
            · refine WC.seq ?_
              refine WC.plan [([1, 2, 3, 4], some (0, [1, 2, 3, 4])), ([], some (5, [1, 2, 3, 4])), ([6, 7], none)] (by kernel_rfl) (by kernel_rfl) ?_
              refine WQ.run 4 [.int .i64 e] rfl (by exact hS.ld 4 rfl rfl) ?_
              refine WQ.nil ?_
              intro m1
              replace hS := hS.drewN m1; generalize hwm1 : World.drewN _ _ = w at *; clear hwm1
              refine WL.build rfl rfl (cs := [.int .i64 0, .int .u64 0, .int .u64 0, .int .i64 0, .int .i64 0, .int .i64 0, .int .i64 0, .int .i64 0, .bool false, .string ⟨#[]⟩, .slice none 0 0, .slice none 0 0, .slice none 0 0]) zv_27 rfl rfl ?_
              refine WL.nil ?_
              refine ⟨by exact ⟨RQ.pure rfl rfl rfl rfl, RQ.pure rfl rfl rfl rfl, RQ.pure rfl rfl rfl rfl, RQ.load rfl rfl rfl rfl (hS.ld 4 rfl rfl)⟩, ?_⟩
              refine WQ.nil ?_
              intro m2
              replace hS := hS.drewN m2; generalize hwm2 : World.drewN _ _ = w at *; clear hwm2
              refine WL.stF rfl rfl rfl 7 hS rfl rfl rfl rfl rfl ag_27 (fun w hS => ?_)
              replace hS : St g (Own 5 1 (by8 x.bytes) ab cb :: Own 40 2 (en2 x.ents) ae ce :: Own 63 4 (ch4 x.chs) ac cc :: blk b4 (.stringIter (mkS (fs R1.1)) k) :: cel b2 #[.slice a (List.length (by8 bs)) c, .int .i64 (q : Int), .int .i64 e] 78 :: cel b3 #[.int .i64 x.code, .int .u64 x.a, .int .u64 x.b, .int .i64 x.key, .int .i64 x.val, .int .i64 x.lo, .int .i64 x.hi, .int .i64 x.n, .bool x.flag, .string x.name, .slice ab (List.length (by8 x.bytes)) cb, .slice ae (List.length (en2 x.ents)) ce, .slice ac (List.length (ch4 x.chs)) cc] 27 :: Sh 5 1 (by8 bs) a c :: cel b1 #[.int .i64 0, .int .u64 0, .int .u64 0, .int .i64 0, .int .i64 0, .int .i64 0, .int .i64 0, .int .i64 0, .bool false, .string ⟨#[]⟩, .slice none 0 0, .slice none 0 0, .slice none 0 0] 27 :: L) w := hS
              refine WL.nil ?_
              refine ⟨by exact ⟨RQ.pure rfl rfl rfl rfl, RQ.pure rfl rfl rfl rfl, RQ.pure rfl rfl rfl rfl, RQ.load rfl rfl rfl rfl (hS.ld 4 rfl rfl)⟩, ?_⟩
              refine WQ.r 2 rfl ?_
              refine WQ.nil ?_
              intro m3
              replace hS := hS.drewN m3; generalize hwm3 : World.drewN _ _ = w at *; clear hwm3
              as_aux_lemma =>
                refine WC.ret ?_
                refine ⟨[.agg #[.int .i64 0, .int .u64 0, .int .u64 0, .int .i64 0, .int .i64 0, .int .i64 0, .int .i64 0, .int .i64 0, .bool false, .string ⟨#[]⟩, .slice none 0 0, .slice none 0 0, .slice none 0 0], .int .i64 0, .int .i64 e], ⟨⟨_, rfl, hS.lvF 7 rfl ag_27⟩, rfl, rfl⟩, ?_⟩
                replace hS := hS.nil_ 5 1
                replace hS := hS.nil_ 40 2
                replace hS := hS.nil_ 63 4
                replace hS := (hS.sel 11 [9, 2, 1, 0] rfl)
                have hr2 : rOp bs q0 = (op0 0, 0, e) := by
                  rw [rFields_end cd3] at hr; subst hR1; unfold rOp; simp only [hr]; rw [if_pos cd4]
                have hn : rNx bs (q0 : Int) = (op0 0, 0, e) := by rw [rNx, if_neg (by omega)]; simp only [Int.toNat_natCast, hr2]; rfl
                rw [hn]; exact ⟨_, _, _, _, _, _, rfl, hS⟩
            · refine WC.skip ?_
              refine WC.seq ?_
              refine WC.plan [([1, 2, 3, 4], some (0, [1, 2, 3, 4])), ([], some (5, [1, 2, 3, 4])), ([6, 7], none)] (by kernel_rfl) (by kernel_rfl) ?_
              refine WQ.run 4 [.int .i64 (q : Int)] rfl (by exact hS.ld 4 rfl rfl) ?_
              refine WQ.nil ?_
              intro m1
              replace hS := hS.drewN m1; generalize hwm1 : World.drewN _ _ = w at *; clear hwm1
              refine WL.ldF rfl rfl 5 hS rfl rfl ag_27 ?_
              refine WL.nil ?_
              refine ⟨by exact ⟨RQ.pure rfl rfl rfl rfl, RQ.pure rfl rfl rfl rfl, RQ.pure rfl rfl rfl rfl, RQ.load rfl rfl rfl rfl (hS.ld 4 rfl rfl)⟩, ?_⟩
              refine WQ.nil ?_
              intro m2
              replace hS := hS.drewN m2; generalize hwm2 : World.drewN _ _ = w at *; clear hwm2
              refine WL.stF rfl rfl rfl 7 hS rfl rfl rfl rfl rfl ag_27 (fun w hS => ?_)
              replace hS : St g (Own 5 1 (by8 x.bytes) ab cb :: Own 40 2 (en2 x.ents) ae ce :: Own 63 4 (ch4 x.chs) ac cc :: blk b4 (.stringIter (mkS (fs R1.1)) k) :: cel b2 #[.slice a (List.length (by8 bs)) c, .int .i64 (q : Int), .int .i64 e] 78 :: cel b3 #[.int .i64 x.code, .int .u64 x.a, .int .u64 x.b, .int .i64 x.key, .int .i64 x.val, .int .i64 x.lo, .int .i64 x.hi, .int .i64 x.n, .bool x.flag, .string x.name, .slice ab (List.length (by8 x.bytes)) cb, .slice ae (List.length (en2 x.ents)) ce, .slice ac (List.length (ch4 x.chs)) cc] 27 :: Sh 5 1 (by8 bs) a c :: cel b1 #[.int .i64 x.code, .int .u64 x.a, .int .u64 x.b, .int .i64 x.key, .int .i64 x.val, .int .i64 x.lo, .int .i64 x.hi, .int .i64 x.n, .bool x.flag, .string x.name, .slice ab (List.length (by8 x.bytes)) cb, .slice ae (List.length (en2 x.ents)) ce, .slice ac (List.length (ch4 x.chs)) cc] 27 :: L) w := hS
              refine WL.nil ?_
              refine ⟨by exact ⟨RQ.pure rfl rfl rfl rfl, RQ.pure rfl rfl rfl rfl, RQ.pure rfl rfl rfl rfl, RQ.load rfl rfl rfl rfl (hS.ld 4 rfl rfl)⟩, ?_⟩
              refine WQ.r 2 rfl ?_
              refine WQ.nil ?_
              intro m3
              replace hS := hS.drewN m3; generalize hwm3 : World.drewN _ _ = w at *; clear hwm3
              as_aux_lemma =>
                refine WC.ret ?_
                refine ⟨[.agg #[.int .i64 x.code, .int .u64 x.a, .int .u64 x.b, .int .i64 x.key, .int .i64 x.val, .int .i64 x.lo, .int .i64 x.hi, .int .i64 x.n, .bool x.flag, .string x.name, .slice ab (List.length (by8 x.bytes)) cb, .slice ae (List.length (en2 x.ents)) ce, .slice ac (List.length (ch4 x.chs)) cc], .int .i64 (q : Int), .int .i64 0], ⟨⟨_, rfl, hS.lvF 7 rfl ag_27⟩, rfl, rfl⟩, ?_⟩
                replace hS := (hS.sel 8 [6, 0, 0, 0] rfl)
                have he : e = 0 := Classical.not_not.1 cd4
                have hr2 : rOp bs q0 = (x, q, 0) := by
                  rw [rFields_end cd3] at hr; subst hR1; unfold rOp; simp only [hr]; rw [if_neg cd4, he]
                have hn : rNx bs (q0 : Int) = (x, (q : Int), 0) := by rw [rNx, if_neg (by omega)]; simp only [Int.toNat_natCast, hr2]
                rw [hn]; exact ⟨_, _, _, _, _, _, rfl, hS⟩
      · refine WC.skip ?_
        refine WC.seq ?_
        refine WC.seq ?_
        refine WC.region ?_
        refine WL.r 1 rfl ?_
        refine WL.rng rfl rfl rfl hS rfl (fun b4 w hS => ?_)
        replace hS : St g (blk b4 (.stringIter (mkS (fs R1.1)) 0) :: cel b3 #[.int .i64 R1.1, .int .u64 0, .int .u64 0, .int .i64 0, .int .i64 0, .int .i64 0, .int .i64 0, .int .i64 0, .bool false, .string ⟨#[]⟩, .slice none 0 0, .slice none 0 0, .slice none 0 0] 27 :: cel b2 #[.slice a (List.length (by8 bs)) c, .int .i64 (R1.2.1 : Int), .int .i64 R1.2.2] 78 :: Sh 5 1 (by8 bs) a c :: cel b1 #[.int .i64 0, .int .u64 0, .int .u64 0, .int .i64 0, .int .i64 0, .int .i64 0, .int .i64 0, .int .i64 0, .bool false, .string ⟨#[]⟩, .slice none 0 0, .slice none 0 0, .slice none 0 0] 27 :: L) w := hS
        refine WL.nil ?_
        refine WC.block ?_
        replace hS := hS.nil_ 63 4
        replace hS := hS.nil_ 40 2
        replace hS := hS.nil_ 5 1
        refine WC.loop [4, 5, 6, 7, 8, 41] (fun kM vs w => ∃ (k : Nat) (x : OpM) (q : Nat) (e : Int) (ab ae ac : Option Addr) (cb ce cc : Nat), vs = [.pointer (some ⟨b1, 0, none⟩), .int .i64 0, .int .i64 0, .pointer (some ⟨b2, 0, none⟩), .pointer (some ⟨b3, 0, none⟩), .pointer (some ⟨b4, 0, none⟩)] ∧ St g (Own 5 1 (by8 x.bytes) ab cb :: Own 40 2 (en2 x.ents) ae ce :: Own 63 4 (ch4 x.chs) ac cc :: blk b4 (.stringIter (mkS (fs R1.1)) k) :: cel b3 #[.int .i64 x.code, .int .u64 x.a, .int .u64 x.b, .int .i64 x.key, .int .i64 x.val, .int .i64 x.lo, .int .i64 x.hi, .int .i64 x.n, .bool x.flag, .string x.name, .slice ab (List.length (by8 x.bytes)) cb, .slice ae (List.length (en2 x.ents)) ce, .slice ac (List.length (ch4 x.chs)) cc] 27 :: cel b2 #[.slice a (List.length (by8 bs)) c, .int .i64 (q : Int), .int .i64 e] 78 :: Sh 5 1 (by8 bs) a c :: cel b1 #[.int .i64 0, .int .u64 0, .int .u64 0, .int .i64 0, .int .i64 0, .int .i64 0, .int .i64 0, .int .i64 0, .bool false, .string ⟨#[]⟩, .slice none 0 0, .slice none 0 0, .slice none 0 0] 27 :: L) w ∧ (q ≤ bs.length) ∧ (rFields bs (fs R1.1) (op0 R1.1) R1.2.1 (if isOp R1.1 then R1.2.2 else fl R1.2.2 13) = rFields bs ((fs R1.1).drop k) x q e) ∧ ((fs R1.1).length - k) = kM) ((List.length (fs R1.1)) - 0) ⟨0, op0 R1.1, R1.2.1, _, none, none, none, 0, 0, 0, rfl, hS, (by assumption), (by rw [show isOp R1.1 = true by simpa using cd2]; rfl), rfl⟩ ?_
        clear hS; rintro _ _ w j ⟨k, x, q, e, ab, ae, ac, cb, ce, cc, rfl, hS, hq, hr, rfl⟩
        refine WC.seq ?_
        refine WC.region ?_
        refine WL.nx rfl rfl rfl rfl rfl rfl rfl 3 (fs_as _) hS rfl rfl (fun w hS => ?_)
        replace hS : St g (Own 5 1 (by8 x.bytes) ab cb :: Own 40 2 (en2 x.ents) ae ce :: Own 63 4 (ch4 x.chs) ac cc :: blk b4 (.stringIter (mkS (fs R1.1)) (if (k < (List.length (fs R1.1))) then (k + 1) else k)) :: cel b3 #[.int .i64 x.code, .int .u64 x.a, .int .u64 x.b, .int .i64 x.key, .int .i64 x.val, .int .i64 x.lo, .int .i64 x.hi, .int .i64 x.n, .bool x.flag, .string x.name, .slice ab (List.length (by8 x.bytes)) cb, .slice ae (List.length (en2 x.ents)) ce, .slice ac (List.length (ch4 x.chs)) cc] 27 :: cel b2 #[.slice a (List.length (by8 bs)) c, .int .i64 (q : Int), .int .i64 e] 78 :: Sh 5 1 (by8 bs) a c :: cel b1 #[.int .i64 0, .int .u64 0, .int .u64 0, .int .i64 0, .int .i64 0, .int .i64 0, .int .i64 0, .int .i64 0, .bool false, .string ⟨#[]⟩, .slice none 0 0, .slice none 0 0, .slice none 0 0] 27 :: L) w := hS
        refine WL.nil ?_
        as_aux_lemma =>
          refine WC.seq ?_
          refine WC.ifP rfl (fun cd3 => ?_) (fun cd3 => ?_)
          · refine WC.reb 42 (.tuple #[.bool true, .int .i64 (k : Int), .int .i32 (List.getD (fs R1.1) k 0)]) (nx_in cd3) ?_
            rw [if_pos cd3] at hS
            refine WC.skip ?_
            refine WC.block ?_
            refine WC.seq ?_
            refine WC.region ?_
            refine WL.r 2 rfl ?_
            refine WL.nil ?_
            refine WC.region ?_
            refine WL.r 2 rfl ?_
            refine WL.call rfl rfl (field_spec (r := b2) (c := c) (a := a) (bs := bs) (p := q) (e := e) (o := b3) (x := x) (f := List.getD (fs R1.1) k 0) (ab := ab) (ae := ae) (ac := ac) (cb := cb) (ce := ce) (cc := cc) (hp := (by assumption)) (hl := (by assumption)) (hb := (by assumption)) (hS := (hS.sel 8 [5, 5, 4, 0, 0, 0, 0, 0] rfl))) rfl ?_
            generalize hR2 : rField bs (List.getD (fs R1.1) k 0) x q e = R2
            rintro _ w ⟨ab1, ae1, ac1, cb1, ce1, cc1, rfl, hS⟩
            have hR2f0 : R2.2.1 ≤ (List.length bs) := by rw [← hR2]; exact rField_le (by assumption)
            replace hS : St g (cel b2 #[.slice a (List.length (by8 bs)) c, .int .i64 (R2.2.1 : Int), .int .i64 R2.2.2] 78 :: Sh 5 1 (by8 bs) a c :: cel b3 #[.int .i64 R2.1.code, .int .u64 R2.1.a, .int .u64 R2.1.b, .int .i64 R2.1.key, .int .i64 R2.1.val, .int .i64 R2.1.lo, .int .i64 R2.1.hi, .int .i64 R2.1.n, .bool R2.1.flag, .string R2.1.name, .slice ab1 (List.length (by8 R2.1.bytes)) cb1, .slice ae1 (List.length (en2 R2.1.ents)) ce1, .slice ac1 (List.length (ch4 R2.1.chs)) cc1] 27 :: Own 5 1 (by8 R2.1.bytes) ab1 cb1 :: Own 40 2 (en2 R2.1.ents) ae1 ce1 :: Own 63 4 (ch4 R2.1.chs) ac1 cc1 :: blk b4 (.stringIter (mkS (fs R1.1)) (k + 1)) :: cel b1 #[.int .i64 0, .int .u64 0, .int .u64 0, .int .i64 0, .int .i64 0, .int .i64 0, .int .i64 0, .int .i64 0, .bool false, .string ⟨#[]⟩, .slice none 0 0, .slice none 0 0, .slice none 0 0] 27 :: L) w := hS
            refine WL.nil ?_
            exact ⟨_, by omega, k + 1, _, _, _, _, _, _, _, _, _, rfl, (hS.sel 8 [3, 3, 3, 3, 2, 0, 0, 0] rfl), (by assumption), (by subst_vars; rw [hr, rFields_go cd3]), rfl⟩
          · rw [if_neg cd3] at hS
            refine WC.exit ?_
            refine WC.seq ?_
            refine WC.seq ?_
            refine WC.region ?_
            refine WL.run 5 [.int .i64 e] rfl (by exact hS.ld 5 rfl rfl) ?_
            refine WL.nil ?_
            refine WC.ifP rfl (fun cd4 => ?_) (fun cd4 => ?_)
            · refine WC.seq ?_
              refine WC.plan [([1, 2, 3, 4], some (0, [1, 2, 3, 4])), ([], some (5, [1, 2, 3, 4])), ([6, 7], none)] (by kernel_rfl) (by kernel_rfl) ?_
              refine WQ.run 4 [.int .i64 e] rfl (by exact hS.ld 5 rfl rfl) ?_
              refine WQ.nil ?_
              intro m1
              replace hS := hS.drewN m1; generalize hwm1 : World.drewN _ _ = w at *; clear hwm1
              refine WL.build rfl rfl (cs := [.int .i64 0, .int .u64 0, .int .u64 0, .int .i64 0, .int .i64 0, .int .i64 0, .int .i64 0, .int .i64 0, .bool false, .string ⟨#[]⟩, .slice none 0 0, .slice none 0 0, .slice none 0 0]) zv_27 rfl rfl ?_
              refine WL.nil ?_
              refine ⟨by exact ⟨RQ.pure rfl rfl rfl rfl, RQ.pure rfl rfl rfl rfl, RQ.pure rfl rfl rfl rfl, RQ.load rfl rfl rfl rfl (hS.ld 5 rfl rfl)⟩, ?_⟩
              refine WQ.nil ?_
              intro m2
              replace hS := hS.drewN m2; generalize hwm2 : World.drewN _ _ = w at *; clear hwm2
              refine WL.stF rfl rfl rfl 7 hS rfl rfl rfl rfl rfl ag_27 (fun w hS => ?_)
              replace hS : St g (Own 5 1 (by8 x.bytes) ab cb :: Own 40 2 (en2 x.ents) ae ce :: Own 63 4 (ch4 x.chs) ac cc :: blk b4 (.stringIter (mkS (fs R1.1)) k) :: cel b3 #[.int .i64 x.code, .int .u64 x.a, .int .u64 x.b, .int .i64 x.key, .int .i64 x.val, .int .i64 x.lo, .int .i64 x.hi, .int .i64 x.n, .bool x.flag, .string x.name, .slice ab (List.length (by8 x.bytes)) cb, .slice ae (List.length (en2 x.ents)) ce, .slice ac (List.length (ch4 x.chs)) cc] 27 :: cel b2 #[.slice a (List.length (by8 bs)) c, .int .i64 (q : Int), .int .i64 e] 78 :: Sh 5 1 (by8 bs) a c :: cel b1 #[.int .i64 0, .int .u64 0, .int .u64 0, .int .i64 0, .int .i64 0, .int .i64 0, .int .i64 0, .int .i64 0, .bool false, .string ⟨#[]⟩, .slice none 0 0, .slice none 0 0, .slice none 0 0] 27 :: L) w := hS
              refine WL.nil ?_
              refine ⟨by exact ⟨RQ.pure rfl rfl rfl rfl, RQ.pure rfl rfl rfl rfl, RQ.pure rfl rfl rfl rfl, RQ.load rfl rfl rfl rfl (hS.ld 5 rfl rfl)⟩, ?_⟩
              refine WQ.r 2 rfl ?_
              refine WQ.nil ?_
              intro m3
              replace hS := hS.drewN m3; generalize hwm3 : World.drewN _ _ = w at *; clear hwm3
              as_aux_lemma =>
                refine WC.ret ?_
                refine ⟨[.agg #[.int .i64 0, .int .u64 0, .int .u64 0, .int .i64 0, .int .i64 0, .int .i64 0, .int .i64 0, .int .i64 0, .bool false, .string ⟨#[]⟩, .slice none 0 0, .slice none 0 0, .slice none 0 0], .int .i64 0, .int .i64 e], ⟨⟨_, rfl, hS.lvF 7 rfl ag_27⟩, rfl, rfl⟩, ?_⟩
                replace hS := hS.nil_ 5 1
                replace hS := hS.nil_ 40 2
                replace hS := hS.nil_ 63 4
                replace hS := (hS.sel 11 [9, 2, 1, 0] rfl)
                have hr2 : rOp bs q0 = (op0 0, 0, e) := by
                  rw [rFields_end cd3] at hr; subst hR1; unfold rOp; simp only [hr]; rw [if_pos cd4]
                have hn : rNx bs (q0 : Int) = (op0 0, 0, e) := by rw [rNx, if_neg (by omega)]; simp only [Int.toNat_natCast, hr2]; rfl
                rw [hn]; exact ⟨_, _, _, _, _, _, rfl, hS⟩
            · refine WC.skip ?_
              refine WC.seq ?_
              refine WC.plan [([1, 2, 3, 4], some (0, [1, 2, 3, 4])), ([], some (5, [1, 2, 3, 4])), ([6, 7], none)] (by kernel_rfl) (by kernel_rfl) ?_
              refine WQ.run 4 [.int .i64 (q : Int)] rfl (by exact hS.ld 5 rfl rfl) ?_
              refine WQ.nil ?_
              intro m1
              replace hS := hS.drewN m1; generalize hwm1 : World.drewN _ _ = w at *; clear hwm1
              refine WL.ldF rfl rfl 4 hS rfl rfl ag_27 ?_
              refine WL.nil ?_
              refine ⟨by exact ⟨RQ.pure rfl rfl rfl rfl, RQ.pure rfl rfl rfl rfl, RQ.pure rfl rfl rfl rfl, RQ.load rfl rfl rfl rfl (hS.ld 5 rfl rfl)⟩, ?_⟩
              refine WQ.nil ?_
              intro m2
              replace hS := hS.drewN m2; generalize hwm2 : World.drewN _ _ = w at *; clear hwm2
              refine WL.stF rfl rfl rfl 7 hS rfl rfl rfl rfl rfl ag_27 (fun w hS => ?_)
              replace hS : St g (Own 5 1 (by8 x.bytes) ab cb :: Own 40 2 (en2 x.ents) ae ce :: Own 63 4 (ch4 x.chs) ac cc :: blk b4 (.stringIter (mkS (fs R1.1)) k) :: cel b3 #[.int .i64 x.code, .int .u64 x.a, .int .u64 x.b, .int .i64 x.key, .int .i64 x.val, .int .i64 x.lo, .int .i64 x.hi, .int .i64 x.n, .bool x.flag, .string x.name, .slice ab (List.length (by8 x.bytes)) cb, .slice ae (List.length (en2 x.ents)) ce, .slice ac (List.length (ch4 x.chs)) cc] 27 :: cel b2 #[.slice a (List.length (by8 bs)) c, .int .i64 (q : Int), .int .i64 e] 78 :: Sh 5 1 (by8 bs) a c :: cel b1 #[.int .i64 x.code, .int .u64 x.a, .int .u64 x.b, .int .i64 x.key, .int .i64 x.val, .int .i64 x.lo, .int .i64 x.hi, .int .i64 x.n, .bool x.flag, .string x.name, .slice ab (List.length (by8 x.bytes)) cb, .slice ae (List.length (en2 x.ents)) ce, .slice ac (List.length (ch4 x.chs)) cc] 27 :: L) w := hS
              refine WL.nil ?_
              refine ⟨by exact ⟨RQ.pure rfl rfl rfl rfl, RQ.pure rfl rfl rfl rfl, RQ.pure rfl rfl rfl rfl, RQ.load rfl rfl rfl rfl (hS.ld 5 rfl rfl)⟩, ?_⟩
              refine WQ.r 2 rfl ?_
              refine WQ.nil ?_
              intro m3
              replace hS := hS.drewN m3; generalize hwm3 : World.drewN _ _ = w at *; clear hwm3
              as_aux_lemma =>
                refine WC.ret ?_
                refine ⟨[.agg #[.int .i64 x.code, .int .u64 x.a, .int .u64 x.b, .int .i64 x.key, .int .i64 x.val, .int .i64 x.lo, .int .i64 x.hi, .int .i64 x.n, .bool x.flag, .string x.name, .slice ab (List.length (by8 x.bytes)) cb, .slice ae (List.length (en2 x.ents)) ce, .slice ac (List.length (ch4 x.chs)) cc], .int .i64 (q : Int), .int .i64 0], ⟨⟨_, rfl, hS.lvF 7 rfl ag_27⟩, rfl, rfl⟩, ?_⟩
                replace hS := (hS.sel 8 [6, 0, 0, 0] rfl)
                have he : e = 0 := Classical.not_not.1 cd4
                have hr2 : rOp bs q0 = (x, q, 0) := by
                  rw [rFields_end cd3] at hr; subst hR1; unfold rOp; simp only [hr]; rw [if_neg cd4, he]
                have hn : rNx bs (q0 : Int) = (x, (q : Int), 0) := by rw [rNx, if_neg (by omega)]; simp only [Int.toNat_natCast, hr2]
                rw [hn]; exact ⟨_, _, _, _, _, _, rfl, hS⟩
end Go.Proofs.Ytofnoopjlmdelaa
