/-
  The reference: operations with only the fields of their code; equal operations; Valid.
  Conditions: sizes below a bound that the laws meet.
-/
import Derived.Test.YtofnoopjlmdelaaFld
import Derived.Test.YtofnoopjlmdelaaSame
import Derived.Test.YtofnoopjlmdelaaVdm
namespace Go.Proofs.Ytofnoopjlmdelaa
open Go Go.V


theorem only_spec {g w : World} {L : List HP} (x : OpM) (ab ae ac : Option Addr) (cb ce cc : Nat) (hS : St g (Sh 5 1 (by8 x.bytes) ab cb :: Sh 40 2 (en2 x.ents) ae ce :: Sh 63 4 (ch4 x.chs) ac cc :: L) w) :
    Sp Try.prog 29 [.agg #[.int .i64 x.code, .int .u64 x.a, .int .u64 x.b, .int .i64 x.key, .int .i64 x.val, .int .i64 x.lo, .int .i64 x.hi, .int .i64 x.n, .bool x.flag, .string x.name, .slice ab (List.length (by8 x.bytes)) cb, .slice ae (List.length (en2 x.ents)) ce, .slice ac (List.length (ch4 x.chs)) cc]] w (fun v w' => ∃ (ab2 ae2 ac2 : Option Addr) (cb2 ce2 cc2 : Nat), v = .agg #[.int .i64 (only x).code, .int .u64 (only x).a, .int .u64 (only x).b, .int .i64 (only x).key, .int .i64 (only x).val, .int .i64 (only x).lo, .int .i64 (only x).hi, .int .i64 (only x).n, .bool (only x).flag, .string (only x).name, .slice ab2 (List.length (by8 (only x).bytes)) cb2, .slice ae2 (List.length (en2 (only x).ents)) ce2, .slice ac2 (List.length (ch4 (only x).chs)) cc2] ∧ St g (Sh 5 1 (by8 (only x).bytes) ab2 cb2 :: Sh 40 2 (en2 (only x).ents) ae2 ce2 :: Sh 63 4 (ch4 (only x).chs) ac2 cc2 :: Sh 5 1 (by8 x.bytes) ab cb :: Sh 40 2 (en2 x.ents) ae ce :: Sh 63 4 (ch4 x.chs) ac cc :: L) w') := by
  refine Sp.enter Try.func29 rfl (by kernel_rfl) (by kernel_rfl) ?_
  refine WC.seq ?_
  refine WC.region ?_
  refine WL.box rfl rfl #[.int .i64 x.code, .int .u64 x.a, .int .u64 x.b, .int .i64 x.key, .int .i64 x.val, .int .i64 x.lo, .int .i64 x.hi, .int .i64 x.n, .bool x.flag, .string x.name, .slice ab (List.length (by8 x.bytes)) cb, .slice ae (List.length (en2 x.ents)) ce, .slice ac (List.length (ch4 x.chs)) cc] hS rfl rfl (fun b1 w hS => ?_)
  refine WL.new rfl rfl zv_27 hS (fun b2 w hS => ?_)
  refine WL.nil ?_
  refine WC.seq ?_
  refine WC.region ?_
  refine WL.run 2 [.int .i64 x.code] rfl (by exact hS.ld 1 rfl rfl) ?_
  refine WL.call rfl rfl (Fields_spec (c := x.code)  (hS := hS)) rfl ?_
  rintro _ w ⟨rfl, hS⟩
  replace hS : St g (cel b2 #[.int .i64 0, .int .u64 0, .int .u64 0, .int .i64 0, .int .i64 0, .int .i64 0, .int .i64 0, .int .i64 0, .bool false, .string ⟨#[]⟩, .slice none 0 0, .slice none 0 0, .slice none 0 0] 27 :: cel b1 #[.int .i64 x.code, .int .u64 x.a, .int .u64 x.b, .int .i64 x.key, .int .i64 x.val, .int .i64 x.lo, .int .i64 x.hi, .int .i64 x.n, .bool x.flag, .string x.name, .slice ab (List.length (by8 x.bytes)) cb, .slice ae (List.length (en2 x.ents)) ce, .slice ac (List.length (ch4 x.chs)) cc] 27 :: Sh 5 1 (by8 x.bytes) ab cb :: Sh 40 2 (en2 x.ents) ae ce :: Sh 63 4 (ch4 x.chs) ac cc :: L) w := hS
  refine WL.r 5 rfl ?_
  refine WL.nil ?_
  refine WC.seq ?_
  refine WC.region ?_
  have hsz := ltr_size x.code; have h6 := fs_len x.code
  refine WL.run 2 [.int .i64 x.code] rfl (by exact hS.ld 1 rfl rfl) ?_
  refine WL.build rfl rfl (cs := [.int .i64 x.code, .int .u64 0, .int .u64 0, .int .i64 0, .int .i64 0, .int .i64 0, .int .i64 0, .int .i64 0, .bool false, .string ⟨#[]⟩, .slice none 0 0, .slice none 0 0, .slice none 0 0]) zv_27 rfl rfl ?_
  refine WL.new rfl rfl zv_27 hS (fun b3 w hS => ?_)
  refine WL.stF rfl rfl rfl 0 hS rfl rfl rfl rfl rfl ag_27 (fun w hS => ?_)
  replace hS : St g (cel b3 #[.int .i64 x.code, .int .u64 0, .int .u64 0, .int .i64 0, .int .i64 0, .int .i64 0, .int .i64 0, .int .i64 0, .bool false, .string ⟨#[]⟩, .slice none 0 0, .slice none 0 0, .slice none 0 0] 27 :: cel b2 #[.int .i64 0, .int .u64 0, .int .u64 0, .int .i64 0, .int .i64 0, .int .i64 0, .int .i64 0, .int .i64 0, .bool false, .string ⟨#[]⟩, .slice none 0 0, .slice none 0 0, .slice none 0 0] 27 :: cel b1 #[.int .i64 x.code, .int .u64 x.a, .int .u64 x.b, .int .i64 x.key, .int .i64 x.val, .int .i64 x.lo, .int .i64 x.hi, .int .i64 x.n, .bool x.flag, .string x.name, .slice ab (List.length (by8 x.bytes)) cb, .slice ae (List.length (en2 x.ents)) ce, .slice ac (List.length (ch4 x.chs)) cc] 27 :: Sh 5 1 (by8 x.bytes) ab cb :: Sh 40 2 (en2 x.ents) ae ce :: Sh 63 4 (ch4 x.chs) ac cc :: L) w := hS
  refine WL.nil ?_
  refine WC.seq ?_
  refine WC.seq ?_
  refine WC.region ?_
  refine WL.r 1 rfl ?_
  refine WL.nil ?_
  as_aux_lemma =>
    refine WC.block ?_
    refine WC.loop [1, 2, 3, 5, 6] (fun kM vs w => ∃ (k : Nat) (y : OpM) (ab2 ae2 ac2 : Option Addr) (cb2 ce2 cc2 : Nat), vs = [.pointer (some ⟨b1, 0, none⟩), .pointer (some ⟨b2, 0, none⟩), .string (mkS ((fs x.code).map (· + 32))), .pointer (some ⟨b3, 0, none⟩), .int .i64 (k : Int)] ∧ St g (cel b3 #[.int .i64 y.code, .int .u64 y.a, .int .u64 y.b, .int .i64 y.key, .int .i64 y.val, .int .i64 y.lo, .int .i64 y.hi, .int .i64 y.n, .bool y.flag, .string y.name, .slice ab2 (List.length (by8 y.bytes)) cb2, .slice ae2 (List.length (en2 y.ents)) ce2, .slice ac2 (List.length (ch4 y.chs)) cc2] 27 :: cel b2 #[.int .i64 0, .int .u64 0, .int .u64 0, .int .i64 0, .int .i64 0, .int .i64 0, .int .i64 0, .int .i64 0, .bool false, .string ⟨#[]⟩, .slice none 0 0, .slice none 0 0, .slice none 0 0] 27 :: cel b1 #[.int .i64 x.code, .int .u64 x.a, .int .u64 x.b, .int .i64 x.key, .int .i64 x.val, .int .i64 x.lo, .int .i64 x.hi, .int .i64 x.n, .bool x.flag, .string x.name, .slice ab (List.length (by8 x.bytes)) cb, .slice ae (List.length (en2 x.ents)) ce, .slice ac (List.length (ch4 x.chs)) cc] 27 :: Sh 5 1 (by8 x.bytes) ab cb :: Sh 40 2 (en2 x.ents) ae ce :: Sh 63 4 (ch4 x.chs) ac cc :: L) w ∧ (k ≤ (fs x.code).length) ∧ (only x = setFs ((fs x.code).drop k) x y) ∧ (SelA ab2 cb2 y.bytes ab cb x.bytes) ∧ (SelA ae2 ce2 y.ents ae ce x.ents) ∧ (SelA ac2 cc2 y.chs ac cc x.chs) ∧ ((fs x.code).length - k) = kM) ((List.length (fs x.code)) - 0) ⟨0, op0 x.code, none, none, none, 0, 0, 0, rfl, hS, (Nat.zero_le _), (rfl), (SelA.nil), (SelA.nil), (SelA.nil), rfl⟩ ?_
    clear hS; rintro _ _ w j ⟨k, y, ab2, ae2, ac2, cb2, ce2, cc2, rfl, hS, hk, hr, hs1, hs2, hs3, rfl⟩
    refine WC.seq ?_
    refine WC.seq ?_
    refine WC.region ?_
    refine WL.r 4 rfl ?_
    refine WL.nil ?_
    refine WC.ifP rfl (fun cd1 => ?_) (fun cd1 => ?_)
    · refine WC.skip ?_
      refine WC.seq ?_
      refine WC.block ?_
      refine WC.seq ?_
      refine WC.region ?_
      refine WL.r 2 rfl ?_
      refine WL.ixs rfl rfl (v := (k : Int)) (k) rfl rfl rfl (by omega) (ltr_at (by omega)) ?_
      refine WL.nil ?_
      refine WC.block ?_
      refine WC.seq ?_
      refine WC.region ?_
      refine WL.r 2 rfl ?_
      refine WL.nil ?_
      refine WC.ifP rfl (fun cd2 => ?_) (fun cd2 => ?_)
      · refine WC.region ?_
        refine WL.run 3 [.int .u64 x.a] rfl (by exact hS.ld 2 rfl rfl) ?_
        refine WL.st rfl rfl rfl 0 hS rfl rfl rfl rfl rfl rfl (fun w hS => ?_)
        replace hS : St g (cel b3 #[.int .i64 y.code, .int .u64 x.a, .int .u64 y.b, .int .i64 y.key, .int .i64 y.val, .int .i64 y.lo, .int .i64 y.hi, .int .i64 y.n, .bool y.flag, .string y.name, .slice ab2 (List.length (by8 y.bytes)) cb2, .slice ae2 (List.length (en2 y.ents)) ce2, .slice ac2 (List.length (ch4 y.chs)) cc2] 27 :: cel b2 #[.int .i64 0, .int .u64 0, .int .u64 0, .int .i64 0, .int .i64 0, .int .i64 0, .int .i64 0, .int .i64 0, .bool false, .string ⟨#[]⟩, .slice none 0 0, .slice none 0 0, .slice none 0 0] 27 :: cel b1 #[.int .i64 x.code, .int .u64 x.a, .int .u64 x.b, .int .i64 x.key, .int .i64 x.val, .int .i64 x.lo, .int .i64 x.hi, .int .i64 x.n, .bool x.flag, .string x.name, .slice ab (List.length (by8 x.bytes)) cb, .slice ae (List.length (en2 x.ents)) ce, .slice ac (List.length (ch4 x.chs)) cc] 27 :: Sh 5 1 (by8 x.bytes) ab cb :: Sh 40 2 (en2 x.ents) ae ce :: Sh 63 4 (ch4 x.chs) ac cc :: L) w := hS
        refine WL.nil ?_
        as_aux_lemma =>
          refine WC.region ?_
          refine WL.r 2 rfl ?_
          refine WL.nw 21 rfl (w64 (by omega)) ?_
          refine WL.r 1 rfl ?_
          refine WL.nil ?_
          exact ⟨_, by omega, k + 1, { y with a := x.a }, ab2, ae2, ac2, cb2, ce2, cc2, rfl, hS, (by omega), (by rw [hr, setFs_go (by omega), show (fs x.code).getD k 0 = 65 by omega, setF_A]), (hs1), (hs2), (hs3), rfl⟩
      · refine WC.seq ?_
        refine WC.region ?_
        refine WL.r 2 rfl ?_
        refine WL.nil ?_
        as_aux_lemma =>
          refine WC.ifP rfl (fun cd3 => ?_) (fun cd3 => ?_)
          · refine WC.region ?_
            refine WL.run 3 [.int .u64 x.b] rfl (by exact hS.ld 2 rfl rfl) ?_
            refine WL.st rfl rfl rfl 0 hS rfl rfl rfl rfl rfl rfl (fun w hS => ?_)
            replace hS : St g (cel b3 #[.int .i64 y.code, .int .u64 y.a, .int .u64 x.b, .int .i64 y.key, .int .i64 y.val, .int .i64 y.lo, .int .i64 y.hi, .int .i64 y.n, .bool y.flag, .string y.name, .slice ab2 (List.length (by8 y.bytes)) cb2, .slice ae2 (List.length (en2 y.ents)) ce2, .slice ac2 (List.length (ch4 y.chs)) cc2] 27 :: cel b2 #[.int .i64 0, .int .u64 0, .int .u64 0, .int .i64 0, .int .i64 0, .int .i64 0, .int .i64 0, .int .i64 0, .bool false, .string ⟨#[]⟩, .slice none 0 0, .slice none 0 0, .slice none 0 0] 27 :: cel b1 #[.int .i64 x.code, .int .u64 x.a, .int .u64 x.b, .int .i64 x.key, .int .i64 x.val, .int .i64 x.lo, .int .i64 x.hi, .int .i64 x.n, .bool x.flag, .string x.name, .slice ab (List.length (by8 x.bytes)) cb, .slice ae (List.length (en2 x.ents)) ce, .slice ac (List.length (ch4 x.chs)) cc] 27 :: Sh 5 1 (by8 x.bytes) ab cb :: Sh 40 2 (en2 x.ents) ae ce :: Sh 63 4 (ch4 x.chs) ac cc :: L) w := hS
            refine WL.nil ?_
            refine WC.region ?_
            refine WL.r 2 rfl ?_
            refine WL.nw 21 rfl (w64 (by omega)) ?_
            refine WL.r 1 rfl ?_
            refine WL.nil ?_
            exact ⟨_, by omega, k + 1, { y with b := x.b }, ab2, ae2, ac2, cb2, ce2, cc2, rfl, hS, (by omega), (by rw [hr, setFs_go (by omega), show (fs x.code).getD k 0 = 66 by omega, setF_B]), (hs1), (hs2), (hs3), rfl⟩
          · refine WC.seq ?_
            refine WC.region ?_
            refine WL.r 2 rfl ?_
            refine WL.nil ?_
            refine WC.ifP rfl (fun cd4 => ?_) (fun cd4 => ?_)
            · refine WC.region ?_
              refine WL.run 3 [.int .i64 x.key] rfl (by exact hS.ld 2 rfl rfl) ?_
              refine WL.st rfl rfl rfl 0 hS rfl rfl rfl rfl rfl rfl (fun w hS => ?_)
              replace hS : St g (cel b3 #[.int .i64 y.code, .int .u64 y.a, .int .u64 y.b, .int .i64 x.key, .int .i64 y.val, .int .i64 y.lo, .int .i64 y.hi, .int .i64 y.n, .bool y.flag, .string y.name, .slice ab2 (List.length (by8 y.bytes)) cb2, .slice ae2 (List.length (en2 y.ents)) ce2, .slice ac2 (List.length (ch4 y.chs)) cc2] 27 :: cel b2 #[.int .i64 0, .int .u64 0, .int .u64 0, .int .i64 0, .int .i64 0, .int .i64 0, .int .i64 0, .int .i64 0, .bool false, .string ⟨#[]⟩, .slice none 0 0, .slice none 0 0, .slice none 0 0] 27 :: cel b1 #[.int .i64 x.code, .int .u64 x.a, .int .u64 x.b, .int .i64 x.key, .int .i64 x.val, .int .i64 x.lo, .int .i64 x.hi, .int .i64 x.n, .bool x.flag, .string x.name, .slice ab (List.length (by8 x.bytes)) cb, .slice ae (List.length (en2 x.ents)) ce, .slice ac (List.length (ch4 x.chs)) cc] 27 :: Sh 5 1 (by8 x.bytes) ab cb :: Sh 40 2 (en2 x.ents) ae ce :: Sh 63 4 (ch4 x.chs) ac cc :: L) w := hS
              refine WL.nil ?_
              refine WC.region ?_
              refine WL.r 2 rfl ?_
              refine WL.nw 21 rfl (w64 (by omega)) ?_
              refine WL.r 1 rfl ?_
              refine WL.nil ?_
              exact ⟨_, by omega, k + 1, { y with key := x.key }, ab2, ae2, ac2, cb2, ce2, cc2, rfl, hS, (by omega), (by rw [hr, setFs_go (by omega), show (fs x.code).getD k 0 = 75 by omega, setF_K]), (hs1), (hs2), (hs3), rfl⟩
            · refine WC.seq ?_
              refine WC.region ?_
              refine WL.r 2 rfl ?_
              refine WL.nil ?_
              refine WC.ifP rfl (fun cd5 => ?_) (fun cd5 => ?_)
              · refine WC.region ?_
                refine WL.run 3 [.int .i64 x.val] rfl (by exact hS.ld 2 rfl rfl) ?_
                refine WL.st rfl rfl rfl 0 hS rfl rfl rfl rfl rfl rfl (fun w hS => ?_)
                replace hS : St g (cel b3 #[.int .i64 y.code, .int .u64 y.a, .int .u64 y.b, .int .i64 y.key, .int .i64 x.val, .int .i64 y.lo, .int .i64 y.hi, .int .i64 y.n, .bool y.flag, .string y.name, .slice ab2 (List.length (by8 y.bytes)) cb2, .slice ae2 (List.length (en2 y.ents)) ce2, .slice ac2 (List.length (ch4 y.chs)) cc2] 27 :: cel b2 #[.int .i64 0, .int .u64 0, .int .u64 0, .int .i64 0, .int .i64 0, .int .i64 0, .int .i64 0, .int .i64 0, .bool false, .string ⟨#[]⟩, .slice none 0 0, .slice none 0 0, .slice none 0 0] 27 :: cel b1 #[.int .i64 x.code, .int .u64 x.a, .int .u64 x.b, .int .i64 x.key, .int .i64 x.val, .int .i64 x.lo, .int .i64 x.hi, .int .i64 x.n, .bool x.flag, .string x.name, .slice ab (List.length (by8 x.bytes)) cb, .slice ae (List.length (en2 x.ents)) ce, .slice ac (List.length (ch4 x.chs)) cc] 27 :: Sh 5 1 (by8 x.bytes) ab cb :: Sh 40 2 (en2 x.ents) ae ce :: Sh 63 4 (ch4 x.chs) ac cc :: L) w := hS
                refine WL.nil ?_
                refine WC.region ?_
                refine WL.r 2 rfl ?_
                refine WL.nw 21 rfl (w64 (by omega)) ?_
                refine WL.r 1 rfl ?_
                refine WL.nil ?_
                exact ⟨_, by omega, k + 1, { y with val := x.val }, ab2, ae2, ac2, cb2, ce2, cc2, rfl, hS, (by omega), (by rw [hr, setFs_go (by omega), show (fs x.code).getD k 0 = 86 by omega, setF_V]), (hs1), (hs2), (hs3), rfl⟩
              · refine WC.seq ?_
                refine WC.region ?_
                refine WL.r 2 rfl ?_
                refine WL.nil ?_
                refine WC.ifP rfl (fun cd6 => ?_) (fun cd6 => ?_)
                · refine WC.region ?_
                  refine WL.run 3 [.int .i64 x.lo] rfl (by exact hS.ld 2 rfl rfl) ?_
                  refine WL.st rfl rfl rfl 0 hS rfl rfl rfl rfl rfl rfl (fun w hS => ?_)
                  replace hS : St g (cel b3 #[.int .i64 y.code, .int .u64 y.a, .int .u64 y.b, .int .i64 y.key, .int .i64 y.val, .int .i64 x.lo, .int .i64 y.hi, .int .i64 y.n, .bool y.flag, .string y.name, .slice ab2 (List.length (by8 y.bytes)) cb2, .slice ae2 (List.length (en2 y.ents)) ce2, .slice ac2 (List.length (ch4 y.chs)) cc2] 27 :: cel b2 #[.int .i64 0, .int .u64 0, .int .u64 0, .int .i64 0, .int .i64 0, .int .i64 0, .int .i64 0, .int .i64 0, .bool false, .string ⟨#[]⟩, .slice none 0 0, .slice none 0 0, .slice none 0 0] 27 :: cel b1 #[.int .i64 x.code, .int .u64 x.a, .int .u64 x.b, .int .i64 x.key, .int .i64 x.val, .int .i64 x.lo, .int .i64 x.hi, .int .i64 x.n, .bool x.flag, .string x.name, .slice ab (List.length (by8 x.bytes)) cb, .slice ae (List.length (en2 x.ents)) ce, .slice ac (List.length (ch4 x.chs)) cc] 27 :: Sh 5 1 (by8 x.bytes) ab cb :: Sh 40 2 (en2 x.ents) ae ce :: Sh 63 4 (ch4 x.chs) ac cc :: L) w := hS
                  refine WL.nil ?_
                  refine WC.region ?_
                  refine WL.r 2 rfl ?_
                  refine WL.nw 21 rfl (w64 (by omega)) ?_
                  refine WL.r 1 rfl ?_
                  refine WL.nil ?_
                  exact ⟨_, by omega, k + 1, { y with lo := x.lo }, ab2, ae2, ac2, cb2, ce2, cc2, rfl, hS, (by omega), (by rw [hr, setFs_go (by omega), show (fs x.code).getD k 0 = 76 by omega, setF_L]), (hs1), (hs2), (hs3), rfl⟩
                · refine WC.seq ?_
                  refine WC.region ?_
                  refine WL.r 2 rfl ?_
                  refine WL.nil ?_
                  refine WC.ifP rfl (fun cd7 => ?_) (fun cd7 => ?_)
                  · refine WC.region ?_
                    refine WL.run 3 [.int .i64 x.hi] rfl (by exact hS.ld 2 rfl rfl) ?_
                    refine WL.st rfl rfl rfl 0 hS rfl rfl rfl rfl rfl rfl (fun w hS => ?_)
                    replace hS : St g (cel b3 #[.int .i64 y.code, .int .u64 y.a, .int .u64 y.b, .int .i64 y.key, .int .i64 y.val, .int .i64 y.lo, .int .i64 x.hi, .int .i64 y.n, .bool y.flag, .string y.name, .slice ab2 (List.length (by8 y.bytes)) cb2, .slice ae2 (List.length (en2 y.ents)) ce2, .slice ac2 (List.length (ch4 y.chs)) cc2] 27 :: cel b2 #[.int .i64 0, .int .u64 0, .int .u64 0, .int .i64 0, .int .i64 0, .int .i64 0, .int .i64 0, .int .i64 0, .bool false, .string ⟨#[]⟩, .slice none 0 0, .slice none 0 0, .slice none 0 0] 27 :: cel b1 #[.int .i64 x.code, .int .u64 x.a, .int .u64 x.b, .int .i64 x.key, .int .i64 x.val, .int .i64 x.lo, .int .i64 x.hi, .int .i64 x.n, .bool x.flag, .string x.name, .slice ab (List.length (by8 x.bytes)) cb, .slice ae (List.length (en2 x.ents)) ce, .slice ac (List.length (ch4 x.chs)) cc] 27 :: Sh 5 1 (by8 x.bytes) ab cb :: Sh 40 2 (en2 x.ents) ae ce :: Sh 63 4 (ch4 x.chs) ac cc :: L) w := hS
                    refine WL.nil ?_
                    as_aux_lemma =>
                      refine WC.region ?_
                      refine WL.r 2 rfl ?_
                      refine WL.nw 21 rfl (w64 (by omega)) ?_
                      refine WL.r 1 rfl ?_
                      refine WL.nil ?_
                      exact ⟨_, by omega, k + 1, { y with hi := x.hi }, ab2, ae2, ac2, cb2, ce2, cc2, rfl, hS, (by omega), (by rw [hr, setFs_go (by omega), show (fs x.code).getD k 0 = 72 by omega, setF_H]), (hs1), (hs2), (hs3), rfl⟩
                  · refine WC.seq ?_
                    refine WC.region ?_
                    refine WL.r 2 rfl ?_
                    refine WL.nil ?_
                    as_aux_lemma =>
                      refine WC.ifP rfl (fun cd8 => ?_) (fun cd8 => ?_)
                      · refine WC.region ?_
                        refine WL.run 3 [.int .i64 x.n] rfl (by exact hS.ld 2 rfl rfl) ?_
                        refine WL.st rfl rfl rfl 0 hS rfl rfl rfl rfl rfl rfl (fun w hS => ?_)
                        replace hS : St g (cel b3 #[.int .i64 y.code, .int .u64 y.a, .int .u64 y.b, .int .i64 y.key, .int .i64 y.val, .int .i64 y.lo, .int .i64 y.hi, .int .i64 x.n, .bool y.flag, .string y.name, .slice ab2 (List.length (by8 y.bytes)) cb2, .slice ae2 (List.length (en2 y.ents)) ce2, .slice ac2 (List.length (ch4 y.chs)) cc2] 27 :: cel b2 #[.int .i64 0, .int .u64 0, .int .u64 0, .int .i64 0, .int .i64 0, .int .i64 0, .int .i64 0, .int .i64 0, .bool false, .string ⟨#[]⟩, .slice none 0 0, .slice none 0 0, .slice none 0 0] 27 :: cel b1 #[.int .i64 x.code, .int .u64 x.a, .int .u64 x.b, .int .i64 x.key, .int .i64 x.val, .int .i64 x.lo, .int .i64 x.hi, .int .i64 x.n, .bool x.flag, .string x.name, .slice ab (List.length (by8 x.bytes)) cb, .slice ae (List.length (en2 x.ents)) ce, .slice ac (List.length (ch4 x.chs)) cc] 27 :: Sh 5 1 (by8 x.bytes) ab cb :: Sh 40 2 (en2 x.ents) ae ce :: Sh 63 4 (ch4 x.chs) ac cc :: L) w := hS
                        refine WL.nil ?_
                        refine WC.region ?_
                        refine WL.r 2 rfl ?_
                        refine WL.nw 21 rfl (w64 (by omega)) ?_
                        refine WL.r 1 rfl ?_
                        refine WL.nil ?_
                        exact ⟨_, by omega, k + 1, { y with n := x.n }, ab2, ae2, ac2, cb2, ce2, cc2, rfl, hS, (by omega), (by rw [hr, setFs_go (by omega), show (fs x.code).getD k 0 = 78 by omega, setF_N]), (hs1), (hs2), (hs3), rfl⟩
                      · refine WC.seq ?_
                        refine WC.region ?_
                        refine WL.r 2 rfl ?_
                        refine WL.nil ?_
                        refine WC.ifP rfl (fun cd9 => ?_) (fun cd9 => ?_)
                        · refine WC.region ?_
                          refine WL.run 3 [.bool x.flag] rfl (by exact hS.ld 2 rfl rfl) ?_
                          refine WL.st rfl rfl rfl 0 hS rfl rfl rfl rfl rfl rfl (fun w hS => ?_)
                          replace hS : St g (cel b3 #[.int .i64 y.code, .int .u64 y.a, .int .u64 y.b, .int .i64 y.key, .int .i64 y.val, .int .i64 y.lo, .int .i64 y.hi, .int .i64 y.n, .bool x.flag, .string y.name, .slice ab2 (List.length (by8 y.bytes)) cb2, .slice ae2 (List.length (en2 y.ents)) ce2, .slice ac2 (List.length (ch4 y.chs)) cc2] 27 :: cel b2 #[.int .i64 0, .int .u64 0, .int .u64 0, .int .i64 0, .int .i64 0, .int .i64 0, .int .i64 0, .int .i64 0, .bool false, .string ⟨#[]⟩, .slice none 0 0, .slice none 0 0, .slice none 0 0] 27 :: cel b1 #[.int .i64 x.code, .int .u64 x.a, .int .u64 x.b, .int .i64 x.key, .int .i64 x.val, .int .i64 x.lo, .int .i64 x.hi, .int .i64 x.n, .bool x.flag, .string x.name, .slice ab (List.length (by8 x.bytes)) cb, .slice ae (List.length (en2 x.ents)) ce, .slice ac (List.length (ch4 x.chs)) cc] 27 :: Sh 5 1 (by8 x.bytes) ab cb :: Sh 40 2 (en2 x.ents) ae ce :: Sh 63 4 (ch4 x.chs) ac cc :: L) w := hS
                          refine WL.nil ?_
                          refine WC.region ?_
                          refine WL.r 2 rfl ?_
                          refine WL.nw 21 rfl (w64 (by omega)) ?_
                          refine WL.r 1 rfl ?_
                          refine WL.nil ?_
                          exact ⟨_, by omega, k + 1, { y with flag := x.flag }, ab2, ae2, ac2, cb2, ce2, cc2, rfl, hS, (by omega), (by rw [hr, setFs_go (by omega), show (fs x.code).getD k 0 = 70 by omega, setF_F]), (hs1), (hs2), (hs3), rfl⟩
                        · refine WC.seq ?_
                          refine WC.region ?_
                          refine WL.r 2 rfl ?_
                          refine WL.nil ?_
                          refine WC.ifP rfl (fun cd10 => ?_) (fun cd10 => ?_)
                          · refine WC.region ?_
                            refine WL.run 3 [.string x.name] rfl (by exact hS.ld 2 rfl rfl) ?_
                            refine WL.st rfl rfl rfl 0 hS rfl rfl rfl rfl rfl rfl (fun w hS => ?_)
                            replace hS : St g (cel b3 #[.int .i64 y.code, .int .u64 y.a, .int .u64 y.b, .int .i64 y.key, .int .i64 y.val, .int .i64 y.lo, .int .i64 y.hi, .int .i64 y.n, .bool y.flag, .string x.name, .slice ab2 (List.length (by8 y.bytes)) cb2, .slice ae2 (List.length (en2 y.ents)) ce2, .slice ac2 (List.length (ch4 y.chs)) cc2] 27 :: cel b2 #[.int .i64 0, .int .u64 0, .int .u64 0, .int .i64 0, .int .i64 0, .int .i64 0, .int .i64 0, .int .i64 0, .bool false, .string ⟨#[]⟩, .slice none 0 0, .slice none 0 0, .slice none 0 0] 27 :: cel b1 #[.int .i64 x.code, .int .u64 x.a, .int .u64 x.b, .int .i64 x.key, .int .i64 x.val, .int .i64 x.lo, .int .i64 x.hi, .int .i64 x.n, .bool x.flag, .string x.name, .slice ab (List.length (by8 x.bytes)) cb, .slice ae (List.length (en2 x.ents)) ce, .slice ac (List.length (ch4 x.chs)) cc] 27 :: Sh 5 1 (by8 x.bytes) ab cb :: Sh 40 2 (en2 x.ents) ae ce :: Sh 63 4 (ch4 x.chs) ac cc :: L) w := hS
                            refine WL.nil ?_
                            refine WC.region ?_
                            refine WL.r 2 rfl ?_
                            refine WL.nw 21 rfl (w64 (by omega)) ?_
                            refine WL.r 1 rfl ?_
                            refine WL.nil ?_
                            exact ⟨_, by omega, k + 1, { y with name := x.name }, ab2, ae2, ac2, cb2, ce2, cc2, rfl, hS, (by omega), (by rw [hr, setFs_go (by omega), show (fs x.code).getD k 0 = 83 by omega, setF_S]), (hs1), (hs2), (hs3), rfl⟩
                          · refine WC.seq ?_
                            refine WC.region ?_
                            refine WL.r 2 rfl ?_
                            refine WL.nil ?_
                            refine WC.ifP rfl (fun cd11 => ?_) (fun cd11 => ?_)
                            · refine WC.region ?_
                              refine WL.run 3 [.slice ab (List.length (by8 x.bytes)) cb] rfl (by exact hS.ld 2 rfl rfl) ?_
                              refine WL.st rfl rfl rfl 0 hS rfl rfl rfl rfl rfl rfl (fun w hS => ?_)
                              replace hS : St g (cel b3 #[.int .i64 y.code, .int .u64 y.a, .int .u64 y.b, .int .i64 y.key, .int .i64 y.val, .int .i64 y.lo, .int .i64 y.hi, .int .i64 y.n, .bool y.flag, .string y.name, .slice ab (List.length (by8 x.bytes)) cb, .slice ae2 (List.length (en2 y.ents)) ce2, .slice ac2 (List.length (ch4 y.chs)) cc2] 27 :: cel b2 #[.int .i64 0, .int .u64 0, .int .u64 0, .int .i64 0, .int .i64 0, .int .i64 0, .int .i64 0, .int .i64 0, .bool false, .string ⟨#[]⟩, .slice none 0 0, .slice none 0 0, .slice none 0 0] 27 :: cel b1 #[.int .i64 x.code, .int .u64 x.a, .int .u64 x.b, .int .i64 x.key, .int .i64 x.val, .int .i64 x.lo, .int .i64 x.hi, .int .i64 x.n, .bool x.flag, .string x.name, .slice ab (List.length (by8 x.bytes)) cb, .slice ae (List.length (en2 x.ents)) ce, .slice ac (List.length (ch4 x.chs)) cc] 27 :: Sh 5 1 (by8 x.bytes) ab cb :: Sh 40 2 (en2 x.ents) ae ce :: Sh 63 4 (ch4 x.chs) ac cc :: L) w := hS
                              refine WL.nil ?_
                              refine WC.region ?_
                              refine WL.r 2 rfl ?_
                              refine WL.nw 21 rfl (w64 (by omega)) ?_
                              refine WL.r 1 rfl ?_
                              refine WL.nil ?_
                              exact ⟨_, by omega, k + 1, { y with bytes := x.bytes }, ab, ae2, ac2, cb, ce2, cc2, rfl, hS, (by omega), (by rw [hr, setFs_go (by omega), show (fs x.code).getD k 0 = 89 by omega, setF_Y]), (SelA.same), (hs2), (hs3), rfl⟩
                            · refine WC.seq ?_
                              refine WC.region ?_
                              refine WL.r 2 rfl ?_
                              refine WL.nil ?_
                              refine WC.ifP rfl (fun cd12 => ?_) (fun cd12 => ?_)
                              · refine WC.region ?_
                                refine WL.run 3 [.slice ae (List.length (en2 x.ents)) ce] rfl (by exact hS.ld 2 rfl rfl) ?_
                                refine WL.st rfl rfl rfl 0 hS rfl rfl rfl rfl rfl rfl (fun w hS => ?_)
                                replace hS : St g (cel b3 #[.int .i64 y.code, .int .u64 y.a, .int .u64 y.b, .int .i64 y.key, .int .i64 y.val, .int .i64 y.lo, .int .i64 y.hi, .int .i64 y.n, .bool y.flag, .string y.name, .slice ab2 (List.length (by8 y.bytes)) cb2, .slice ae (List.length (en2 x.ents)) ce, .slice ac2 (List.length (ch4 y.chs)) cc2] 27 :: cel b2 #[.int .i64 0, .int .u64 0, .int .u64 0, .int .i64 0, .int .i64 0, .int .i64 0, .int .i64 0, .int .i64 0, .bool false, .string ⟨#[]⟩, .slice none 0 0, .slice none 0 0, .slice none 0 0] 27 :: cel b1 #[.int .i64 x.code, .int .u64 x.a, .int .u64 x.b, .int .i64 x.key, .int .i64 x.val, .int .i64 x.lo, .int .i64 x.hi, .int .i64 x.n, .bool x.flag, .string x.name, .slice ab (List.length (by8 x.bytes)) cb, .slice ae (List.length (en2 x.ents)) ce, .slice ac (List.length (ch4 x.chs)) cc] 27 :: Sh 5 1 (by8 x.bytes) ab cb :: Sh 40 2 (en2 x.ents) ae ce :: Sh 63 4 (ch4 x.chs) ac cc :: L) w := hS
                                refine WL.nil ?_
                                as_aux_lemma =>
                                  refine WC.region ?_
                                  refine WL.r 2 rfl ?_
                                  refine WL.nw 21 rfl (w64 (by omega)) ?_
                                  refine WL.r 1 rfl ?_
                                  refine WL.nil ?_
                                  exact ⟨_, by omega, k + 1, { y with ents := x.ents }, ab2, ae, ac2, cb2, ce, cc2, rfl, hS, (by omega), (by rw [hr, setFs_go (by omega), show (fs x.code).getD k 0 = 69 by omega, setF_E]), (hs1), (SelA.same), (hs3), rfl⟩
                              · refine WC.seq ?_
                                refine WC.region ?_
                                refine WL.r 2 rfl ?_
                                refine WL.nil ?_
                                as_aux_lemma =>
                                  refine WC.ifP rfl (fun cd13 => ?_) (fun cd13 => ?_)
                                  · refine WC.region ?_
                                    refine WL.run 3 [.slice ac (List.length (ch4 x.chs)) cc] rfl (by exact hS.ld 2 rfl rfl) ?_
                                    refine WL.st rfl rfl rfl 0 hS rfl rfl rfl rfl rfl rfl (fun w hS => ?_)
                                    replace hS : St g (cel b3 #[.int .i64 y.code, .int .u64 y.a, .int .u64 y.b, .int .i64 y.key, .int .i64 y.val, .int .i64 y.lo, .int .i64 y.hi, .int .i64 y.n, .bool y.flag, .string y.name, .slice ab2 (List.length (by8 y.bytes)) cb2, .slice ae2 (List.length (en2 y.ents)) ce2, .slice ac (List.length (ch4 x.chs)) cc] 27 :: cel b2 #[.int .i64 0, .int .u64 0, .int .u64 0, .int .i64 0, .int .i64 0, .int .i64 0, .int .i64 0, .int .i64 0, .bool false, .string ⟨#[]⟩, .slice none 0 0, .slice none 0 0, .slice none 0 0] 27 :: cel b1 #[.int .i64 x.code, .int .u64 x.a, .int .u64 x.b, .int .i64 x.key, .int .i64 x.val, .int .i64 x.lo, .int .i64 x.hi, .int .i64 x.n, .bool x.flag, .string x.name, .slice ab (List.length (by8 x.bytes)) cb, .slice ae (List.length (en2 x.ents)) ce, .slice ac (List.length (ch4 x.chs)) cc] 27 :: Sh 5 1 (by8 x.bytes) ab cb :: Sh 40 2 (en2 x.ents) ae ce :: Sh 63 4 (ch4 x.chs) ac cc :: L) w := hS
                                    refine WL.nil ?_
                                    refine WC.region ?_
                                    refine WL.r 2 rfl ?_
                                    refine WL.nw 21 rfl (w64 (by omega)) ?_
                                    refine WL.r 1 rfl ?_
                                    refine WL.nil ?_
                                    exact ⟨_, by omega, k + 1, { y with chs := x.chs }, ab2, ae2, ac, cb2, ce2, cc, rfl, hS, (by omega), (by rw [hr, setFs_go (by omega), show (fs x.code).getD k 0 = 67 by omega, setF_C]), (hs1), (hs2), (SelA.same), rfl⟩
                                  · refine WC.skip ?_
                                    refine WC.region ?_
                                    refine WL.r 2 rfl ?_
                                    refine WL.nw 21 rfl (w64 (by omega)) ?_
                                    refine WL.r 1 rfl ?_
                                    refine WL.nil ?_
                                    exact ⟨_, by omega, k + 1, y, ab2, ae2, ac2, cb2, ce2, cc2, rfl, hS, (by omega), (by exfalso; have := ltr_in (c := x.code) (k := k) (by omega); unfold Ltr at this; omega), (hs1), (hs2), (hs3), rfl⟩
    · refine WC.exit ?_
      refine WC.seq ?_
      refine WC.region ?_
      refine WL.ldF rfl rfl 0 hS rfl rfl ag_27 ?_
      refine WL.stF rfl rfl rfl 1 hS rfl rfl rfl rfl rfl ag_27 (fun w hS => ?_)
      replace hS : St g (cel b3 #[.int .i64 y.code, .int .u64 y.a, .int .u64 y.b, .int .i64 y.key, .int .i64 y.val, .int .i64 y.lo, .int .i64 y.hi, .int .i64 y.n, .bool y.flag, .string y.name, .slice ab2 (List.length (by8 y.bytes)) cb2, .slice ae2 (List.length (en2 y.ents)) ce2, .slice ac2 (List.length (ch4 y.chs)) cc2] 27 :: cel b2 #[.int .i64 y.code, .int .u64 y.a, .int .u64 y.b, .int .i64 y.key, .int .i64 y.val, .int .i64 y.lo, .int .i64 y.hi, .int .i64 y.n, .bool y.flag, .string y.name, .slice ab2 (List.length (by8 y.bytes)) cb2, .slice ae2 (List.length (en2 y.ents)) ce2, .slice ac2 (List.length (ch4 y.chs)) cc2] 27 :: cel b1 #[.int .i64 x.code, .int .u64 x.a, .int .u64 x.b, .int .i64 x.key, .int .i64 x.val, .int .i64 x.lo, .int .i64 x.hi, .int .i64 x.n, .bool x.flag, .string x.name, .slice ab (List.length (by8 x.bytes)) cb, .slice ae (List.length (en2 x.ents)) ce, .slice ac (List.length (ch4 x.chs)) cc] 27 :: Sh 5 1 (by8 x.bytes) ab cb :: Sh 40 2 (en2 x.ents) ae ce :: Sh 63 4 (ch4 x.chs) ac cc :: L) w := hS
      refine WL.nil ?_
      refine WC.ret ?_
      refine ⟨[.agg #[.int .i64 y.code, .int .u64 y.a, .int .u64 y.b, .int .i64 y.key, .int .i64 y.val, .int .i64 y.lo, .int .i64 y.hi, .int .i64 y.n, .bool y.flag, .string y.name, .slice ab2 (List.length (by8 y.bytes)) cb2, .slice ae2 (List.length (en2 y.ents)) ce2, .slice ac2 (List.length (ch4 y.chs)) cc2]], ⟨⟨_, rfl, hS.lvF 1 rfl ag_27⟩, trivial⟩, ?_⟩
      rw [hr, setFs_end (by omega)]
      refine ⟨ab2, ae2, ac2, cb2, ce2, cc2, rfl, ?_⟩
      have h3 := St.selA (en := ch4) hS 5 rfl rfl hs3
      have h4 := St.selA (en := en2) h3 5 rfl rfl hs2
      have h5 := St.selA (en := by8) h4 5 rfl rfl hs1
      exact h5.sel 9 [0, 0, 0, 3, 3, 3] rfl

theorem sameop_spec {g w : World} {L : List HP} (x y : OpM) (ab ae ac ab2 ae2 ac2 : Option Addr) (cb ce cc cb2 ce2 cc2 : Nat) (h1 : x.ents.length ≤ 1000000000) (h2 : x.chs.length ≤ 1000000000) (hbx : B8 x.bytes) (hby : B8 y.bytes) (hS : St g (Sh 5 1 (by8 x.bytes) ab cb :: Sh 40 2 (en2 x.ents) ae ce :: Sh 63 4 (ch4 x.chs) ac cc :: Sh 5 1 (by8 y.bytes) ab2 cb2 :: Sh 40 2 (en2 y.ents) ae2 ce2 :: Sh 63 4 (ch4 y.chs) ac2 cc2 :: L) w) :
    Sp Try.prog 25 [.agg #[.int .i64 x.code, .int .u64 x.a, .int .u64 x.b, .int .i64 x.key, .int .i64 x.val, .int .i64 x.lo, .int .i64 x.hi, .int .i64 x.n, .bool x.flag, .string x.name, .slice ab (List.length (by8 x.bytes)) cb, .slice ae (List.length (en2 x.ents)) ce, .slice ac (List.length (ch4 x.chs)) cc], .agg #[.int .i64 y.code, .int .u64 y.a, .int .u64 y.b, .int .i64 y.key, .int .i64 y.val, .int .i64 y.lo, .int .i64 y.hi, .int .i64 y.n, .bool y.flag, .string y.name, .slice ab2 (List.length (by8 y.bytes)) cb2, .slice ae2 (List.length (en2 y.ents)) ce2, .slice ac2 (List.length (ch4 y.chs)) cc2]] w (fun v w' => ∃ (ok : Bool), v = .bool ok ∧ St g (Sh 5 1 (by8 x.bytes) ab cb :: Sh 40 2 (en2 x.ents) ae ce :: Sh 63 4 (ch4 x.chs) ac cc :: Sh 5 1 (by8 y.bytes) ab2 cb2 :: Sh 40 2 (en2 y.ents) ae2 ce2 :: Sh 63 4 (ch4 y.chs) ac2 cc2 :: L) w' ∧ (ok = true ↔ x = y)) := by
  refine Sp.enter Try.func25 rfl (by kernel_rfl) (by kernel_rfl) ?_
  have _ := h2
  have _ := h1
  refine WC.seq ?_
  refine WC.region ?_
  refine WL.box rfl rfl #[.int .i64 x.code, .int .u64 x.a, .int .u64 x.b, .int .i64 x.key, .int .i64 x.val, .int .i64 x.lo, .int .i64 x.hi, .int .i64 x.n, .bool x.flag, .string x.name, .slice ab (List.length (by8 x.bytes)) cb, .slice ae (List.length (en2 x.ents)) ce, .slice ac (List.length (ch4 x.chs)) cc] hS rfl rfl (fun b1 w hS => ?_)
  refine WL.box rfl rfl #[.int .i64 y.code, .int .u64 y.a, .int .u64 y.b, .int .i64 y.key, .int .i64 y.val, .int .i64 y.lo, .int .i64 y.hi, .int .i64 y.n, .bool y.flag, .string y.name, .slice ab2 (List.length (by8 y.bytes)) cb2, .slice ae2 (List.length (en2 y.ents)) ce2, .slice ac2 (List.length (ch4 y.chs)) cc2] hS rfl rfl (fun b2 w hS => ?_)
  refine WL.r 1 rfl ?_
  refine WL.nil ?_
  refine WC.seq ?_
  refine WC.region ?_
  refine WL.run 6 [.int .i64 x.code, .int .i64 y.code] rfl (by exact ⟨hS.ld 1 rfl rfl, hS.ld 0 rfl rfl⟩) ?_
  by_cases cg1 : x.code = y.code
  · refine WL.reb 10 (.bool true) (congrArg Value.bool (decide_eq_true cg1)) ?_
    refine WL.ung rfl rfl rfl ?_
    refine WL.r 1 rfl ?_
    refine WL.ung rfl rfl rfl ?_
    refine WL.run 1 [.int .u64 x.a] rfl (by exact hS.ld 1 rfl rfl) ?_
    refine WL.ung rfl rfl rfl ?_
    refine WL.r 1 rfl ?_
    refine WL.ung rfl rfl rfl ?_
    refine WL.run 1 [.int .u64 y.a] rfl (by exact hS.ld 0 rfl rfl) ?_
    refine WL.ung rfl rfl rfl ?_
    refine WL.r 3 rfl ?_
    by_cases cg2 : x.a = y.a
    · refine WL.reb 17 (.bool true) (congrArg Value.bool (decide_eq_true cg2)) ?_
      refine WL.ung rfl rfl rfl ?_
      refine WL.r 1 rfl ?_
      refine WL.ung rfl rfl rfl ?_
      refine WL.run 1 [.int .u64 x.b] rfl (by exact hS.ld 1 rfl rfl) ?_
      refine WL.ung rfl rfl rfl ?_
      refine WL.r 1 rfl ?_
      refine WL.ung rfl rfl rfl ?_
      refine WL.run 1 [.int .u64 y.b] rfl (by exact hS.ld 0 rfl rfl) ?_
      refine WL.ung rfl rfl rfl ?_
      refine WL.r 3 rfl ?_
      by_cases cg3 : x.b = y.b
      · refine WL.reb 24 (.bool true) (congrArg Value.bool (decide_eq_true cg3)) ?_
        refine WL.ung rfl rfl rfl ?_
        refine WL.r 1 rfl ?_
        refine WL.ung rfl rfl rfl ?_
        refine WL.run 1 [.int .i64 x.key] rfl (by exact hS.ld 1 rfl rfl) ?_
        refine WL.ung rfl rfl rfl ?_
        refine WL.r 1 rfl ?_
        refine WL.ung rfl rfl rfl ?_
        refine WL.run 1 [.int .i64 y.key] rfl (by exact hS.ld 0 rfl rfl) ?_
        refine WL.ung rfl rfl rfl ?_
        refine WL.r 3 rfl ?_
        by_cases cg4 : x.key = y.key
        · refine WL.reb 31 (.bool true) (congrArg Value.bool (decide_eq_true cg4)) ?_
          refine WL.ung rfl rfl rfl ?_
          refine WL.r 1 rfl ?_
          refine WL.ung rfl rfl rfl ?_
          refine WL.run 1 [.int .i64 x.val] rfl (by exact hS.ld 1 rfl rfl) ?_
          refine WL.ung rfl rfl rfl ?_
          refine WL.r 1 rfl ?_
          refine WL.ung rfl rfl rfl ?_
          refine WL.run 1 [.int .i64 y.val] rfl (by exact hS.ld 0 rfl rfl) ?_
          refine WL.ung rfl rfl rfl ?_
          refine WL.r 3 rfl ?_
          by_cases cg5 : x.val = y.val
          · refine WL.reb 38 (.bool true) (congrArg Value.bool (decide_eq_true cg5)) ?_
            refine WL.ung rfl rfl rfl ?_
            refine WL.r 1 rfl ?_
            refine WL.ung rfl rfl rfl ?_
            refine WL.run 1 [.int .i64 x.lo] rfl (by exact hS.ld 1 rfl rfl) ?_
            refine WL.ung rfl rfl rfl ?_
            refine WL.r 1 rfl ?_
            refine WL.ung rfl rfl rfl ?_
            refine WL.run 1 [.int .i64 y.lo] rfl (by exact hS.ld 0 rfl rfl) ?_
            refine WL.ung rfl rfl rfl ?_
            refine WL.r 3 rfl ?_
            by_cases cg6 : x.lo = y.lo
            · refine WL.reb 45 (.bool true) (congrArg Value.bool (decide_eq_true cg6)) ?_
              refine WL.ung rfl rfl rfl ?_
              refine WL.r 1 rfl ?_
              refine WL.ung rfl rfl rfl ?_
              refine WL.run 1 [.int .i64 x.hi] rfl (by exact hS.ld 1 rfl rfl) ?_
              refine WL.ung rfl rfl rfl ?_
              refine WL.r 1 rfl ?_
              refine WL.ung rfl rfl rfl ?_
              refine WL.run 1 [.int .i64 y.hi] rfl (by exact hS.ld 0 rfl rfl) ?_
              refine WL.ung rfl rfl rfl ?_
              refine WL.r 3 rfl ?_
              by_cases cg7 : x.hi = y.hi
              · refine WL.reb 52 (.bool true) (congrArg Value.bool (decide_eq_true cg7)) ?_
                refine WL.ung rfl rfl rfl ?_
                refine WL.r 1 rfl ?_
                refine WL.ung rfl rfl rfl ?_
                refine WL.run 1 [.int .i64 x.n] rfl (by exact hS.ld 1 rfl rfl) ?_
                refine WL.ung rfl rfl rfl ?_
                refine WL.r 1 rfl ?_
                refine WL.ung rfl rfl rfl ?_
                refine WL.run 1 [.int .i64 y.n] rfl (by exact hS.ld 0 rfl rfl) ?_
                refine WL.ung rfl rfl rfl ?_
                refine WL.r 3 rfl ?_
                by_cases cg8 : x.n = y.n
                · refine WL.reb 59 (.bool true) (congrArg Value.bool (decide_eq_true cg8)) ?_
                  refine WL.ung rfl rfl rfl ?_
                  refine WL.r 1 rfl ?_
                  refine WL.ung rfl rfl rfl ?_
                  refine WL.run 1 [.bool x.flag] rfl (by exact hS.ld 1 rfl rfl) ?_
                  refine WL.ung rfl rfl rfl ?_
                  refine WL.r 1 rfl ?_
                  refine WL.ung rfl rfl rfl ?_
                  refine WL.run 1 [.bool y.flag] rfl (by exact hS.ld 0 rfl rfl) ?_
                  refine WL.ung rfl rfl rfl ?_
                  refine WL.r 3 rfl ?_
                  by_cases cg9 : (x.flag == y.flag) = true
                  · refine WL.reb 66 (.bool true) (congrArg Value.bool cg9) ?_
                    refine WL.ung rfl rfl rfl ?_
                    refine WL.r 1 rfl ?_
                    refine WL.ung rfl rfl rfl ?_
                    refine WL.run 1 [.string x.name] rfl (by exact hS.ld 1 rfl rfl) ?_
                    refine WL.ung rfl rfl rfl ?_
                    refine WL.r 1 rfl ?_
                    refine WL.ung rfl rfl rfl ?_
                    refine WL.run 1 [.string y.name] rfl (by exact hS.ld 0 rfl rfl) ?_
                    refine WL.ung rfl rfl rfl ?_
                    refine WL.r 3 rfl ?_
                    by_cases cg10 : x.name = y.name
                    · refine WL.reb 73 (.bool true) (congrArg Value.bool (decide_eq_true cg10)) ?_
                      refine WL.ung rfl rfl rfl ?_
                      refine WL.r 1 rfl ?_
                      refine WL.ung rfl rfl rfl ?_
                      refine WL.run 1 [.slice ab (List.length (by8 x.bytes)) cb] rfl (by exact hS.ld 1 rfl rfl) ?_
                      refine WL.ung rfl rfl rfl ?_
                      refine WL.reb 75 (.slice ab x.bytes.length cb) (congrArg (fun m => Value.slice ab m cb) (by8_len x.bytes)) ?_
                      refine WL.toS rfl rfl Try.underlying23 Try.underlying9 Try.underlying5 (hS.srcS 2 rfl) (by assumption) rfl ?_
                      refine WL.ung rfl rfl rfl ?_
                      refine WL.r 1 rfl ?_
                      refine WL.ung rfl rfl rfl ?_
                      refine WL.run 1 [.slice ab2 (List.length (by8 y.bytes)) cb2] rfl (by exact hS.ld 0 rfl rfl) ?_
                      refine WL.ung rfl rfl rfl ?_
                      refine WL.reb 78 (.slice ab2 y.bytes.length cb2) (congrArg (fun m => Value.slice ab2 m cb2) (by8_len y.bytes)) ?_
                      refine WL.toS rfl rfl Try.underlying23 Try.underlying9 Try.underlying5 (hS.srcS 5 rfl) (by assumption) rfl ?_
                      refine WL.ung rfl rfl rfl ?_
                      refine WL.r 3 rfl ?_
                      by_cases cg11 : (mkS x.bytes) = (mkS y.bytes)
                      · refine WL.reb 82 (.bool true) (congrArg Value.bool (decide_eq_true cg11)) ?_
                        refine WL.ung rfl rfl rfl ?_
                        refine WL.r 1 rfl ?_
                        refine WL.ung rfl rfl rfl ?_
                        refine WL.run 1 [.slice ae (List.length (en2 x.ents)) ce] rfl (by exact hS.ld 1 rfl rfl) ?_
                        refine WL.ung rfl rfl rfl ?_
                        refine WL.r 1 rfl ?_
                        refine WL.ung rfl rfl rfl ?_
                        refine WL.run 1 [.slice ae2 (List.length (en2 y.ents)) ce2] rfl (by exact hS.ld 0 rfl rfl) ?_
                        refine WL.ung rfl rfl rfl ?_
                        refine WL.call rfl rfl (same9 (xs := x.ents) (ys := y.ents) (a := ae) (b := ae2) (c := ce) (d := ce2) (hl := (by omega)) (hS := (hS.sel 8 [3, 5, 0, 0, 0, 0, 0, 0] rfl))) rfl ?_
                        rintro _ w ⟨ok1, rfl, hS, f1⟩
                        replace hS : St g (Sh 40 2 (en2 x.ents) ae ce :: Sh 40 2 (en2 y.ents) ae2 ce2 :: cel b2 #[.int .i64 y.code, .int .u64 y.a, .int .u64 y.b, .int .i64 y.key, .int .i64 y.val, .int .i64 y.lo, .int .i64 y.hi, .int .i64 y.n, .bool y.flag, .string y.name, .slice ab2 (List.length (by8 y.bytes)) cb2, .slice ae2 (List.length (en2 y.ents)) ce2, .slice ac2 (List.length (ch4 y.chs)) cc2] 27 :: cel b1 #[.int .i64 x.code, .int .u64 x.a, .int .u64 x.b, .int .i64 x.key, .int .i64 x.val, .int .i64 x.lo, .int .i64 x.hi, .int .i64 x.n, .bool x.flag, .string x.name, .slice ab (List.length (by8 x.bytes)) cb, .slice ae (List.length (en2 x.ents)) ce, .slice ac (List.length (ch4 x.chs)) cc] 27 :: Sh 5 1 (by8 x.bytes) ab cb :: Sh 63 4 (ch4 x.chs) ac cc :: Sh 5 1 (by8 y.bytes) ab2 cb2 :: Sh 63 4 (ch4 y.chs) ac2 cc2 :: L) w := hS
                        refine WL.r 2 rfl ?_
                        by_cases cg12 : ok1 = true
                        · refine WL.reb 89 (.bool true) (congrArg Value.bool cg12) ?_
                          refine WL.ung rfl rfl rfl ?_
                          refine WL.r 1 rfl ?_
                          refine WL.ung rfl rfl rfl ?_
                          refine WL.run 1 [.slice ac (List.length (ch4 x.chs)) cc] rfl (by exact hS.ld 3 rfl rfl) ?_
                          refine WL.ung rfl rfl rfl ?_
                          refine WL.r 1 rfl ?_
                          refine WL.ung rfl rfl rfl ?_
                          refine WL.run 1 [.slice ac2 (List.length (ch4 y.chs)) cc2] rfl (by exact hS.ld 2 rfl rfl) ?_
                          refine WL.ung rfl rfl rfl ?_
                          refine WL.call rfl rfl (same19 (xs := x.chs) (ys := y.chs) (a := ac) (b := ac2) (c := cc) (d := cc2) (hl := (by omega)) (hS := (hS.sel 8 [5, 6, 0, 0, 0, 0, 0, 0] rfl))) rfl ?_
                          rintro _ w ⟨ok2, rfl, hS, f2⟩
                          replace hS : St g (Sh 63 4 (ch4 x.chs) ac cc :: Sh 63 4 (ch4 y.chs) ac2 cc2 :: Sh 40 2 (en2 x.ents) ae ce :: Sh 40 2 (en2 y.ents) ae2 ce2 :: cel b2 #[.int .i64 y.code, .int .u64 y.a, .int .u64 y.b, .int .i64 y.key, .int .i64 y.val, .int .i64 y.lo, .int .i64 y.hi, .int .i64 y.n, .bool y.flag, .string y.name, .slice ab2 (List.length (by8 y.bytes)) cb2, .slice ae2 (List.length (en2 y.ents)) ce2, .slice ac2 (List.length (ch4 y.chs)) cc2] 27 :: cel b1 #[.int .i64 x.code, .int .u64 x.a, .int .u64 x.b, .int .i64 x.key, .int .i64 x.val, .int .i64 x.lo, .int .i64 x.hi, .int .i64 x.n, .bool x.flag, .string x.name, .slice ab (List.length (by8 x.bytes)) cb, .slice ae (List.length (en2 x.ents)) ce, .slice ac (List.length (ch4 x.chs)) cc] 27 :: Sh 5 1 (by8 x.bytes) ab cb :: Sh 5 1 (by8 y.bytes) ab2 cb2 :: L) w := hS
                          refine WL.r 2 rfl ?_
                          refine WL.nil ?_
                          as_aux_lemma =>
                            refine WC.ret ?_
                            refine ⟨[.bool ok2], rfl, ?_⟩
                            replace hS := (hS.sel 8 [6, 2, 0, 4, 1, 0] rfl)
                            exact ⟨_, rfl, hS, ⟨fun h => OpM.ext' ⟨cg1, cg2, cg3, cg4, cg5, cg6, cg7, cg8, by simpa using cg9, cg10, mkS_inj hbx hby cg11, f1.1 cg12, f2.1 h⟩, fun h => f2.2 (by rw [h])⟩⟩
                        · refine WL.reb 89 (.bool false) (congrArg Value.bool (Bool.eq_false_iff.2 cg12)) ?_
                          refine WL.skp rfl rfl rfl rfl ?_
                          refine WL.skp rfl rfl rfl rfl ?_
                          refine WL.skp rfl rfl rfl rfl ?_
                          refine WL.skp rfl rfl rfl rfl ?_
                          refine WL.skp rfl rfl rfl rfl ?_
                          refine WL.r 2 rfl ?_
                          refine WL.nil ?_
                          as_aux_lemma =>
                            refine WC.ret ?_
                            refine ⟨[.bool false], rfl, ?_⟩
                            replace hS := (hS.sel 8 [4, 0, 3, 3, 0, 2] rfl)
                            exact ⟨_, rfl, hS, ⟨fun h => (by cases h), fun h => absurd (f1.2 (by rw [h])) cg12⟩⟩
                      · refine WL.reb 82 (.bool false) (congrArg Value.bool (decide_eq_false cg11)) ?_
                        refine WL.skp rfl rfl rfl rfl ?_
                        refine WL.skp rfl rfl rfl rfl ?_
                        refine WL.skp rfl rfl rfl rfl ?_
                        refine WL.skp rfl rfl rfl rfl ?_
                        refine WL.skp rfl rfl rfl rfl ?_
                        refine WL.r 2 rfl ?_
                        refine WL.skp rfl rfl rfl rfl ?_
                        refine WL.skp rfl rfl rfl rfl ?_
                        refine WL.skp rfl rfl rfl rfl ?_
                        refine WL.skp rfl rfl rfl rfl ?_
                        refine WL.skp rfl rfl rfl rfl ?_
                        refine WL.r 2 rfl ?_
                        refine WL.nil ?_
                        as_aux_lemma =>
                          refine WC.ret ?_
                          refine ⟨[.bool false], rfl, ?_⟩
                          replace hS := (hS.sel 8 [2, 2, 2, 2, 2, 2] rfl)
                          exact ⟨_, rfl, hS, ⟨fun h => (by cases h), fun h => absurd (by subst h; simp) cg11⟩⟩
                    · refine WL.reb 73 (.bool false) (congrArg Value.bool (decide_eq_false cg10)) ?_
                      refine WL.skp rfl rfl rfl rfl ?_
                      refine WL.skp rfl rfl rfl rfl ?_
                      refine WL.skp rfl rfl rfl rfl ?_
                      refine WL.skp rfl rfl rfl rfl ?_
                      refine WL.skp rfl rfl rfl rfl ?_
                      refine WL.skp rfl rfl rfl rfl ?_
                      refine WL.skp rfl rfl rfl rfl ?_
                      refine WL.r 2 rfl ?_
                      refine WL.skp rfl rfl rfl rfl ?_
                      refine WL.skp rfl rfl rfl rfl ?_
                      refine WL.skp rfl rfl rfl rfl ?_
                      refine WL.skp rfl rfl rfl rfl ?_
                      refine WL.skp rfl rfl rfl rfl ?_
                      refine WL.r 2 rfl ?_
                      refine WL.skp rfl rfl rfl rfl ?_
                      refine WL.skp rfl rfl rfl rfl ?_
                      refine WL.skp rfl rfl rfl rfl ?_
                      refine WL.skp rfl rfl rfl rfl ?_
                      refine WL.skp rfl rfl rfl rfl ?_
                      refine WL.r 2 rfl ?_
                      refine WL.nil ?_
                      as_aux_lemma =>
                        refine WC.ret ?_
                        refine ⟨[.bool false], rfl, ?_⟩
                        replace hS := (hS.sel 8 [2, 2, 2, 2, 2, 2] rfl)
                        exact ⟨_, rfl, hS, ⟨fun h => (by cases h), fun h => absurd (by subst h; simp) cg10⟩⟩
                  · refine WL.reb 66 (.bool false) (congrArg Value.bool (Bool.eq_false_iff.2 cg9)) ?_
                    refine WL.skp rfl rfl rfl rfl ?_
                    refine WL.skp rfl rfl rfl rfl ?_
                    refine WL.skp rfl rfl rfl rfl ?_
                    refine WL.skp rfl rfl rfl rfl ?_
                    refine WL.skp rfl rfl rfl rfl ?_
                    refine WL.r 2 rfl ?_
                    refine WL.skp rfl rfl rfl rfl ?_
                    refine WL.skp rfl rfl rfl rfl ?_
                    refine WL.skp rfl rfl rfl rfl ?_
                    refine WL.skp rfl rfl rfl rfl ?_
                    refine WL.skp rfl rfl rfl rfl ?_
                    refine WL.skp rfl rfl rfl rfl ?_
                    refine WL.skp rfl rfl rfl rfl ?_
                    refine WL.r 2 rfl ?_
                    refine WL.skp rfl rfl rfl rfl ?_
                    refine WL.skp rfl rfl rfl rfl ?_
                    refine WL.skp rfl rfl rfl rfl ?_
                    refine WL.skp rfl rfl rfl rfl ?_
                    refine WL.skp rfl rfl rfl rfl ?_
                    refine WL.r 2 rfl ?_
                    refine WL.skp rfl rfl rfl rfl ?_
                    refine WL.skp rfl rfl rfl rfl ?_
                    refine WL.skp rfl rfl rfl rfl ?_
                    refine WL.skp rfl rfl rfl rfl ?_
                    refine WL.skp rfl rfl rfl rfl ?_
                    refine WL.r 2 rfl ?_
                    refine WL.nil ?_
                    as_aux_lemma =>
                      refine WC.ret ?_
                      refine ⟨[.bool false], rfl, ?_⟩
                      replace hS := (hS.sel 8 [2, 2, 2, 2, 2, 2] rfl)
                      exact ⟨_, rfl, hS, ⟨fun h => (by cases h), fun h => absurd (by subst h; simp) cg9⟩⟩
                · refine WL.reb 59 (.bool false) (congrArg Value.bool (decide_eq_false cg8)) ?_
                  refine WL.skp rfl rfl rfl rfl ?_
                  refine WL.skp rfl rfl rfl rfl ?_
                  refine WL.skp rfl rfl rfl rfl ?_
                  refine WL.skp rfl rfl rfl rfl ?_
                  refine WL.skp rfl rfl rfl rfl ?_
                  refine WL.r 2 rfl ?_
                  refine WL.skp rfl rfl rfl rfl ?_
                  refine WL.skp rfl rfl rfl rfl ?_
                  refine WL.skp rfl rfl rfl rfl ?_
                  refine WL.skp rfl rfl rfl rfl ?_
                  refine WL.skp rfl rfl rfl rfl ?_
                  refine WL.r 2 rfl ?_
                  refine WL.skp rfl rfl rfl rfl ?_
                  refine WL.skp rfl rfl rfl rfl ?_
                  refine WL.skp rfl rfl rfl rfl ?_
                  refine WL.skp rfl rfl rfl rfl ?_
                  refine WL.skp rfl rfl rfl rfl ?_
                  refine WL.skp rfl rfl rfl rfl ?_
                  refine WL.skp rfl rfl rfl rfl ?_
                  refine WL.r 2 rfl ?_
                  refine WL.skp rfl rfl rfl rfl ?_
                  refine WL.skp rfl rfl rfl rfl ?_
                  refine WL.skp rfl rfl rfl rfl ?_
                  refine WL.skp rfl rfl rfl rfl ?_
                  refine WL.skp rfl rfl rfl rfl ?_
                  refine WL.r 2 rfl ?_
                  refine WL.skp rfl rfl rfl rfl ?_
                  refine WL.skp rfl rfl rfl rfl ?_
                  refine WL.skp rfl rfl rfl rfl ?_
                  refine WL.skp rfl rfl rfl rfl ?_
                  refine WL.skp rfl rfl rfl rfl ?_
                  refine WL.r 2 rfl ?_
                  refine WL.nil ?_
                  as_aux_lemma =>
                    refine WC.ret ?_
                    refine ⟨[.bool false], rfl, ?_⟩
                    replace hS := (hS.sel 8 [2, 2, 2, 2, 2, 2] rfl)
                    exact ⟨_, rfl, hS, ⟨fun h => (by cases h), fun h => absurd (by subst h; simp) cg8⟩⟩
              · refine WL.reb 52 (.bool false) (congrArg Value.bool (decide_eq_false cg7)) ?_
                refine WL.skp rfl rfl rfl rfl ?_
                refine WL.skp rfl rfl rfl rfl ?_
                refine WL.skp rfl rfl rfl rfl ?_
                refine WL.skp rfl rfl rfl rfl ?_
                refine WL.skp rfl rfl rfl rfl ?_
                refine WL.r 2 rfl ?_
                refine WL.skp rfl rfl rfl rfl ?_
                refine WL.skp rfl rfl rfl rfl ?_
                refine WL.skp rfl rfl rfl rfl ?_
                refine WL.skp rfl rfl rfl rfl ?_
                refine WL.skp rfl rfl rfl rfl ?_
                refine WL.r 2 rfl ?_
                refine WL.skp rfl rfl rfl rfl ?_
                refine WL.skp rfl rfl rfl rfl ?_
                refine WL.skp rfl rfl rfl rfl ?_
                refine WL.skp rfl rfl rfl rfl ?_
                refine WL.skp rfl rfl rfl rfl ?_
                refine WL.r 2 rfl ?_
                refine WL.skp rfl rfl rfl rfl ?_
                refine WL.skp rfl rfl rfl rfl ?_
                refine WL.skp rfl rfl rfl rfl ?_
                refine WL.skp rfl rfl rfl rfl ?_
                refine WL.skp rfl rfl rfl rfl ?_
                refine WL.skp rfl rfl rfl rfl ?_
                refine WL.skp rfl rfl rfl rfl ?_
                refine WL.r 2 rfl ?_
                refine WL.skp rfl rfl rfl rfl ?_
                refine WL.skp rfl rfl rfl rfl ?_
                refine WL.skp rfl rfl rfl rfl ?_
                refine WL.skp rfl rfl rfl rfl ?_
                refine WL.skp rfl rfl rfl rfl ?_
                refine WL.r 2 rfl ?_
                refine WL.skp rfl rfl rfl rfl ?_
                refine WL.skp rfl rfl rfl rfl ?_
                refine WL.skp rfl rfl rfl rfl ?_
                refine WL.skp rfl rfl rfl rfl ?_
                refine WL.skp rfl rfl rfl rfl ?_
                refine WL.r 2 rfl ?_
                refine WL.nil ?_
                as_aux_lemma =>
                  refine WC.ret ?_
                  refine ⟨[.bool false], rfl, ?_⟩
                  replace hS := (hS.sel 8 [2, 2, 2, 2, 2, 2] rfl)
                  exact ⟨_, rfl, hS, ⟨fun h => (by cases h), fun h => absurd (by subst h; simp) cg7⟩⟩
            · refine WL.reb 45 (.bool false) (congrArg Value.bool (decide_eq_false cg6)) ?_
              refine WL.skp rfl rfl rfl rfl ?_
              refine WL.skp rfl rfl rfl rfl ?_
              refine WL.skp rfl rfl rfl rfl ?_
              refine WL.skp rfl rfl rfl rfl ?_
              refine WL.skp rfl rfl rfl rfl ?_
              refine WL.r 2 rfl ?_
              refine WL.skp rfl rfl rfl rfl ?_
              refine WL.skp rfl rfl rfl rfl ?_
              refine WL.skp rfl rfl rfl rfl ?_
              refine WL.skp rfl rfl rfl rfl ?_
              refine WL.skp rfl rfl rfl rfl ?_
              refine WL.r 2 rfl ?_
              refine WL.skp rfl rfl rfl rfl ?_
              refine WL.skp rfl rfl rfl rfl ?_
              refine WL.skp rfl rfl rfl rfl ?_
              refine WL.skp rfl rfl rfl rfl ?_
              refine WL.skp rfl rfl rfl rfl ?_
              refine WL.r 2 rfl ?_
              refine WL.skp rfl rfl rfl rfl ?_
              refine WL.skp rfl rfl rfl rfl ?_
              refine WL.skp rfl rfl rfl rfl ?_
              refine WL.skp rfl rfl rfl rfl ?_
              refine WL.skp rfl rfl rfl rfl ?_
              refine WL.r 2 rfl ?_
              refine WL.skp rfl rfl rfl rfl ?_
              refine WL.skp rfl rfl rfl rfl ?_
              refine WL.skp rfl rfl rfl rfl ?_
              refine WL.skp rfl rfl rfl rfl ?_
              refine WL.skp rfl rfl rfl rfl ?_
              refine WL.skp rfl rfl rfl rfl ?_
              refine WL.skp rfl rfl rfl rfl ?_
              refine WL.r 2 rfl ?_
              refine WL.skp rfl rfl rfl rfl ?_
              refine WL.skp rfl rfl rfl rfl ?_
              refine WL.skp rfl rfl rfl rfl ?_
              refine WL.skp rfl rfl rfl rfl ?_
              refine WL.skp rfl rfl rfl rfl ?_
              refine WL.r 2 rfl ?_
              refine WL.skp rfl rfl rfl rfl ?_
              refine WL.skp rfl rfl rfl rfl ?_
              refine WL.skp rfl rfl rfl rfl ?_
              refine WL.skp rfl rfl rfl rfl ?_
              refine WL.skp rfl rfl rfl rfl ?_
              refine WL.r 2 rfl ?_
              refine WL.nil ?_
              as_aux_lemma =>
                refine WC.ret ?_
                refine ⟨[.bool false], rfl, ?_⟩
                replace hS := (hS.sel 8 [2, 2, 2, 2, 2, 2] rfl)
                exact ⟨_, rfl, hS, ⟨fun h => (by cases h), fun h => absurd (by subst h; simp) cg6⟩⟩
          · refine WL.reb 38 (.bool false) (congrArg Value.bool (decide_eq_false cg5)) ?_
            refine WL.skp rfl rfl rfl rfl ?_
            refine WL.skp rfl rfl rfl rfl ?_
            refine WL.skp rfl rfl rfl rfl ?_
            refine WL.skp rfl rfl rfl rfl ?_
            refine WL.skp rfl rfl rfl rfl ?_
            refine WL.r 2 rfl ?_
            refine WL.skp rfl rfl rfl rfl ?_
            refine WL.skp rfl rfl rfl rfl ?_
            refine WL.skp rfl rfl rfl rfl ?_
            refine WL.skp rfl rfl rfl rfl ?_
            refine WL.skp rfl rfl rfl rfl ?_
            refine WL.r 2 rfl ?_
            refine WL.skp rfl rfl rfl rfl ?_
            refine WL.skp rfl rfl rfl rfl ?_
            refine WL.skp rfl rfl rfl rfl ?_
            refine WL.skp rfl rfl rfl rfl ?_
            refine WL.skp rfl rfl rfl rfl ?_
            refine WL.r 2 rfl ?_
            refine WL.skp rfl rfl rfl rfl ?_
            refine WL.skp rfl rfl rfl rfl ?_
            refine WL.skp rfl rfl rfl rfl ?_
            refine WL.skp rfl rfl rfl rfl ?_
            refine WL.skp rfl rfl rfl rfl ?_
            refine WL.r 2 rfl ?_
            refine WL.skp rfl rfl rfl rfl ?_
            refine WL.skp rfl rfl rfl rfl ?_
            refine WL.skp rfl rfl rfl rfl ?_
            refine WL.skp rfl rfl rfl rfl ?_
            refine WL.skp rfl rfl rfl rfl ?_
            refine WL.r 2 rfl ?_
            refine WL.skp rfl rfl rfl rfl ?_
            refine WL.skp rfl rfl rfl rfl ?_
            refine WL.skp rfl rfl rfl rfl ?_
            refine WL.skp rfl rfl rfl rfl ?_
            refine WL.skp rfl rfl rfl rfl ?_
            refine WL.skp rfl rfl rfl rfl ?_
            refine WL.skp rfl rfl rfl rfl ?_
            refine WL.r 2 rfl ?_
            refine WL.skp rfl rfl rfl rfl ?_
            refine WL.skp rfl rfl rfl rfl ?_
            refine WL.skp rfl rfl rfl rfl ?_
            refine WL.skp rfl rfl rfl rfl ?_
            refine WL.skp rfl rfl rfl rfl ?_
            refine WL.r 2 rfl ?_
            refine WL.skp rfl rfl rfl rfl ?_
            refine WL.skp rfl rfl rfl rfl ?_
            refine WL.skp rfl rfl rfl rfl ?_
            refine WL.skp rfl rfl rfl rfl ?_
            refine WL.skp rfl rfl rfl rfl ?_
            refine WL.r 2 rfl ?_
            refine WL.nil ?_
            as_aux_lemma =>
              refine WC.ret ?_
              refine ⟨[.bool false], rfl, ?_⟩
              replace hS := (hS.sel 8 [2, 2, 2, 2, 2, 2] rfl)
              exact ⟨_, rfl, hS, ⟨fun h => (by cases h), fun h => absurd (by subst h; simp) cg5⟩⟩
        · refine WL.reb 31 (.bool false) (congrArg Value.bool (decide_eq_false cg4)) ?_
          refine WL.skp rfl rfl rfl rfl ?_
          refine WL.skp rfl rfl rfl rfl ?_
          refine WL.skp rfl rfl rfl rfl ?_
          refine WL.skp rfl rfl rfl rfl ?_
          refine WL.skp rfl rfl rfl rfl ?_
          refine WL.r 2 rfl ?_
          refine WL.skp rfl rfl rfl rfl ?_
          refine WL.skp rfl rfl rfl rfl ?_
          refine WL.skp rfl rfl rfl rfl ?_
          refine WL.skp rfl rfl rfl rfl ?_
          refine WL.skp rfl rfl rfl rfl ?_
          refine WL.r 2 rfl ?_
          refine WL.skp rfl rfl rfl rfl ?_
          refine WL.skp rfl rfl rfl rfl ?_
          refine WL.skp rfl rfl rfl rfl ?_
          refine WL.skp rfl rfl rfl rfl ?_
          refine WL.skp rfl rfl rfl rfl ?_
          refine WL.r 2 rfl ?_
          refine WL.skp rfl rfl rfl rfl ?_
          refine WL.skp rfl rfl rfl rfl ?_
          refine WL.skp rfl rfl rfl rfl ?_
          refine WL.skp rfl rfl rfl rfl ?_
          refine WL.skp rfl rfl rfl rfl ?_
          refine WL.r 2 rfl ?_
          refine WL.skp rfl rfl rfl rfl ?_
          refine WL.skp rfl rfl rfl rfl ?_
          refine WL.skp rfl rfl rfl rfl ?_
          refine WL.skp rfl rfl rfl rfl ?_
          refine WL.skp rfl rfl rfl rfl ?_
          refine WL.r 2 rfl ?_
          refine WL.skp rfl rfl rfl rfl ?_
          refine WL.skp rfl rfl rfl rfl ?_
          refine WL.skp rfl rfl rfl rfl ?_
          refine WL.skp rfl rfl rfl rfl ?_
          refine WL.skp rfl rfl rfl rfl ?_
          refine WL.r 2 rfl ?_
          refine WL.skp rfl rfl rfl rfl ?_
          refine WL.skp rfl rfl rfl rfl ?_
          refine WL.skp rfl rfl rfl rfl ?_
          refine WL.skp rfl rfl rfl rfl ?_
          refine WL.skp rfl rfl rfl rfl ?_
          refine WL.skp rfl rfl rfl rfl ?_
          refine WL.skp rfl rfl rfl rfl ?_
          refine WL.r 2 rfl ?_
          refine WL.skp rfl rfl rfl rfl ?_
          refine WL.skp rfl rfl rfl rfl ?_
          refine WL.skp rfl rfl rfl rfl ?_
          refine WL.skp rfl rfl rfl rfl ?_
          refine WL.skp rfl rfl rfl rfl ?_
          refine WL.r 2 rfl ?_
          refine WL.skp rfl rfl rfl rfl ?_
          refine WL.skp rfl rfl rfl rfl ?_
          refine WL.skp rfl rfl rfl rfl ?_
          refine WL.skp rfl rfl rfl rfl ?_
          refine WL.skp rfl rfl rfl rfl ?_
          refine WL.r 2 rfl ?_
          refine WL.nil ?_
          as_aux_lemma =>
            refine WC.ret ?_
            refine ⟨[.bool false], rfl, ?_⟩
            replace hS := (hS.sel 8 [2, 2, 2, 2, 2, 2] rfl)
            exact ⟨_, rfl, hS, ⟨fun h => (by cases h), fun h => absurd (by subst h; simp) cg4⟩⟩
      · refine WL.reb 24 (.bool false) (congrArg Value.bool (decide_eq_false cg3)) ?_
        refine WL.skp rfl rfl rfl rfl ?_
        refine WL.skp rfl rfl rfl rfl ?_
        refine WL.skp rfl rfl rfl rfl ?_
        refine WL.skp rfl rfl rfl rfl ?_
        refine WL.skp rfl rfl rfl rfl ?_
        refine WL.r 2 rfl ?_
        refine WL.skp rfl rfl rfl rfl ?_
        refine WL.skp rfl rfl rfl rfl ?_
        refine WL.skp rfl rfl rfl rfl ?_
        refine WL.skp rfl rfl rfl rfl ?_
        refine WL.skp rfl rfl rfl rfl ?_
        refine WL.r 2 rfl ?_
        refine WL.skp rfl rfl rfl rfl ?_
        refine WL.skp rfl rfl rfl rfl ?_
        refine WL.skp rfl rfl rfl rfl ?_
        refine WL.skp rfl rfl rfl rfl ?_
        refine WL.skp rfl rfl rfl rfl ?_
        refine WL.r 2 rfl ?_
        refine WL.skp rfl rfl rfl rfl ?_
        refine WL.skp rfl rfl rfl rfl ?_
        refine WL.skp rfl rfl rfl rfl ?_
        refine WL.skp rfl rfl rfl rfl ?_
        refine WL.skp rfl rfl rfl rfl ?_
        refine WL.r 2 rfl ?_
        refine WL.skp rfl rfl rfl rfl ?_
        refine WL.skp rfl rfl rfl rfl ?_
        refine WL.skp rfl rfl rfl rfl ?_
        refine WL.skp rfl rfl rfl rfl ?_
        refine WL.skp rfl rfl rfl rfl ?_
        refine WL.r 2 rfl ?_
        refine WL.skp rfl rfl rfl rfl ?_
        refine WL.skp rfl rfl rfl rfl ?_
        refine WL.skp rfl rfl rfl rfl ?_
        refine WL.skp rfl rfl rfl rfl ?_
        refine WL.skp rfl rfl rfl rfl ?_
        refine WL.r 2 rfl ?_
        refine WL.skp rfl rfl rfl rfl ?_
        refine WL.skp rfl rfl rfl rfl ?_
        refine WL.skp rfl rfl rfl rfl ?_
        refine WL.skp rfl rfl rfl rfl ?_
        refine WL.skp rfl rfl rfl rfl ?_
        refine WL.r 2 rfl ?_
        refine WL.skp rfl rfl rfl rfl ?_
        refine WL.skp rfl rfl rfl rfl ?_
        refine WL.skp rfl rfl rfl rfl ?_
        refine WL.skp rfl rfl rfl rfl ?_
        refine WL.skp rfl rfl rfl rfl ?_
        refine WL.skp rfl rfl rfl rfl ?_
        refine WL.skp rfl rfl rfl rfl ?_
        refine WL.r 2 rfl ?_
        refine WL.skp rfl rfl rfl rfl ?_
        refine WL.skp rfl rfl rfl rfl ?_
        refine WL.skp rfl rfl rfl rfl ?_
        refine WL.skp rfl rfl rfl rfl ?_
        refine WL.skp rfl rfl rfl rfl ?_
        refine WL.r 2 rfl ?_
        refine WL.skp rfl rfl rfl rfl ?_
        refine WL.skp rfl rfl rfl rfl ?_
        refine WL.skp rfl rfl rfl rfl ?_
        refine WL.skp rfl rfl rfl rfl ?_
        refine WL.skp rfl rfl rfl rfl ?_
        refine WL.r 2 rfl ?_
        refine WL.nil ?_
        as_aux_lemma =>
          refine WC.ret ?_
          refine ⟨[.bool false], rfl, ?_⟩
          replace hS := (hS.sel 8 [2, 2, 2, 2, 2, 2] rfl)
          exact ⟨_, rfl, hS, ⟨fun h => (by cases h), fun h => absurd (by subst h; simp) cg3⟩⟩
    · refine WL.reb 17 (.bool false) (congrArg Value.bool (decide_eq_false cg2)) ?_
      refine WL.skp rfl rfl rfl rfl ?_
      refine WL.skp rfl rfl rfl rfl ?_
      refine WL.skp rfl rfl rfl rfl ?_
      refine WL.skp rfl rfl rfl rfl ?_
      refine WL.skp rfl rfl rfl rfl ?_
      refine WL.r 2 rfl ?_
      refine WL.skp rfl rfl rfl rfl ?_
      refine WL.skp rfl rfl rfl rfl ?_
      refine WL.skp rfl rfl rfl rfl ?_
      refine WL.skp rfl rfl rfl rfl ?_
      refine WL.skp rfl rfl rfl rfl ?_
      refine WL.r 2 rfl ?_
      refine WL.skp rfl rfl rfl rfl ?_
      refine WL.skp rfl rfl rfl rfl ?_
      refine WL.skp rfl rfl rfl rfl ?_
      refine WL.skp rfl rfl rfl rfl ?_
      refine WL.skp rfl rfl rfl rfl ?_
      refine WL.r 2 rfl ?_
      refine WL.skp rfl rfl rfl rfl ?_
      refine WL.skp rfl rfl rfl rfl ?_
      refine WL.skp rfl rfl rfl rfl ?_
      refine WL.skp rfl rfl rfl rfl ?_
      refine WL.skp rfl rfl rfl rfl ?_
      refine WL.r 2 rfl ?_
      refine WL.skp rfl rfl rfl rfl ?_
      refine WL.skp rfl rfl rfl rfl ?_
      refine WL.skp rfl rfl rfl rfl ?_
      refine WL.skp rfl rfl rfl rfl ?_
      refine WL.skp rfl rfl rfl rfl ?_
      refine WL.r 2 rfl ?_
      refine WL.skp rfl rfl rfl rfl ?_
      refine WL.skp rfl rfl rfl rfl ?_
      refine WL.skp rfl rfl rfl rfl ?_
      refine WL.skp rfl rfl rfl rfl ?_
      refine WL.skp rfl rfl rfl rfl ?_
      refine WL.r 2 rfl ?_
      refine WL.skp rfl rfl rfl rfl ?_
      refine WL.skp rfl rfl rfl rfl ?_
      refine WL.skp rfl rfl rfl rfl ?_
      refine WL.skp rfl rfl rfl rfl ?_
      refine WL.skp rfl rfl rfl rfl ?_
      refine WL.r 2 rfl ?_
      refine WL.skp rfl rfl rfl rfl ?_
      refine WL.skp rfl rfl rfl rfl ?_
      refine WL.skp rfl rfl rfl rfl ?_
      refine WL.skp rfl rfl rfl rfl ?_
      refine WL.skp rfl rfl rfl rfl ?_
      refine WL.r 2 rfl ?_
      refine WL.skp rfl rfl rfl rfl ?_
      refine WL.skp rfl rfl rfl rfl ?_
      refine WL.skp rfl rfl rfl rfl ?_
      refine WL.skp rfl rfl rfl rfl ?_
      refine WL.skp rfl rfl rfl rfl ?_
      refine WL.skp rfl rfl rfl rfl ?_
      refine WL.skp rfl rfl rfl rfl ?_
      refine WL.r 2 rfl ?_
      refine WL.skp rfl rfl rfl rfl ?_
      refine WL.skp rfl rfl rfl rfl ?_
      refine WL.skp rfl rfl rfl rfl ?_
      refine WL.skp rfl rfl rfl rfl ?_
      refine WL.skp rfl rfl rfl rfl ?_
      refine WL.r 2 rfl ?_
      refine WL.skp rfl rfl rfl rfl ?_
      refine WL.skp rfl rfl rfl rfl ?_
      refine WL.skp rfl rfl rfl rfl ?_
      refine WL.skp rfl rfl rfl rfl ?_
      refine WL.skp rfl rfl rfl rfl ?_
      refine WL.r 2 rfl ?_
      refine WL.nil ?_
      as_aux_lemma =>
        refine WC.ret ?_
        refine ⟨[.bool false], rfl, ?_⟩
        replace hS := (hS.sel 8 [2, 2, 2, 2, 2, 2] rfl)
        exact ⟨_, rfl, hS, ⟨fun h => (by cases h), fun h => absurd (by subst h; simp) cg2⟩⟩
  · refine WL.reb 10 (.bool false) (congrArg Value.bool (decide_eq_false cg1)) ?_
    refine WL.skp rfl rfl rfl rfl ?_
    refine WL.skp rfl rfl rfl rfl ?_
    refine WL.skp rfl rfl rfl rfl ?_
    refine WL.skp rfl rfl rfl rfl ?_
    refine WL.skp rfl rfl rfl rfl ?_
    refine WL.r 2 rfl ?_
    refine WL.skp rfl rfl rfl rfl ?_
    refine WL.skp rfl rfl rfl rfl ?_
    refine WL.skp rfl rfl rfl rfl ?_
    refine WL.skp rfl rfl rfl rfl ?_
    refine WL.skp rfl rfl rfl rfl ?_
    refine WL.r 2 rfl ?_
    refine WL.skp rfl rfl rfl rfl ?_
    refine WL.skp rfl rfl rfl rfl ?_
    refine WL.skp rfl rfl rfl rfl ?_
    refine WL.skp rfl rfl rfl rfl ?_
    refine WL.skp rfl rfl rfl rfl ?_
    refine WL.r 2 rfl ?_
    refine WL.skp rfl rfl rfl rfl ?_
    refine WL.skp rfl rfl rfl rfl ?_
    refine WL.skp rfl rfl rfl rfl ?_
    refine WL.skp rfl rfl rfl rfl ?_
    refine WL.skp rfl rfl rfl rfl ?_
    refine WL.r 2 rfl ?_
    refine WL.skp rfl rfl rfl rfl ?_
    refine WL.skp rfl rfl rfl rfl ?_
    refine WL.skp rfl rfl rfl rfl ?_
    refine WL.skp rfl rfl rfl rfl ?_
    refine WL.skp rfl rfl rfl rfl ?_
    refine WL.r 2 rfl ?_
    refine WL.skp rfl rfl rfl rfl ?_
    refine WL.skp rfl rfl rfl rfl ?_
    refine WL.skp rfl rfl rfl rfl ?_
    refine WL.skp rfl rfl rfl rfl ?_
    refine WL.skp rfl rfl rfl rfl ?_
    refine WL.r 2 rfl ?_
    refine WL.skp rfl rfl rfl rfl ?_
    refine WL.skp rfl rfl rfl rfl ?_
    refine WL.skp rfl rfl rfl rfl ?_
    refine WL.skp rfl rfl rfl rfl ?_
    refine WL.skp rfl rfl rfl rfl ?_
    refine WL.r 2 rfl ?_
    refine WL.skp rfl rfl rfl rfl ?_
    refine WL.skp rfl rfl rfl rfl ?_
    refine WL.skp rfl rfl rfl rfl ?_
    refine WL.skp rfl rfl rfl rfl ?_
    refine WL.skp rfl rfl rfl rfl ?_
    refine WL.r 2 rfl ?_
    refine WL.skp rfl rfl rfl rfl ?_
    refine WL.skp rfl rfl rfl rfl ?_
    refine WL.skp rfl rfl rfl rfl ?_
    refine WL.skp rfl rfl rfl rfl ?_
    refine WL.skp rfl rfl rfl rfl ?_
    refine WL.r 2 rfl ?_
    refine WL.skp rfl rfl rfl rfl ?_
    refine WL.skp rfl rfl rfl rfl ?_
    refine WL.skp rfl rfl rfl rfl ?_
    refine WL.skp rfl rfl rfl rfl ?_
    refine WL.skp rfl rfl rfl rfl ?_
    refine WL.skp rfl rfl rfl rfl ?_
    refine WL.skp rfl rfl rfl rfl ?_
    refine WL.r 2 rfl ?_
    refine WL.skp rfl rfl rfl rfl ?_
    refine WL.skp rfl rfl rfl rfl ?_
    refine WL.skp rfl rfl rfl rfl ?_
    refine WL.skp rfl rfl rfl rfl ?_
    refine WL.skp rfl rfl rfl rfl ?_
    refine WL.r 2 rfl ?_
    refine WL.skp rfl rfl rfl rfl ?_
    refine WL.skp rfl rfl rfl rfl ?_
    refine WL.skp rfl rfl rfl rfl ?_
    refine WL.skp rfl rfl rfl rfl ?_
    refine WL.skp rfl rfl rfl rfl ?_
    refine WL.r 2 rfl ?_
    refine WL.nil ?_
    as_aux_lemma =>
      refine WC.ret ?_
      refine ⟨[.bool false], rfl, ?_⟩
      replace hS := (hS.sel 8 [2, 2, 2, 2, 2, 2] rfl)
      exact ⟨_, rfl, hS, ⟨fun h => (by cases h), fun h => absurd (by subst h; simp) cg1⟩⟩

theorem rvalid_spec {g w : World} {L : List HP} (x : OpM) (ab ae ac : Option Addr) (cb ce cc : Nat) (h1 : x.ents.length ≤ 1000000000) (h2 : x.chs.length ≤ 1000000000) (hbx : B8 x.bytes) (hS : St g (Sh 5 1 (by8 x.bytes) ab cb :: Sh 40 2 (en2 x.ents) ae ce :: Sh 63 4 (ch4 x.chs) ac cc :: L) w) :
    Sp Try.prog 12 [.agg #[.int .i64 x.code, .int .u64 x.a, .int .u64 x.b, .int .i64 x.key, .int .i64 x.val, .int .i64 x.lo, .int .i64 x.hi, .int .i64 x.n, .bool x.flag, .string x.name, .slice ab (List.length (by8 x.bytes)) cb, .slice ae (List.length (en2 x.ents)) ce, .slice ac (List.length (ch4 x.chs)) cc]] w (fun v w' => ∃ (ok : Bool), v = .bool ok ∧ St g (Sh 5 1 (by8 x.bytes) ab cb :: Sh 40 2 (en2 x.ents) ae ce :: Sh 63 4 (ch4 x.chs) ac cc :: L) w' ∧ (ok = true ↔ okOp2 x)) := by
  refine Sp.enter Try.func12 rfl (by kernel_rfl) (by kernel_rfl) ?_
  have _ := h1
  refine WC.seq ?_
  refine WC.region ?_
  refine WL.box rfl rfl #[.int .i64 x.code, .int .u64 x.a, .int .u64 x.b, .int .i64 x.key, .int .i64 x.val, .int .i64 x.lo, .int .i64 x.hi, .int .i64 x.n, .bool x.flag, .string x.name, .slice ab (List.length (by8 x.bytes)) cb, .slice ae (List.length (en2 x.ents)) ce, .slice ac (List.length (ch4 x.chs)) cc] hS rfl rfl (fun b1 w hS => ?_)
  refine WL.r 1 rfl ?_
  refine WL.nil ?_
  refine WC.seq ?_
  refine WC.seq ?_
  refine WC.region ?_
  have hl4 := ch4_len x.chs; have hl2 := en2_len x.ents; have hl1 := by8_len x.bytes
  refine WL.run 2 [.int .i64 x.code] rfl (by exact hS.ld 0 rfl rfl) ?_
  refine WL.call rfl rfl (Fields_spec (c := x.code)  (hS := hS)) rfl ?_
  rintro _ w ⟨rfl, hS⟩
  replace hS : St g (cel b1 #[.int .i64 x.code, .int .u64 x.a, .int .u64 x.b, .int .i64 x.key, .int .i64 x.val, .int .i64 x.lo, .int .i64 x.hi, .int .i64 x.n, .bool x.flag, .string x.name, .slice ab (List.length (by8 x.bytes)) cb, .slice ae (List.length (en2 x.ents)) ce, .slice ac (List.length (ch4 x.chs)) cc] 27 :: Sh 5 1 (by8 x.bytes) ab cb :: Sh 40 2 (en2 x.ents) ae ce :: Sh 63 4 (ch4 x.chs) ac cc :: L) w := hS
  refine WL.r 5 rfl ?_
  refine WL.nil ?_
  refine WC.seq ?_
  refine WC.plan [([0, 1, 2, 3, 4], some (5, [3])), ([], some (6, [])), ([7, 8], none)] (by kernel_rfl) (by kernel_rfl) ?_
  refine WQ.r 2 rfl ?_
  refine WQ.r 1 rfl ?_
  by_cases cg1 : (! (isOp x.code)) = true
  · refine WQ.reb 14 (.bool true) (congrArg Value.bool cg1) ?_
    refine WQ.skp rfl rfl rfl rfl ?_
    refine WQ.skp rfl rfl rfl rfl ?_
    refine WQ.nil ?_
    intro m1
    replace hS := hS.drewN m1; generalize hwm1 : World.drewN _ _ = w at *; clear hwm1
    refine WL.skp rfl rfl rfl rfl ?_
    refine WL.nil ?_
    refine ⟨by exact RQ.skp rfl rfl rfl rfl rfl rfl, ?_⟩
    refine WQ.nil ?_
    intro m2
    replace hS := hS.drewN m2; generalize hwm2 : World.drewN _ _ = w at *; clear hwm2
    refine WL.skp rfl rfl rfl rfl ?_
    refine WL.nil ?_
    refine ⟨by exact trivial, ?_⟩
    refine WQ.skp rfl rfl rfl rfl ?_
    refine WQ.r 1 rfl ?_
    refine WQ.nil ?_
    intro m3
    replace hS := hS.drewN m3; generalize hwm3 : World.drewN _ _ = w at *; clear hwm3
    as_aux_lemma =>
      refine WC.ifT rfl rfl ?_
      refine WC.seq ?_
      refine WC.region ?_
      refine WL.r 1 rfl ?_
      refine WL.nil ?_
      refine WC.ret ?_
      refine ⟨[.bool false], rfl, ?_⟩
      replace hS := (hS.sel 4 [1, 1, 1] rfl)
      exact ⟨_, rfl, hS, ⟨fun h => (by cases h), fun h => by rw [h.1] at cg1; cases cg1⟩⟩
  · refine WQ.reb 14 (.bool false) (congrArg Value.bool (Bool.eq_false_iff.2 cg1)) ?_
    refine WQ.ung rfl rfl rfl ?_
    refine WQ.ldF rfl rfl 0 hS rfl rfl ag_27 ?_
    refine WQ.ung rfl rfl rfl ?_
    refine WQ.ldF rfl rfl 0 hS rfl rfl ag_27 ?_
    refine WQ.nil ?_
    intro m1
    replace hS := hS.drewN m1; generalize hwm1 : World.drewN _ _ = w at *; clear hwm1
    refine WL.ung rfl rfl rfl ?_
    refine WL.call rfl rfl (only_spec (x := x) (ab := ab) (ae := ae) (ac := ac) (cb := cb) (ce := ce) (cc := cc)  (hS := (hS.sel 4 [1, 1, 1, 0] rfl))) rfl ?_
    rintro _ w ⟨ab1, ae1, ac1, cb1, ce1, cc1, rfl, hS⟩
    replace hS : St g (Sh 5 1 (by8 (only x).bytes) ab1 cb1 :: Sh 40 2 (en2 (only x).ents) ae1 ce1 :: Sh 63 4 (ch4 (only x).chs) ac1 cc1 :: Sh 5 1 (by8 x.bytes) ab cb :: Sh 40 2 (en2 x.ents) ae ce :: Sh 63 4 (ch4 x.chs) ac cc :: cel b1 #[.int .i64 x.code, .int .u64 x.a, .int .u64 x.b, .int .i64 x.key, .int .i64 x.val, .int .i64 x.lo, .int .i64 x.hi, .int .i64 x.n, .bool x.flag, .string x.name, .slice ab (List.length (by8 x.bytes)) cb, .slice ae (List.length (en2 x.ents)) ce, .slice ac (List.length (ch4 x.chs)) cc] 27 :: L) w := hS
    refine WL.nil ?_
    refine ⟨by exact RQ.ung rfl rfl rfl (RQ.ldF rfl rfl 6 hS rfl rfl ag_27 rfl rfl), ?_⟩
    refine WQ.nil ?_
    intro m2
    replace hS := hS.drewN m2; generalize hwm2 : World.drewN _ _ = w at *; clear hwm2
    refine WL.ung rfl rfl rfl ?_
    refine WL.call rfl rfl (sameop_spec (x := x) (y := only x) (ab := ab) (ae := ae) (ac := ac) (ab2 := ab1) (ae2 := ae1) (ac2 := ac1) (cb := cb) (ce := ce) (cc := cc) (cb2 := cb1) (ce2 := ce1) (cc2 := cc1) (h1 := (by assumption)) (h2 := (by assumption)) (hbx := (by assumption)) (hby := (only_B8 hbx)) (hS := (hS.sel 7 [3, 3, 3, 0, 0, 0, 0] rfl))) rfl ?_
    rintro _ w ⟨ok1, rfl, hS, f1⟩
    replace hS : St g (Sh 5 1 (by8 x.bytes) ab cb :: Sh 40 2 (en2 x.ents) ae ce :: Sh 63 4 (ch4 x.chs) ac cc :: Sh 5 1 (by8 (only x).bytes) ab1 cb1 :: Sh 40 2 (en2 (only x).ents) ae1 ce1 :: Sh 63 4 (ch4 (only x).chs) ac1 cc1 :: cel b1 #[.int .i64 x.code, .int .u64 x.a, .int .u64 x.b, .int .i64 x.key, .int .i64 x.val, .int .i64 x.lo, .int .i64 x.hi, .int .i64 x.n, .bool x.flag, .string x.name, .slice ab (List.length (by8 x.bytes)) cb, .slice ae (List.length (en2 x.ents)) ce, .slice ac (List.length (ch4 x.chs)) cc] 27 :: L) w := hS
    refine WL.nil ?_
    refine ⟨by exact trivial, ?_⟩
    refine WQ.ung rfl rfl rfl ?_
    refine WQ.r 1 rfl ?_
    refine WQ.r 1 rfl ?_
    refine WQ.nil ?_
    intro m3
    replace hS := hS.drewN m3; generalize hwm3 : World.drewN _ _ = w at *; clear hwm3
    as_aux_lemma =>
      refine WC.if_ rfl (fun cd1 => ?_) (fun cd1 => ?_)
      · refine WC.seq ?_
        refine WC.region ?_
        refine WL.r 1 rfl ?_
        refine WL.nil ?_
        refine WC.ret ?_
        refine ⟨[.bool false], rfl, ?_⟩
        replace hS := (hS.sel 7 [0, 0, 0] rfl)
        exact ⟨_, rfl, hS, ⟨fun h => (by cases h), fun h => by rw [f1.2 h.2.1] at cd1; cases cd1⟩⟩
      · refine WC.skip ?_
        refine WC.seq ?_
        refine WC.seq ?_
        refine WC.region ?_
        refine WL.run 3 [.int .i64 x.n] rfl (by exact hS.ld 6 rfl rfl) ?_
        refine WL.runG 29 [.int .i64 x.n, .string x.name, .slice ab (List.length (by8 x.bytes)) cb, .slice ae (List.length (en2 x.ents)) ce, .slice ac (List.length (ch4 x.chs)) cc] rfl (by exact ⟨fun _ => hS.ld 6 rfl rfl, fun _ => hS.ld 6 rfl rfl, fun _ => hS.ld 6 rfl rfl, fun _ => hS.ld 6 rfl rfl, fun _ => hS.ld 6 rfl rfl⟩) (fun j => ?_)
        refine WL.prop 52 rfl (bor (bor (bor (bor (bor (dd _) (dd _)) (dd _)) (dd _)) (dd _)) (dd _)) ?_
        refine WL.nil ?_
        refine WC.ifP rfl (fun cd2 => ?_) (fun cd2 => ?_)
        · refine WC.seq ?_
          refine WC.region ?_
          refine WL.r 1 rfl ?_
          refine WL.nil ?_
          refine WC.ret ?_
          refine ⟨[.bool false], rfl, ?_⟩
          replace hS := (hS.sel 7 [0, 0, 0] rfl)
          refine ⟨_, rfl, hS, ⟨fun h => (by cases h), fun h => ?_⟩⟩
          obtain ⟨_, _, ⟨h2, h3, h4, h5, h6⟩, _⟩ := h
          omega
        · refine WC.skip ?_
          refine WC.seq ?_
          refine WC.seq ?_
          refine WC.region ?_
          refine WL.r 1 rfl ?_
          refine WL.nil ?_
          refine WC.block ?_
          refine WC.loop [1, 5] (fun kM vs w => ∃ (k : Nat), vs = [.pointer (some ⟨b1, 0, none⟩), .int .i64 (k : Int)] ∧ St g (Sh 5 1 (by8 x.bytes) ab cb :: Sh 40 2 (en2 x.ents) ae ce :: Sh 63 4 (ch4 x.chs) ac cc :: Sh 5 1 (by8 (only x).bytes) ab1 cb1 :: Sh 40 2 (en2 (only x).ents) ae1 ce1 :: Sh 63 4 (ch4 (only x).chs) ac1 cc1 :: cel b1 #[.int .i64 x.code, .int .u64 x.a, .int .u64 x.b, .int .i64 x.key, .int .i64 x.val, .int .i64 x.lo, .int .i64 x.hi, .int .i64 x.n, .bool x.flag, .string x.name, .slice ab (List.length (by8 x.bytes)) cb, .slice ae (List.length (en2 x.ents)) ce, .slice ac (List.length (ch4 x.chs)) cc] 27 :: L) w ∧ (k ≤ x.chs.length) ∧ (∀ y ∈ x.chs.take k, 0 ≤ y.1 ∧ y.1 ≤ 255) ∧ (x.chs.length - k) = kM) ((List.length x.chs) - 0) ⟨0, rfl, hS, (Nat.zero_le _), (fun _ h => by cases h), rfl⟩ ?_
          clear hS; rintro _ _ w j ⟨k, rfl, hS, hk, hall, rfl⟩
          refine WC.seq ?_
          refine WC.seq ?_
          refine WC.region ?_
          refine WL.run 5 [.slice ac (List.length (ch4 x.chs)) cc] rfl (by exact hS.ld 6 rfl rfl) ?_
          refine WL.nil ?_
          refine WC.ifP rfl (fun cd3 => ?_) (fun cd3 => ?_)
          · refine WC.skip ?_
            as_aux_lemma =>
              refine WC.seq ?_
              refine WC.block ?_
              refine WC.seq ?_
              refine WC.region ?_
              refine WL.run 3 [.slice ac (List.length (ch4 x.chs)) cc] rfl (by exact hS.ld 6 rfl rfl) ?_
              obtain ⟨y, hy⟩ : ∃ y, x.chs[k]? = some y := ⟨_, List.getElem?_eq_getElem (by omega)⟩
              refine WL.ix rfl rfl (i := (k : Int)) (k) el_25 rfl rfl (by omega) (len_of (ch4_at hy)) (hS.rdS 2 rfl (ch4_at hy)).1 ?_
              refine WL.run 4 [.int .i64 y.1] rfl (by exact (hS.rdS 2 rfl (ch4_at hy)).2 0 _ rfl) ?_
              by_cases cg2 : y.1 < 0
              · refine WL.reb 67 (.bool true) (congrArg Value.bool (decide_eq_true cg2)) ?_
                refine WL.skp rfl rfl rfl rfl ?_
                refine WL.skp rfl rfl rfl rfl ?_
                refine WL.skp rfl rfl rfl rfl ?_
                refine WL.skp rfl rfl rfl rfl ?_
                refine WL.skp rfl rfl rfl rfl ?_
                refine WL.skp rfl rfl rfl rfl ?_
                refine WL.skp rfl rfl rfl rfl ?_
                refine WL.r 1 rfl ?_
                refine WL.nil ?_
                refine WC.ifT rfl rfl ?_
                refine WC.seq ?_
                refine WC.region ?_
                refine WL.r 1 rfl ?_
                refine WL.nil ?_
                refine WC.ret ?_
                refine ⟨[.bool false], rfl, ?_⟩
                replace hS := (hS.sel 7 [0, 0, 0] rfl)
                refine ⟨_, rfl, hS, ⟨fun h => (by cases h), fun h => ?_⟩⟩
                have := h.2.2.2 y (List.mem_of_getElem? hy); omega
              · refine WL.reb 67 (.bool false) (congrArg Value.bool (decide_eq_false cg2)) ?_
                refine WL.ung rfl rfl rfl ?_
                refine WL.r 1 rfl ?_
                refine WL.ung rfl rfl rfl ?_
                refine WL.run 1 [.slice ac (List.length (ch4 x.chs)) cc] rfl (by exact hS.ld 6 rfl rfl) ?_
                refine WL.ung rfl rfl rfl ?_
                refine WL.r 1 rfl ?_
                refine WL.ung rfl rfl rfl ?_
                refine WL.ix rfl rfl (i := (k : Int)) (k) el_25 rfl rfl (by omega) (len_of (ch4_at hy)) (hS.rdS 2 rfl (ch4_at hy)).1 ?_
                refine WL.ung rfl rfl rfl ?_
                refine WL.r 1 rfl ?_
                refine WL.ung rfl rfl rfl ?_
                refine WL.run 1 [.int .i64 y.1] rfl (by exact (hS.rdS 2 rfl (ch4_at hy)).2 0 _ rfl) ?_
                refine WL.ung rfl rfl rfl ?_
                refine WL.r 2 rfl ?_
                refine WL.nil ?_
                as_aux_lemma =>
                  refine WC.ifP rfl (fun cd4 => ?_) (fun cd4 => ?_)
                  · refine WC.seq ?_
                    refine WC.region ?_
                    refine WL.r 1 rfl ?_
                    refine WL.nil ?_
                    refine WC.ret ?_
                    refine ⟨[.bool false], rfl, ?_⟩
                    replace hS := (hS.sel 7 [0, 0, 0] rfl)
                    refine ⟨_, rfl, hS, ⟨fun h => (by cases h), fun h => ?_⟩⟩
                    have := h.2.2.2 y (List.mem_of_getElem? hy); omega
                  · refine WC.skip ?_
                    refine WC.region ?_
                    refine WL.r 2 rfl ?_
                    refine WL.nw 59 rfl (w64 (by omega)) ?_
                    refine WL.r 1 rfl ?_
                    refine WL.nil ?_
                    exact ⟨_, by omega, k + 1, rfl, hS, (by omega), (fun z hz => by rw [List.take_add_one, hy] at hz; simp only [Option.toList, List.mem_append, List.mem_singleton] at hz; rcases hz with hz | rfl <;> first | exact hall z hz | omega), rfl⟩
          · refine WC.exit ?_
            as_aux_lemma =>
              refine WC.seq ?_
              refine WC.region ?_
              refine WL.r 1 rfl ?_
              refine WL.nil ?_
              refine WC.ret ?_
              refine ⟨[.bool true], rfl, ?_⟩
              replace hS := (hS.sel 7 [0, 0, 0] rfl)
              rw [List.take_of_length_le (by omega)] at hall
              exact ⟨_, rfl, hS, ⟨fun _ => ⟨by simpa using cg1, f1.1 (by simpa using cd1), ⟨by omega, by omega, by omega, by omega, by omega⟩, hall⟩, fun _ => rfl⟩⟩
end Go.Proofs.Ytofnoopjlmdelaa
