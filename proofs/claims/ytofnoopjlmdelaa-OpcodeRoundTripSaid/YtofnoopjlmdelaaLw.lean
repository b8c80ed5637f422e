/-
  The laws' small functions: small, tidy, awake.
  Conditions: none.
-/
import Derived.Test.YtofnoopjlmdelaaOnl
import Derived.Test.YtofnoopjlmdelaaApp
import Derived.Test.YtofnoopjlmdelaaRf3
namespace Go.Proofs.Ytofnoopjlmdelaa
open Go Go.V


theorem small_spec {g w : World} {L : List HP} (x : OpM) (ab ae ac : Option Addr) (cb ce cc : Nat) (hS : St g (L) w) :
    Sp Try.prog 9 [.agg #[.int .i64 x.code, .int .u64 x.a, .int .u64 x.b, .int .i64 x.key, .int .i64 x.val, .int .i64 x.lo, .int .i64 x.hi, .int .i64 x.n, .bool x.flag, .string x.name, .slice ab (List.length (by8 x.bytes)) cb, .slice ae (List.length (en2 x.ents)) ce, .slice ac (List.length (ch4 x.chs)) cc]] w (fun v w' => v = .bool (decide (smallOp x)) ∧ St g (L) w') := by
  refine Sp.enter Try.func9 rfl (by kernel_rfl) (by kernel_rfl) ?_
  refine WC.seq ?_
  refine WC.region ?_
  refine WL.box rfl rfl #[.int .i64 x.code, .int .u64 x.a, .int .u64 x.b, .int .i64 x.key, .int .i64 x.val, .int .i64 x.lo, .int .i64 x.hi, .int .i64 x.n, .bool x.flag, .string x.name, .slice ab (List.length (by8 x.bytes)) cb, .slice ae (List.length (en2 x.ents)) ce, .slice ac (List.length (ch4 x.chs)) cc] hS rfl rfl (fun b1 w hS => ?_)
  refine WL.r 1 rfl ?_
  refine WL.nil ?_
  refine WC.seq ?_
  refine WC.region ?_
  refine WL.run 4 [.string x.name] rfl (by exact hS.ld 0 rfl rfl) ?_
  refine WL.runG 19 [.slice ab (List.length (by8 x.bytes)) cb, .slice ae (List.length (en2 x.ents)) ce, .slice ac (List.length (ch4 x.chs)) cc] rfl (by exact ⟨fun _ => hS.ld 0 rfl rfl, fun _ => hS.ld 0 rfl rfl, fun _ => hS.ld 0 rfl rfl⟩) (fun j => ?_)
  refine WL.prop 24 rfl (band (band (band (dd _) (dd _)) (dd _)) (dd _)) ?_
  refine WL.nil ?_
  refine WC.ret ?_
  refine ⟨[.bool (bif (bif (bif (decide ((ByteArray.size x.name : Int) ≤ 300)) then (decide ((List.length (by8 x.bytes) : Int) ≤ 300)) else false) then (decide ((List.length (en2 x.ents) : Int) ≤ 100)) else false) then (decide ((List.length (ch4 x.chs) : Int) ≤ 100)) else false)], rfl, ?_⟩
  replace hS := (hS.sel 1 [] rfl)
  rw [bif_and, bif_and, bif_and]; refine ⟨?_, hS⟩
  simp only [by8_len, en2_len, ch4_len]
  exact congrArg Value.bool (decide_eq_decide.2 (by unfold smallOp; omega))

theorem tidy_spec {g w : World} {L : List HP} (x : OpM) (ab ae ac : Option Addr) (cb ce cc : Nat) (hw : OpT x) (hs : smallOp x) (hS : St g (Sh 5 1 (by8 x.bytes) ab cb :: Sh 40 2 (en2 x.ents) ae ce :: Sh 63 4 (ch4 x.chs) ac cc :: L) w) :
    Sp Try.prog 11 [.agg #[.int .i64 x.code, .int .u64 x.a, .int .u64 x.b, .int .i64 x.key, .int .i64 x.val, .int .i64 x.lo, .int .i64 x.hi, .int .i64 x.n, .bool x.flag, .string x.name, .slice ab (List.length (by8 x.bytes)) cb, .slice ae (List.length (en2 x.ents)) ce, .slice ac (List.length (ch4 x.chs)) cc]] w (fun v w' => ∃ (ab2 ae2 ac2 : Option Addr) (cb2 ce2 cc2 : Nat), v = .agg #[.int .i64 (tidy x).code, .int .u64 (tidy x).a, .int .u64 (tidy x).b, .int .i64 (tidy x).key, .int .i64 (tidy x).val, .int .i64 (tidy x).lo, .int .i64 (tidy x).hi, .int .i64 (tidy x).n, .bool (tidy x).flag, .string (tidy x).name, .slice ab2 (List.length (by8 (tidy x).bytes)) cb2, .slice ae2 (List.length (en2 (tidy x).ents)) ce2, .slice ac2 (List.length (ch4 (tidy x).chs)) cc2] ∧ St g (Sh 5 1 (by8 (tidy x).bytes) ab2 cb2 :: Sh 40 2 (en2 (tidy x).ents) ae2 ce2 :: Sh 63 4 (ch4 (tidy x).chs) ac2 cc2 :: Sh 5 1 (by8 x.bytes) ab cb :: Sh 40 2 (en2 x.ents) ae ce :: Sh 63 4 (ch4 x.chs) ac cc :: L) w') := by
  refine Sp.enter Try.func11 rfl (by kernel_rfl) (by kernel_rfl) ?_
  refine WC.seq ?_
  refine WC.region ?_
  refine WL.box rfl rfl #[.int .i64 x.code, .int .u64 x.a, .int .u64 x.b, .int .i64 x.key, .int .i64 x.val, .int .i64 x.lo, .int .i64 x.hi, .int .i64 x.n, .bool x.flag, .string x.name, .slice ab (List.length (by8 x.bytes)) cb, .slice ae (List.length (en2 x.ents)) ce, .slice ac (List.length (ch4 x.chs)) cc] hS rfl rfl (fun b1 w hS => ?_)
  refine WL.new rfl rfl zv_27 hS (fun b2 w hS => ?_)
  refine WL.nil ?_
  refine WC.seq ?_
  refine WC.region ?_
  obtain ⟨hs1, hs2, hs3, hs4⟩ := hs; have hcd := hw.code; have hnn := hw.n; have hl4 := ch4_len x.chs
  refine WL.run 2 [.int .i64 x.code] rfl (by exact hS.ld 1 rfl rfl) ?_
  refine WL.call rfl rfl (mod_spec (k := x.code) (n := 35) (hk := (by assumption)) (hn := (by omega)) (hS := hS)) rfl ?_
  rintro _ w ⟨rfl, hS⟩
  replace hS : St g (cel b2 #[.int .i64 0, .int .u64 0, .int .u64 0, .int .i64 0, .int .i64 0, .int .i64 0, .int .i64 0, .int .i64 0, .bool false, .string ⟨#[]⟩, .slice none 0 0, .slice none 0 0, .slice none 0 0] 27 :: cel b1 #[.int .i64 x.code, .int .u64 x.a, .int .u64 x.b, .int .i64 x.key, .int .i64 x.val, .int .i64 x.lo, .int .i64 x.hi, .int .i64 x.n, .bool x.flag, .string x.name, .slice ab (List.length (by8 x.bytes)) cb, .slice ae (List.length (en2 x.ents)) ce, .slice ac (List.length (ch4 x.chs)) cc] 27 :: Sh 5 1 (by8 x.bytes) ab cb :: Sh 40 2 (en2 x.ents) ae ce :: Sh 63 4 (ch4 x.chs) ac cc :: L) w := hS
  refine WL.r 1 rfl ?_
  refine WL.nw 8 rfl (w64 (by omega)) ?_
  refine WL.r 1 rfl ?_
  refine WL.st rfl rfl rfl 1 hS rfl rfl rfl rfl rfl rfl (fun w hS => ?_)
  replace hS : St g (cel b2 #[.int .i64 0, .int .u64 0, .int .u64 0, .int .i64 0, .int .i64 0, .int .i64 0, .int .i64 0, .int .i64 0, .bool false, .string ⟨#[]⟩, .slice none 0 0, .slice none 0 0, .slice none 0 0] 27 :: cel b1 #[.int .i64 (1 + (x.code % 35)), .int .u64 x.a, .int .u64 x.b, .int .i64 x.key, .int .i64 x.val, .int .i64 x.lo, .int .i64 x.hi, .int .i64 x.n, .bool x.flag, .string x.name, .slice ab (List.length (by8 x.bytes)) cb, .slice ae (List.length (en2 x.ents)) ce, .slice ac (List.length (ch4 x.chs)) cc] 27 :: Sh 5 1 (by8 x.bytes) ab cb :: Sh 40 2 (en2 x.ents) ae ce :: Sh 63 4 (ch4 x.chs) ac cc :: L) w := hS
  refine WL.nil ?_
  refine WC.seq ?_
  refine WC.region ?_
  refine WL.run 2 [.int .i64 x.n] rfl (by exact hS.ld 1 rfl rfl) ?_
  refine WL.call rfl rfl (mod_spec (k := x.n) (n := 2147483648) (hk := (by assumption)) (hn := (by omega)) (hS := hS)) rfl ?_
  rintro _ w ⟨rfl, hS⟩
  replace hS : St g (cel b2 #[.int .i64 0, .int .u64 0, .int .u64 0, .int .i64 0, .int .i64 0, .int .i64 0, .int .i64 0, .int .i64 0, .bool false, .string ⟨#[]⟩, .slice none 0 0, .slice none 0 0, .slice none 0 0] 27 :: cel b1 #[.int .i64 (1 + (x.code % 35)), .int .u64 x.a, .int .u64 x.b, .int .i64 x.key, .int .i64 x.val, .int .i64 x.lo, .int .i64 x.hi, .int .i64 x.n, .bool x.flag, .string x.name, .slice ab (List.length (by8 x.bytes)) cb, .slice ae (List.length (en2 x.ents)) ce, .slice ac (List.length (ch4 x.chs)) cc] 27 :: Sh 5 1 (by8 x.bytes) ab cb :: Sh 40 2 (en2 x.ents) ae ce :: Sh 63 4 (ch4 x.chs) ac cc :: L) w := hS
  refine WL.r 1 rfl ?_
  refine WL.st rfl rfl rfl 1 hS rfl rfl rfl rfl rfl rfl (fun w hS => ?_)
  replace hS : St g (cel b2 #[.int .i64 0, .int .u64 0, .int .u64 0, .int .i64 0, .int .i64 0, .int .i64 0, .int .i64 0, .int .i64 0, .bool false, .string ⟨#[]⟩, .slice none 0 0, .slice none 0 0, .slice none 0 0] 27 :: cel b1 #[.int .i64 (1 + (x.code % 35)), .int .u64 x.a, .int .u64 x.b, .int .i64 x.key, .int .i64 x.val, .int .i64 x.lo, .int .i64 x.hi, .int .i64 (x.n % 2147483648), .bool x.flag, .string x.name, .slice ab (List.length (by8 x.bytes)) cb, .slice ae (List.length (en2 x.ents)) ce, .slice ac (List.length (ch4 x.chs)) cc] 27 :: Sh 5 1 (by8 x.bytes) ab cb :: Sh 40 2 (en2 x.ents) ae ce :: Sh 63 4 (ch4 x.chs) ac cc :: L) w := hS
  refine WL.nil ?_
  as_aux_lemma =>
    refine WC.seq ?_
    refine WC.region ?_
    refine WL.run 6 [.string x.name, .string x.name] rfl (by exact ⟨hS.ld 1 rfl rfl, hS.ld 1 rfl rfl⟩) ?_
    refine WL.ssHi rfl rfl (v := min (ByteArray.size x.name : Int) 32) (min x.name.size 32) rfl rfl rfl (by omega) (by omega) ?_
    refine WL.r 1 rfl ?_
    refine WL.st rfl rfl rfl 1 hS rfl rfl rfl rfl rfl rfl (fun w hS => ?_)
    replace hS : St g (cel b2 #[.int .i64 0, .int .u64 0, .int .u64 0, .int .i64 0, .int .i64 0, .int .i64 0, .int .i64 0, .int .i64 0, .bool false, .string ⟨#[]⟩, .slice none 0 0, .slice none 0 0, .slice none 0 0] 27 :: cel b1 #[.int .i64 (1 + (x.code % 35)), .int .u64 x.a, .int .u64 x.b, .int .i64 x.key, .int .i64 x.val, .int .i64 x.lo, .int .i64 x.hi, .int .i64 (x.n % 2147483648), .bool x.flag, .string (mkS (List.take (min x.name.size 32) (sb x.name))), .slice ab (List.length (by8 x.bytes)) cb, .slice ae (List.length (en2 x.ents)) ce, .slice ac (List.length (ch4 x.chs)) cc] 27 :: Sh 5 1 (by8 x.bytes) ab cb :: Sh 40 2 (en2 x.ents) ae ce :: Sh 63 4 (ch4 x.chs) ac cc :: L) w := hS
    refine WL.nil ?_
    refine WC.seq ?_
    refine WC.region ?_
    refine WL.run 2 [.slice ac (List.length (ch4 x.chs)) cc] rfl (by exact hS.ld 1 rfl rfl) ?_
    replace hS := hS.nil_ 63 4
    refine WL.app rfl rfl 0 (ch4 x.chs) el_25 hS rfl (hS.srcS 5 rfl) (List.nil_append _) (Rm.of (by first | omega | (simp <;> omega)) (by decide)) rfl rfl (fun a1 c1 w hS => ?_)
    replace hS : St g (Own 63 4 (ch4 x.chs) a1 c1 :: cel b2 #[.int .i64 0, .int .u64 0, .int .u64 0, .int .i64 0, .int .i64 0, .int .i64 0, .int .i64 0, .int .i64 0, .bool false, .string ⟨#[]⟩, .slice none 0 0, .slice none 0 0, .slice none 0 0] 27 :: cel b1 #[.int .i64 (1 + (x.code % 35)), .int .u64 x.a, .int .u64 x.b, .int .i64 x.key, .int .i64 x.val, .int .i64 x.lo, .int .i64 x.hi, .int .i64 (x.n % 2147483648), .bool x.flag, .string (mkS (List.take (min x.name.size 32) (sb x.name))), .slice ab (List.length (by8 x.bytes)) cb, .slice ae (List.length (en2 x.ents)) ce, .slice ac (List.length (ch4 x.chs)) cc] 27 :: Sh 5 1 (by8 x.bytes) ab cb :: Sh 40 2 (en2 x.ents) ae ce :: Sh 63 4 (ch4 x.chs) ac cc :: L) w := hS
    refine WL.r 1 rfl ?_
    refine WL.nil ?_
    refine WC.seq ?_
    refine WC.seq ?_
    refine WC.region ?_
    refine WL.r 1 rfl ?_
    refine WL.nil ?_
    refine WC.block ?_
    refine WC.loop [1, 2, 3, 4] (fun kM vs w => ∃ (k : Nat) (ls : List (Int × Int × Int × Int)), vs = [.pointer (some ⟨b1, 0, none⟩), .pointer (some ⟨b2, 0, none⟩), .slice a1 (List.length (ch4 x.chs)) c1, .int .i64 (k : Int)] ∧ St g (Own 63 4 (ch4 ls) a1 c1 :: cel b2 #[.int .i64 0, .int .u64 0, .int .u64 0, .int .i64 0, .int .i64 0, .int .i64 0, .int .i64 0, .int .i64 0, .bool false, .string ⟨#[]⟩, .slice none 0 0, .slice none 0 0, .slice none 0 0] 27 :: cel b1 #[.int .i64 (1 + (x.code % 35)), .int .u64 x.a, .int .u64 x.b, .int .i64 x.key, .int .i64 x.val, .int .i64 x.lo, .int .i64 x.hi, .int .i64 (x.n % 2147483648), .bool x.flag, .string (mkS (List.take (min x.name.size 32) (sb x.name))), .slice ab (List.length (by8 x.bytes)) cb, .slice ae (List.length (en2 x.ents)) ce, .slice ac (List.length (ch4 x.chs)) cc] 27 :: Sh 5 1 (by8 x.bytes) ab cb :: Sh 40 2 (en2 x.ents) ae ce :: Sh 63 4 (ch4 x.chs) ac cc :: L) w ∧ (k ≤ x.chs.length ∧ ls.length = x.chs.length) ∧ (ls = kind256 (x.chs.take k) ++ x.chs.drop k) ∧ (x.chs.length - k) = kM) ((List.length x.chs) - 0) ⟨0, x.chs, rfl, hS, (by omega), (by simp [kind256]), rfl⟩ ?_
    clear hS; rintro _ _ w j ⟨k, ls, rfl, hS, hk, hr, rfl⟩
    refine WC.seq ?_
    refine WC.seq ?_
    refine WC.region ?_
    refine WL.r 4 rfl ?_
    refine WL.nil ?_
    as_aux_lemma =>
      refine WC.ifP rfl (fun cd1 => ?_) (fun cd1 => ?_)
      · refine WC.skip ?_
        refine WC.seq ?_
        refine WC.block ?_
        refine WC.region ?_
        refine WL.r 4 rfl ?_
        have hll := ch4_len ls; obtain ⟨y, hx3⟩ : ∃ y, x.chs[k]? = some y := ⟨_, List.getElem?_eq_getElem (by omega)⟩; obtain ⟨hw1, hw2, hw3, hw4⟩ := hw.w.chs y (List.mem_of_getElem? hx3); have hx4 : ls[k]? = some y := by rw [hr, kind_at (by omega), hx3]
        refine WL.ix rfl rfl (i := (k : Int)) (k) el_25 rfl rfl (by omega) (by omega) (hS.rdO 0 rfl (ch4_at hx4)).1 ?_
        refine WL.run 2 [.int .i64 y.1] rfl (by exact (hS.rdO 0 rfl (ch4_at hx4)).2 0 _ rfl) ?_
        refine WL.call rfl rfl (mod_spec (k := y.1) (n := 256) (hk := (by assumption)) (hn := (by omega)) (hS := hS)) rfl ?_
        rintro _ w ⟨rfl, hS⟩
        replace hS : St g (Own 63 4 (ch4 ls) a1 c1 :: cel b2 #[.int .i64 0, .int .u64 0, .int .u64 0, .int .i64 0, .int .i64 0, .int .i64 0, .int .i64 0, .int .i64 0, .bool false, .string ⟨#[]⟩, .slice none 0 0, .slice none 0 0, .slice none 0 0] 27 :: cel b1 #[.int .i64 (1 + (x.code % 35)), .int .u64 x.a, .int .u64 x.b, .int .i64 x.key, .int .i64 x.val, .int .i64 x.lo, .int .i64 x.hi, .int .i64 (x.n % 2147483648), .bool x.flag, .string (mkS (List.take (min x.name.size 32) (sb x.name))), .slice ab (List.length (by8 x.bytes)) cb, .slice ae (List.length (en2 x.ents)) ce, .slice ac (List.length (ch4 x.chs)) cc] 27 :: Sh 5 1 (by8 x.bytes) ab cb :: Sh 40 2 (en2 x.ents) ae ce :: Sh 63 4 (ch4 x.chs) ac cc :: L) w := hS
        refine WL.ix rfl rfl (i := (k : Int)) (k) el_25 rfl rfl (by omega) (by omega) (hS.rdO 0 rfl (ch4_at hx4)).1 ?_
        refine WL.r 1 rfl ?_
        refine WL.stE rfl rfl rfl 0 (k) 0 [.int .i64 y.1, .int .i64 y.2.1, .int .i64 y.2.2.1, .int .i64 y.2.2.2] (ch4 (List.set ls k (y.1 % 256, y.2.1, y.2.2.1, y.2.2.2))) hS rfl (ch4_at hx4) rfl rfl rfl rfl rfl (ch4_set _ _ (y.1 % 256, y.2.1, y.2.2.1, y.2.2.2)) (fun w hS => ?_)
        replace hS : St g (Own 63 4 (ch4 (List.set ls k (y.1 % 256, y.2.1, y.2.2.1, y.2.2.2))) a1 c1 :: cel b2 #[.int .i64 0, .int .u64 0, .int .u64 0, .int .i64 0, .int .i64 0, .int .i64 0, .int .i64 0, .int .i64 0, .bool false, .string ⟨#[]⟩, .slice none 0 0, .slice none 0 0, .slice none 0 0] 27 :: cel b1 #[.int .i64 (1 + (x.code % 35)), .int .u64 x.a, .int .u64 x.b, .int .i64 x.key, .int .i64 x.val, .int .i64 x.lo, .int .i64 x.hi, .int .i64 (x.n % 2147483648), .bool x.flag, .string (mkS (List.take (min x.name.size 32) (sb x.name))), .slice ab (List.length (by8 x.bytes)) cb, .slice ae (List.length (en2 x.ents)) ce, .slice ac (List.length (ch4 x.chs)) cc] 27 :: Sh 5 1 (by8 x.bytes) ab cb :: Sh 40 2 (en2 x.ents) ae ce :: Sh 63 4 (ch4 x.chs) ac cc :: L) w := hS
        refine WL.nil ?_
        refine WC.region ?_
        refine WL.r 2 rfl ?_
        refine WL.nw 30 rfl (w64 (by omega)) ?_
        refine WL.r 1 rfl ?_
        refine WL.nil ?_
        exact ⟨_, by omega, k + 1, List.set ls k (y.1 % 256, y.2.1, y.2.2.1, y.2.2.2), rfl, hS, (by simp; omega), (by rw [hr, kind_set hx3]), rfl⟩
      · refine WC.exit ?_
        refine WC.seq ?_
        refine WC.region ?_
        have hll := ch4_len ls
        obtain rfl : ls = (tidy0 x).chs := by rw [hr, List.take_of_length_le (by omega), List.drop_eq_nil_of_le (by omega)]; simp [tidy0]
        refine WL.reb 3 (.slice a1 (ch4 (tidy0 x).chs).length c1) (congrArg (fun m => Value.slice a1 m c1) (by simp [tidy0, kind256])) ?_
        refine WL.r 2 rfl ?_
        refine WL.st rfl rfl rfl 2 hS rfl rfl rfl rfl rfl rfl (fun w hS => ?_)
        replace hS : St g (Own 63 4 (ch4 (tidy0 x).chs) a1 c1 :: cel b2 #[.int .i64 0, .int .u64 0, .int .u64 0, .int .i64 0, .int .i64 0, .int .i64 0, .int .i64 0, .int .i64 0, .bool false, .string ⟨#[]⟩, .slice none 0 0, .slice none 0 0, .slice none 0 0] 27 :: cel b1 #[.int .i64 (1 + (x.code % 35)), .int .u64 x.a, .int .u64 x.b, .int .i64 x.key, .int .i64 x.val, .int .i64 x.lo, .int .i64 x.hi, .int .i64 (x.n % 2147483648), .bool x.flag, .string (mkS (List.take (min x.name.size 32) (sb x.name))), .slice ab (List.length (by8 x.bytes)) cb, .slice ae (List.length (en2 x.ents)) ce, .slice a1 (List.length (ch4 (tidy0 x).chs)) c1] 27 :: Sh 5 1 (by8 x.bytes) ab cb :: Sh 40 2 (en2 x.ents) ae ce :: Sh 63 4 (ch4 x.chs) ac cc :: L) w := hS
        refine WL.nil ?_
        refine WC.seq ?_
        refine WC.region ?_
        replace hS : St g (Own 63 4 (ch4 (tidy0 x).chs) a1 c1 :: cel b2 #[.int .i64 0, .int .u64 0, .int .u64 0, .int .i64 0, .int .i64 0, .int .i64 0, .int .i64 0, .int .i64 0, .bool false, .string ⟨#[]⟩, .slice none 0 0, .slice none 0 0, .slice none 0 0] 27 :: cel b1 #[.int .i64 (tidy0 x).code, .int .u64 (tidy0 x).a, .int .u64 (tidy0 x).b, .int .i64 (tidy0 x).key, .int .i64 (tidy0 x).val, .int .i64 (tidy0 x).lo, .int .i64 (tidy0 x).hi, .int .i64 (tidy0 x).n, .bool (tidy0 x).flag, .string (tidy0 x).name, .slice ab (List.length (by8 (tidy0 x).bytes)) cb, .slice ae (List.length (en2 (tidy0 x).ents)) ce, .slice a1 (List.length (ch4 (tidy0 x).chs)) c1] 27 :: Sh 5 1 (by8 x.bytes) ab cb :: Sh 40 2 (en2 x.ents) ae ce :: Sh 63 4 (ch4 x.chs) ac cc :: L) w := hS
        replace hS : St g (Own 63 4 (ch4 (tidy0 x).chs) a1 c1 :: cel b2 #[.int .i64 0, .int .u64 0, .int .u64 0, .int .i64 0, .int .i64 0, .int .i64 0, .int .i64 0, .int .i64 0, .bool false, .string ⟨#[]⟩, .slice none 0 0, .slice none 0 0, .slice none 0 0] 27 :: cel b1 #[.int .i64 (tidy0 x).code, .int .u64 (tidy0 x).a, .int .u64 (tidy0 x).b, .int .i64 (tidy0 x).key, .int .i64 (tidy0 x).val, .int .i64 (tidy0 x).lo, .int .i64 (tidy0 x).hi, .int .i64 (tidy0 x).n, .bool (tidy0 x).flag, .string (tidy0 x).name, .slice ab (List.length (by8 (tidy0 x).bytes)) cb, .slice ae (List.length (en2 (tidy0 x).ents)) ce, .slice a1 (List.length (ch4 (tidy0 x).chs)) c1] 27 :: Sh 5 1 (by8 (tidy0 x).bytes) ab cb :: Sh 40 2 (en2 x.ents) ae ce :: Sh 63 4 (ch4 x.chs) ac cc :: L) w := hS
        replace hS : St g (Own 63 4 (ch4 (tidy0 x).chs) a1 c1 :: cel b2 #[.int .i64 0, .int .u64 0, .int .u64 0, .int .i64 0, .int .i64 0, .int .i64 0, .int .i64 0, .int .i64 0, .bool false, .string ⟨#[]⟩, .slice none 0 0, .slice none 0 0, .slice none 0 0] 27 :: cel b1 #[.int .i64 (tidy0 x).code, .int .u64 (tidy0 x).a, .int .u64 (tidy0 x).b, .int .i64 (tidy0 x).key, .int .i64 (tidy0 x).val, .int .i64 (tidy0 x).lo, .int .i64 (tidy0 x).hi, .int .i64 (tidy0 x).n, .bool (tidy0 x).flag, .string (tidy0 x).name, .slice ab (List.length (by8 (tidy0 x).bytes)) cb, .slice ae (List.length (en2 (tidy0 x).ents)) ce, .slice a1 (List.length (ch4 (tidy0 x).chs)) c1] 27 :: Sh 5 1 (by8 (tidy0 x).bytes) ab cb :: Sh 40 2 (en2 (tidy0 x).ents) ae ce :: Sh 63 4 (ch4 x.chs) ac cc :: L) w := hS
        refine WL.ldF rfl rfl 2 hS rfl rfl ag_27 ?_
        replace hS := (hS.at_ 0 rfl).share
        replace hS : St g (Sh 63 4 (ch4 (tidy0 x).chs) a1 c1 :: cel b2 #[.int .i64 0, .int .u64 0, .int .u64 0, .int .i64 0, .int .i64 0, .int .i64 0, .int .i64 0, .int .i64 0, .bool false, .string ⟨#[]⟩, .slice none 0 0, .slice none 0 0, .slice none 0 0] 27 :: cel b1 #[.int .i64 (tidy0 x).code, .int .u64 (tidy0 x).a, .int .u64 (tidy0 x).b, .int .i64 (tidy0 x).key, .int .i64 (tidy0 x).val, .int .i64 (tidy0 x).lo, .int .i64 (tidy0 x).hi, .int .i64 (tidy0 x).n, .bool (tidy0 x).flag, .string (tidy0 x).name, .slice ab (List.length (by8 (tidy0 x).bytes)) cb, .slice ae (List.length (en2 (tidy0 x).ents)) ce, .slice a1 (List.length (ch4 (tidy0 x).chs)) c1] 27 :: Sh 5 1 (by8 (tidy0 x).bytes) ab cb :: Sh 40 2 (en2 (tidy0 x).ents) ae ce :: Sh 63 4 (ch4 x.chs) ac cc :: L) w := hS
        refine WL.call rfl rfl (only_spec (x := tidy0 x) (ab := ab) (ae := ae) (ac := a1) (cb := cb) (ce := ce) (cc := c1)  (hS := (hS.sel 6 [3, 3, 0, 0, 0, 0] rfl))) rfl ?_
        rintro _ w ⟨ab1, ae1, ac1, cb1, ce1, cc1, rfl, hS⟩
        replace hS : St g (Sh 5 1 (by8 (only (tidy0 x)).bytes) ab1 cb1 :: Sh 40 2 (en2 (only (tidy0 x)).ents) ae1 ce1 :: Sh 63 4 (ch4 (only (tidy0 x)).chs) ac1 cc1 :: Sh 5 1 (by8 (tidy0 x).bytes) ab cb :: Sh 40 2 (en2 (tidy0 x).ents) ae ce :: Sh 63 4 (ch4 (tidy0 x).chs) a1 c1 :: cel b2 #[.int .i64 0, .int .u64 0, .int .u64 0, .int .i64 0, .int .i64 0, .int .i64 0, .int .i64 0, .int .i64 0, .bool false, .string ⟨#[]⟩, .slice none 0 0, .slice none 0 0, .slice none 0 0] 27 :: cel b1 #[.int .i64 (tidy0 x).code, .int .u64 (tidy0 x).a, .int .u64 (tidy0 x).b, .int .i64 (tidy0 x).key, .int .i64 (tidy0 x).val, .int .i64 (tidy0 x).lo, .int .i64 (tidy0 x).hi, .int .i64 (tidy0 x).n, .bool (tidy0 x).flag, .string (tidy0 x).name, .slice ab (List.length (by8 (tidy0 x).bytes)) cb, .slice ae (List.length (en2 (tidy0 x).ents)) ce, .slice a1 (List.length (ch4 (tidy0 x).chs)) c1] 27 :: Sh 63 4 (ch4 x.chs) ac cc :: L) w := hS
        refine WL.stF rfl rfl rfl 6 hS rfl rfl rfl rfl rfl ag_27 (fun w hS => ?_)
        replace hS : St g (Sh 5 1 (by8 (only (tidy0 x)).bytes) ab1 cb1 :: Sh 40 2 (en2 (only (tidy0 x)).ents) ae1 ce1 :: Sh 63 4 (ch4 (only (tidy0 x)).chs) ac1 cc1 :: Sh 5 1 (by8 (tidy0 x).bytes) ab cb :: Sh 40 2 (en2 (tidy0 x).ents) ae ce :: Sh 63 4 (ch4 (tidy0 x).chs) a1 c1 :: cel b2 #[.int .i64 (only (tidy0 x)).code, .int .u64 (only (tidy0 x)).a, .int .u64 (only (tidy0 x)).b, .int .i64 (only (tidy0 x)).key, .int .i64 (only (tidy0 x)).val, .int .i64 (only (tidy0 x)).lo, .int .i64 (only (tidy0 x)).hi, .int .i64 (only (tidy0 x)).n, .bool (only (tidy0 x)).flag, .string (only (tidy0 x)).name, .slice ab1 (List.length (by8 (only (tidy0 x)).bytes)) cb1, .slice ae1 (List.length (en2 (only (tidy0 x)).ents)) ce1, .slice ac1 (List.length (ch4 (only (tidy0 x)).chs)) cc1] 27 :: cel b1 #[.int .i64 (tidy0 x).code, .int .u64 (tidy0 x).a, .int .u64 (tidy0 x).b, .int .i64 (tidy0 x).key, .int .i64 (tidy0 x).val, .int .i64 (tidy0 x).lo, .int .i64 (tidy0 x).hi, .int .i64 (tidy0 x).n, .bool (tidy0 x).flag, .string (tidy0 x).name, .slice ab (List.length (by8 (tidy0 x).bytes)) cb, .slice ae (List.length (en2 (tidy0 x).ents)) ce, .slice a1 (List.length (ch4 (tidy0 x).chs)) c1] 27 :: Sh 63 4 (ch4 x.chs) ac cc :: L) w := hS
        refine WL.nil ?_
        as_aux_lemma =>
          refine WC.ret ?_
          refine ⟨[.agg #[.int .i64 (only (tidy0 x)).code, .int .u64 (only (tidy0 x)).a, .int .u64 (only (tidy0 x)).b, .int .i64 (only (tidy0 x)).key, .int .i64 (only (tidy0 x)).val, .int .i64 (only (tidy0 x)).lo, .int .i64 (only (tidy0 x)).hi, .int .i64 (only (tidy0 x)).n, .bool (only (tidy0 x)).flag, .string (only (tidy0 x)).name, .slice ab1 (List.length (by8 (only (tidy0 x)).bytes)) cb1, .slice ae1 (List.length (en2 (only (tidy0 x)).ents)) ce1, .slice ac1 (List.length (ch4 (only (tidy0 x)).chs)) cc1]], ⟨⟨_, rfl, hS.lvF 6 rfl ag_27⟩, trivial⟩, ?_⟩
          replace hS := (hS.sel 9 [0, 0, 0, 0, 0, 3] rfl)
          exact ⟨_, _, _, _, _, _, rfl, hS⟩

theorem awake_spec {g w : World} {L : List HP} (hS : St g (L) w) :
    Sp Try.prog 10 [] w (fun v w' => v = .bool true ∧ St g (L) w') := by
  refine Sp.enter Try.func10 rfl (by kernel_rfl) (by kernel_rfl) ?_
  refine WC.seq ?_
  refine WC.region ?_
  refine WL.r 1 rfl ?_
  refine WL.nil ?_
  refine WC.seq ?_
  refine WC.region ?_
  refine WL.build rfl rfl (cs := [.int .i64 3, .int .u64 300, .int .u64 0, .int .i64 (-1), .int .i64 2, .int .i64 0, .int .i64 0, .int .i64 0, .bool false, .string ⟨#[]⟩, .slice none 0 0, .slice none 0 0, .slice none 0 0]) zv_27 rfl rfl ?_
  replace hS := hS.nilS 5 1
  replace hS : St g (Sh 5 1 (by8 []) none 0 :: L) w := hS
  replace hS := hS.nilS 5 1
  replace hS : St g (Sh 5 1 (by8 exOp.bytes) none 0 :: Sh 5 1 (by8 []) none 0 :: L) w := hS
  replace hS := hS.nilS 40 2
  replace hS : St g (Sh 40 2 (en2 exOp.ents) none 0 :: Sh 5 1 (by8 exOp.bytes) none 0 :: Sh 5 1 (by8 []) none 0 :: L) w := hS
  replace hS := hS.nilS 63 4
  replace hS : St g (Sh 63 4 (ch4 exOp.chs) none 0 :: Sh 40 2 (en2 exOp.ents) none 0 :: Sh 5 1 (by8 exOp.bytes) none 0 :: Sh 5 1 (by8 []) none 0 :: L) w := hS
  refine WL.call rfl rfl (append_spec (bs := []) (a := none) (c := 0) (x := exOp) (ab := none) (ae := none) (ac := none) (cb := 0) (ce := 0) (cc := 0) (hbs := (by decide)) (hw := exOp_w) (hS := (hS.sel 4 [3, 2, 1, 0] rfl))) rfl ?_
  rintro _ w ⟨ok1, ys1, a1, c1, rfl, hS, f1, f2⟩
  replace hS : St g (Own 5 1 (by8 ys1) a1 c1 :: Sh 5 1 (by8 []) none 0 :: Sh 5 1 (by8 exOp.bytes) none 0 :: Sh 40 2 (en2 exOp.ents) none 0 :: Sh 63 4 (ch4 exOp.chs) none 0 :: L) w := hS
  refine WL.r 5 rfl ?_
  refine WL.nil ?_
  refine WC.seq ?_
  refine WC.region ?_
  refine WL.r 3 rfl ?_
  by_cases cg1 : (if ok1 then (0 : Int) else 1) = 0
  · refine WL.reb 10 (.bool true) (congrArg Value.bool (decide_eq_true cg1)) ?_
    refine WL.ung rfl rfl rfl ?_
    refine WL.r 1 rfl ?_
    refine WL.ung rfl rfl rfl ?_
    refine WL.lit rfl rfl (by8 [3, 172, 2, 1, 4]) el_23 hS (by exact ⟨rfl, rfl, rfl, rfl, rfl, rfl, rfl, rfl, rfl, rfl⟩) (by8_ok _) rfl (by decide) (fun b1 w hS => ?_)
    refine WL.ung rfl rfl rfl ?_
    replace hS := (hS.at_ 1 rfl).share
    replace hS : St g (Sh 5 1 (by8 ys1) a1 c1 :: Own 5 1 (by8 [3, 172, 2, 1, 4]) (some ⟨b1, 0, none⟩) (List.length (by8 [3, 172, 2, 1, 4])) :: Sh 5 1 (by8 []) none 0 :: Sh 5 1 (by8 exOp.bytes) none 0 :: Sh 40 2 (en2 exOp.ents) none 0 :: Sh 63 4 (ch4 exOp.chs) none 0 :: L) w := hS
    replace hS := (hS.at_ 1 rfl).share
    replace hS : St g (Sh 5 1 (by8 [3, 172, 2, 1, 4]) (some ⟨b1, 0, none⟩) (List.length (by8 [3, 172, 2, 1, 4])) :: Sh 5 1 (by8 ys1) a1 c1 :: Sh 5 1 (by8 []) none 0 :: Sh 5 1 (by8 exOp.bytes) none 0 :: Sh 40 2 (en2 exOp.ents) none 0 :: Sh 63 4 (ch4 exOp.chs) none 0 :: L) w := hS
    refine WL.call rfl rfl (sameB (xs := ys1) (ys := [3, 172, 2, 1, 4]) (a := a1) (b := some ⟨b1, 0, none⟩) (c := c1) (d := List.length (by8 [3, 172, 2, 1, 4])) (hl := (by rw [f2, if_pos (f1.2 exOp_ok), exOp_enc]; decide)) (hS := (hS.sel 6 [1, 0, 0, 0, 0, 0] rfl))) rfl ?_
    rintro _ w ⟨ok2, rfl, hS, f3⟩
    replace hS : St g (Sh 5 1 (by8 ys1) a1 c1 :: Sh 5 1 (by8 [3, 172, 2, 1, 4]) (some ⟨b1, 0, none⟩) (List.length (by8 [3, 172, 2, 1, 4])) :: Sh 5 1 (by8 []) none 0 :: Sh 5 1 (by8 exOp.bytes) none 0 :: Sh 40 2 (en2 exOp.ents) none 0 :: Sh 63 4 (ch4 exOp.chs) none 0 :: L) w := hS
    refine WL.r 2 rfl ?_
    by_cases cg2 : ok2 = true
    · refine WL.reb 15 (.bool true) (congrArg Value.bool cg2) ?_
      refine WL.ung rfl rfl rfl ?_
      refine WL.build rfl rfl (cs := [.int .i64 1, .int .u64 0, .int .u64 0, .int .i64 0, .int .i64 0, .int .i64 0, .int .i64 0, .int .i64 0, .bool false, .string ⟨#[]⟩, .slice none 0 0, .slice none 0 0, .slice none 0 0]) zv_27 rfl rfl ?_
      refine WL.ung rfl rfl rfl ?_
      replace hS := hS.nilS 63 4
      replace hS : St g (Sh 63 4 (ch4 (op0 1).chs) none 0 :: Sh 5 1 (by8 ys1) a1 c1 :: Sh 5 1 (by8 [3, 172, 2, 1, 4]) (some ⟨b1, 0, none⟩) (List.length (by8 [3, 172, 2, 1, 4])) :: Sh 5 1 (by8 []) none 0 :: Sh 5 1 (by8 exOp.bytes) none 0 :: Sh 40 2 (en2 exOp.ents) none 0 :: Sh 63 4 (ch4 exOp.chs) none 0 :: L) w := hS
      refine WL.call rfl rfl (valid_spec (x := op0 1) (ab := none) (ae := none) (ac := none) (cb := 0) (ce := 0) (cc := 0)  (hS := hS)) rfl ?_
      rintro _ w ⟨ok3, rfl, hS, f4⟩
      replace hS : St g (Sh 63 4 (ch4 (op0 1).chs) none 0 :: Sh 5 1 (by8 ys1) a1 c1 :: Sh 5 1 (by8 [3, 172, 2, 1, 4]) (some ⟨b1, 0, none⟩) (List.length (by8 [3, 172, 2, 1, 4])) :: Sh 5 1 (by8 []) none 0 :: Sh 5 1 (by8 exOp.bytes) none 0 :: Sh 40 2 (en2 exOp.ents) none 0 :: Sh 63 4 (ch4 exOp.chs) none 0 :: L) w := hS
      refine WL.r 2 rfl ?_
      by_cases cg3 : ok3 = true
      · refine WL.reb 19 (.bool true) (congrArg Value.bool cg3) ?_
        refine WL.ung rfl rfl rfl ?_
        refine WL.build rfl rfl (cs := [.int .i64 0, .int .u64 0, .int .u64 0, .int .i64 0, .int .i64 0, .int .i64 0, .int .i64 0, .int .i64 0, .bool false, .string ⟨#[]⟩, .slice none 0 0, .slice none 0 0, .slice none 0 0]) zv_27 rfl rfl ?_
        refine WL.ung rfl rfl rfl ?_
        replace hS := hS.nilS 63 4
        replace hS : St g (Sh 63 4 (ch4 (op0 0).chs) none 0 :: Sh 63 4 (ch4 (op0 1).chs) none 0 :: Sh 5 1 (by8 ys1) a1 c1 :: Sh 5 1 (by8 [3, 172, 2, 1, 4]) (some ⟨b1, 0, none⟩) (List.length (by8 [3, 172, 2, 1, 4])) :: Sh 5 1 (by8 []) none 0 :: Sh 5 1 (by8 exOp.bytes) none 0 :: Sh 40 2 (en2 exOp.ents) none 0 :: Sh 63 4 (ch4 exOp.chs) none 0 :: L) w := hS
        refine WL.call rfl rfl (valid_spec (x := op0 0) (ab := none) (ae := none) (ac := none) (cb := 0) (ce := 0) (cc := 0)  (hS := hS)) rfl ?_
        rintro _ w ⟨ok4, rfl, hS, f5⟩
        replace hS : St g (Sh 63 4 (ch4 (op0 0).chs) none 0 :: Sh 63 4 (ch4 (op0 1).chs) none 0 :: Sh 5 1 (by8 ys1) a1 c1 :: Sh 5 1 (by8 [3, 172, 2, 1, 4]) (some ⟨b1, 0, none⟩) (List.length (by8 [3, 172, 2, 1, 4])) :: Sh 5 1 (by8 []) none 0 :: Sh 5 1 (by8 exOp.bytes) none 0 :: Sh 40 2 (en2 exOp.ents) none 0 :: Sh 63 4 (ch4 exOp.chs) none 0 :: L) w := hS
        refine WL.ung rfl rfl rfl ?_
        refine WL.r 1 rfl ?_
        refine WL.r 2 rfl ?_
        refine WL.nil ?_
        as_aux_lemma =>
          refine WC.ret ?_
          refine ⟨[.bool (! ok4)], rfl, ?_⟩
          replace hS := (hS.sel 8 [] rfl)
          have hk : ¬ ok4 = true := fun h => op0_no (f5.1 h)
          exact ⟨by rw [Bool.eq_false_iff.2 hk]; rfl, hS⟩
      · refine WL.reb 19 (.bool false) (congrArg Value.bool (Bool.eq_false_iff.2 cg3)) ?_
        refine WL.skp rfl rfl rfl rfl ?_
        refine WL.skp rfl rfl rfl rfl ?_
        refine WL.skp rfl rfl rfl rfl ?_
        refine WL.r 2 rfl ?_
        refine WL.nil ?_
        as_aux_lemma =>
          refine WC.ret ?_
          refine ⟨[.bool false], rfl, ?_⟩
          replace hS := (hS.sel 7 [] rfl)
          exact absurd (f4.2 op1_ok) cg3
    · refine WL.reb 15 (.bool false) (congrArg Value.bool (Bool.eq_false_iff.2 cg2)) ?_
      refine WL.skp rfl rfl rfl rfl ?_
      refine WL.skp rfl rfl rfl rfl ?_
      refine WL.r 2 rfl ?_
      refine WL.skp rfl rfl rfl rfl ?_
      refine WL.skp rfl rfl rfl rfl ?_
      refine WL.skp rfl rfl rfl rfl ?_
      refine WL.r 2 rfl ?_
      refine WL.nil ?_
      as_aux_lemma =>
        refine WC.ret ?_
        refine ⟨[.bool false], rfl, ?_⟩
        replace hS := (hS.sel 6 [] rfl)
        exfalso; exact cg2 (f3.2 (by rw [f2, if_pos (f1.2 exOp_ok), exOp_enc]; rfl))
  · refine WL.reb 10 (.bool false) (congrArg Value.bool (decide_eq_false cg1)) ?_
    refine WL.skp rfl rfl rfl rfl ?_
    refine WL.skp rfl rfl rfl rfl ?_
    refine WL.skp rfl rfl rfl rfl ?_
    refine WL.r 2 rfl ?_
    refine WL.skp rfl rfl rfl rfl ?_
    refine WL.skp rfl rfl rfl rfl ?_
    refine WL.r 2 rfl ?_
    refine WL.skp rfl rfl rfl rfl ?_
    refine WL.skp rfl rfl rfl rfl ?_
    refine WL.skp rfl rfl rfl rfl ?_
    refine WL.r 2 rfl ?_
    refine WL.nil ?_
    as_aux_lemma =>
      refine WC.ret ?_
      refine ⟨[.bool false], rfl, ?_⟩
      replace hS := (hS.sel 5 [] rfl)
      exfalso; exact cg1 (by rw [if_pos (f1.2 exOp_ok)])
end Go.Proofs.Ytofnoopjlmdelaa
