/-
  Answers: the laws' small functions, equal answers.
  Conditions: sizes below a bound that the laws meet.
-/
import Derived.Test.YtofnoopjlmdelaaSame
import Derived.Test.YtofnoopjlmdelaaAnm
import Derived.Test.YtofnoopjlmdelaaRf2
namespace Go.Proofs.Ytofnoopjlmdelaa
open Go Go.V


theorem big_spec {g w : World} {L : List HP} (x : AnM) (ab ae ac ak : Option Addr) (cb ce cc ck : Nat) (hS : St g (L) w) :
    Sp Try.prog 18 [.agg #[.int .i64 x.err, .int .u64 x.handle, .int .i64 x.value, .bool x.found, .int .i64 x.n, .int .i64 x.ekey, .int .i64 x.eval, .int .i64 x.count, .int .i64 x.sum, .int .i64 x.mn, .int .i64 x.mx, .slice ae (List.length (en2 x.ents)) ce, .slice ac (List.length (ch4 x.chs)) cc, .slice ak (List.length (i64s x.keys)) ck, .slice ab (List.length (by8 x.bytes)) cb]] w (fun v w' => v = .bool (decide (bigAn x)) ∧ St g (L) w') := by
  refine Sp.enter Try.func18 rfl (by kernel_rfl) (by kernel_rfl) ?_
  refine WC.seq ?_
  refine WC.region ?_
  refine WL.box rfl rfl #[.int .i64 x.err, .int .u64 x.handle, .int .i64 x.value, .bool x.found, .int .i64 x.n, .int .i64 x.ekey, .int .i64 x.eval, .int .i64 x.count, .int .i64 x.sum, .int .i64 x.mn, .int .i64 x.mx, .slice ae (List.length (en2 x.ents)) ce, .slice ac (List.length (ch4 x.chs)) cc, .slice ak (List.length (i64s x.keys)) ck, .slice ab (List.length (by8 x.bytes)) cb] hS rfl rfl (fun b1 w hS => ?_)
  refine WL.r 1 rfl ?_
  refine WL.nil ?_
  refine WC.seq ?_
  refine WC.region ?_
  refine WL.run 4 [.slice ae (List.length (en2 x.ents)) ce] rfl (by exact hS.ld 0 rfl rfl) ?_
  refine WL.runG 19 [.slice ac (List.length (ch4 x.chs)) cc, .slice ak (List.length (i64s x.keys)) ck, .slice ab (List.length (by8 x.bytes)) cb] rfl (by exact ⟨fun _ => hS.ld 0 rfl rfl, fun _ => hS.ld 0 rfl rfl, fun _ => hS.ld 0 rfl rfl⟩) (fun j => ?_)
  refine WL.prop 24 rfl (bor (bor (bor (dd _) (dd _)) (dd _)) (dd _)) ?_
  refine WL.nil ?_
  refine WC.ret ?_
  refine ⟨[.bool (bif (bif (bif (decide (60 < (List.length (en2 x.ents) : Int))) then true else (decide (60 < (List.length (ch4 x.chs) : Int)))) then true else (decide (60 < (List.length (i64s x.keys) : Int)))) then true else (decide (300 < (List.length (by8 x.bytes) : Int))))], rfl, ?_⟩
  replace hS := (hS.sel 1 [] rfl)
  rw [bif_or, bif_or, bif_or]; refine ⟨?_, hS⟩
  simp only [by8_len, en2_len, ch4_len, i64s_len]
  exact congrArg Value.bool (decide_eq_decide.2 (by unfold bigAn; omega))

theorem plain_spec {g w : World} {L : List HP} (x : AnM) (ab ae ac ak : Option Addr) (cb ce cc ck : Nat) (hw : AnT x) (hb : ¬ bigAn x) (hS : St g (Sh 63 4 (ch4 x.chs) ac cc :: L) w) :
    Sp Try.prog 27 [.agg #[.int .i64 x.err, .int .u64 x.handle, .int .i64 x.value, .bool x.found, .int .i64 x.n, .int .i64 x.ekey, .int .i64 x.eval, .int .i64 x.count, .int .i64 x.sum, .int .i64 x.mn, .int .i64 x.mx, .slice ae (List.length (en2 x.ents)) ce, .slice ac (List.length (ch4 x.chs)) cc, .slice ak (List.length (i64s x.keys)) ck, .slice ab (List.length (by8 x.bytes)) cb]] w (fun v w' => ∃ (ac2 : Option Addr) (cc2 : Nat), v = .agg #[.int .i64 (plainAn x).err, .int .u64 (plainAn x).handle, .int .i64 (plainAn x).value, .bool (plainAn x).found, .int .i64 (plainAn x).n, .int .i64 (plainAn x).ekey, .int .i64 (plainAn x).eval, .int .i64 (plainAn x).count, .int .i64 (plainAn x).sum, .int .i64 (plainAn x).mn, .int .i64 (plainAn x).mx, .slice ae (List.length (en2 (plainAn x).ents)) ce, .slice ac2 (List.length (ch4 (plainAn x).chs)) cc2, .slice ak (List.length (i64s (plainAn x).keys)) ck, .slice ab (List.length (by8 (plainAn x).bytes)) cb] ∧ St g (Sh 63 4 (ch4 (plainAn x).chs) ac2 cc2 :: Sh 63 4 (ch4 x.chs) ac cc :: L) w') := by
  refine Sp.enter Try.func27 rfl (by kernel_rfl) (by kernel_rfl) ?_
  refine WC.seq ?_
  refine WC.region ?_
  refine WL.box rfl rfl #[.int .i64 x.err, .int .u64 x.handle, .int .i64 x.value, .bool x.found, .int .i64 x.n, .int .i64 x.ekey, .int .i64 x.eval, .int .i64 x.count, .int .i64 x.sum, .int .i64 x.mn, .int .i64 x.mx, .slice ae (List.length (en2 x.ents)) ce, .slice ac (List.length (ch4 x.chs)) cc, .slice ak (List.length (i64s x.keys)) ck, .slice ab (List.length (by8 x.bytes)) cb] hS rfl rfl (fun b1 w hS => ?_)
  refine WL.new rfl rfl zv_45 hS (fun b2 w hS => ?_)
  refine WL.nil ?_
  refine WC.seq ?_
  refine WC.region ?_
  have hbig := hb; unfold bigAn at hbig; have hcd := hw.err; have hl4 := ch4_len x.chs
  refine WL.run 2 [.int .i64 x.err] rfl (by exact hS.ld 1 rfl rfl) ?_
  refine WL.call rfl rfl (mod_spec (k := x.err) (n := 256) (hk := (by assumption)) (hn := (by omega)) (hS := hS)) rfl ?_
  clear hS; rintro _ w ⟨rfl, hS⟩
  replace hS : St g (cel b2 #[.int .i64 0, .int .u64 0, .int .i64 0, .bool false, .int .i64 0, .int .i64 0, .int .i64 0, .int .i64 0, .int .i64 0, .int .i64 0, .int .i64 0, .slice none 0 0, .slice none 0 0, .slice none 0 0, .slice none 0 0] 45 :: cel b1 #[.int .i64 x.err, .int .u64 x.handle, .int .i64 x.value, .bool x.found, .int .i64 x.n, .int .i64 x.ekey, .int .i64 x.eval, .int .i64 x.count, .int .i64 x.sum, .int .i64 x.mn, .int .i64 x.mx, .slice ae (List.length (en2 x.ents)) ce, .slice ac (List.length (ch4 x.chs)) cc, .slice ak (List.length (i64s x.keys)) ck, .slice ab (List.length (by8 x.bytes)) cb] 45 :: Sh 63 4 (ch4 x.chs) ac cc :: L) w := hS
  refine WL.r 1 rfl ?_
  refine WL.st rfl rfl rfl 1 hS rfl rfl rfl rfl rfl rfl (fun w hS => ?_)
  replace hS : St g (cel b2 #[.int .i64 0, .int .u64 0, .int .i64 0, .bool false, .int .i64 0, .int .i64 0, .int .i64 0, .int .i64 0, .int .i64 0, .int .i64 0, .int .i64 0, .slice none 0 0, .slice none 0 0, .slice none 0 0, .slice none 0 0] 45 :: cel b1 #[.int .i64 (x.err % 256), .int .u64 x.handle, .int .i64 x.value, .bool x.found, .int .i64 x.n, .int .i64 x.ekey, .int .i64 x.eval, .int .i64 x.count, .int .i64 x.sum, .int .i64 x.mn, .int .i64 x.mx, .slice ae (List.length (en2 x.ents)) ce, .slice ac (List.length (ch4 x.chs)) cc, .slice ak (List.length (i64s x.keys)) ck, .slice ab (List.length (by8 x.bytes)) cb] 45 :: Sh 63 4 (ch4 x.chs) ac cc :: L) w := hS
  refine WL.nil ?_
  refine WC.seq ?_
  refine WC.region ?_
  refine WL.run 2 [.slice ac (List.length (ch4 x.chs)) cc] rfl (by exact hS.ld 1 rfl rfl) ?_
  replace hS := hS.nil_ 63 4
  refine WL.app rfl rfl 0 (ch4 x.chs) el_25 hS rfl (hS.srcS 3 rfl) (List.nil_append _) (Rm.of (by first | omega | (simp <;> omega)) (by decide)) rfl rfl (fun a1 c1 w hS => ?_)
  replace hS : St g (Own 63 4 (ch4 x.chs) a1 c1 :: cel b2 #[.int .i64 0, .int .u64 0, .int .i64 0, .bool false, .int .i64 0, .int .i64 0, .int .i64 0, .int .i64 0, .int .i64 0, .int .i64 0, .int .i64 0, .slice none 0 0, .slice none 0 0, .slice none 0 0, .slice none 0 0] 45 :: cel b1 #[.int .i64 (x.err % 256), .int .u64 x.handle, .int .i64 x.value, .bool x.found, .int .i64 x.n, .int .i64 x.ekey, .int .i64 x.eval, .int .i64 x.count, .int .i64 x.sum, .int .i64 x.mn, .int .i64 x.mx, .slice ae (List.length (en2 x.ents)) ce, .slice ac (List.length (ch4 x.chs)) cc, .slice ak (List.length (i64s x.keys)) ck, .slice ab (List.length (by8 x.bytes)) cb] 45 :: Sh 63 4 (ch4 x.chs) ac cc :: L) w := hS
  refine WL.r 1 rfl ?_
  refine WL.nil ?_
  as_aux_lemma =>
    refine WC.seq ?_
    refine WC.seq ?_
    refine WC.region ?_
    refine WL.r 1 rfl ?_
    refine WL.nil ?_
    refine WC.block ?_
    refine WC.loop [1, 2, 3, 4] (fun kM vs w => ∃ (k : Nat) (ls : List (Int × Int × Int × Int)), vs = [.pointer (some ⟨b1, 0, none⟩), .pointer (some ⟨b2, 0, none⟩), .slice a1 (List.length (ch4 x.chs)) c1, .int .i64 (k : Int)] ∧ St g (Own 63 4 (ch4 ls) a1 c1 :: cel b2 #[.int .i64 0, .int .u64 0, .int .i64 0, .bool false, .int .i64 0, .int .i64 0, .int .i64 0, .int .i64 0, .int .i64 0, .int .i64 0, .int .i64 0, .slice none 0 0, .slice none 0 0, .slice none 0 0, .slice none 0 0] 45 :: cel b1 #[.int .i64 (x.err % 256), .int .u64 x.handle, .int .i64 x.value, .bool x.found, .int .i64 x.n, .int .i64 x.ekey, .int .i64 x.eval, .int .i64 x.count, .int .i64 x.sum, .int .i64 x.mn, .int .i64 x.mx, .slice ae (List.length (en2 x.ents)) ce, .slice ac (List.length (ch4 x.chs)) cc, .slice ak (List.length (i64s x.keys)) ck, .slice ab (List.length (by8 x.bytes)) cb] 45 :: Sh 63 4 (ch4 x.chs) ac cc :: L) w ∧ (k ≤ x.chs.length ∧ ls.length = x.chs.length) ∧ (ls = kind256 (x.chs.take k) ++ x.chs.drop k) ∧ (x.chs.length - k) = kM) ((List.length x.chs) - 0) ⟨0, x.chs, rfl, hS, (by omega), (by simp [kind256]), rfl⟩ ?_
    clear hS; rintro _ _ w j ⟨k, ls, rfl, hS, hk, hr, rfl⟩
    refine WC.seq ?_
    refine WC.seq ?_
    refine WC.region ?_
    refine WL.r 4 rfl ?_
    refine WL.nil ?_
    refine WC.ifP rfl (fun cd1 => ?_) (fun cd1 => ?_)
    · refine WC.skip ?_
      refine WC.seq ?_
      refine WC.block ?_
      refine WC.region ?_
      refine WL.r 4 rfl ?_
      have hll := ch4_len ls; obtain ⟨y, hx3⟩ : ∃ y, x.chs[k]? = some y := ⟨_, List.getElem?_eq_getElem (by omega)⟩; obtain ⟨hw1, hw2, hw3, hw4⟩ := hw.chs y (List.mem_of_getElem? hx3); have hx4 : ls[k]? = some y := by rw [hr, kind_at (by omega), hx3]
      refine WL.ix rfl rfl (i := (k : Int)) (k) el_25 rfl rfl (by omega) (by omega) (hS.rdO 0 rfl (ch4_at hx4)).1 ?_
      refine WL.run 2 [.int .i64 y.1] rfl (by exact (hS.rdO 0 rfl (ch4_at hx4)).2 0 _ rfl) ?_
      refine WL.call rfl rfl (mod_spec (k := y.1) (n := 256) (hk := (by assumption)) (hn := (by omega)) (hS := hS)) rfl ?_
      clear hS; rintro _ w ⟨rfl, hS⟩
      replace hS : St g (Own 63 4 (ch4 ls) a1 c1 :: cel b2 #[.int .i64 0, .int .u64 0, .int .i64 0, .bool false, .int .i64 0, .int .i64 0, .int .i64 0, .int .i64 0, .int .i64 0, .int .i64 0, .int .i64 0, .slice none 0 0, .slice none 0 0, .slice none 0 0, .slice none 0 0] 45 :: cel b1 #[.int .i64 (x.err % 256), .int .u64 x.handle, .int .i64 x.value, .bool x.found, .int .i64 x.n, .int .i64 x.ekey, .int .i64 x.eval, .int .i64 x.count, .int .i64 x.sum, .int .i64 x.mn, .int .i64 x.mx, .slice ae (List.length (en2 x.ents)) ce, .slice ac (List.length (ch4 x.chs)) cc, .slice ak (List.length (i64s x.keys)) ck, .slice ab (List.length (by8 x.bytes)) cb] 45 :: Sh 63 4 (ch4 x.chs) ac cc :: L) w := hS
      refine WL.ix rfl rfl (i := (k : Int)) (k) el_25 rfl rfl (by omega) (by omega) (hS.rdO 0 rfl (ch4_at hx4)).1 ?_
      refine WL.r 1 rfl ?_
      refine WL.stE rfl rfl rfl 0 (k) 0 [.int .i64 y.1, .int .i64 y.2.1, .int .i64 y.2.2.1, .int .i64 y.2.2.2] (ch4 (List.set ls k (y.1 % 256, y.2.1, y.2.2.1, y.2.2.2))) hS rfl (ch4_at hx4) rfl rfl rfl rfl rfl (ch4_set _ _ (y.1 % 256, y.2.1, y.2.2.1, y.2.2.2)) (fun w hS => ?_)
      replace hS : St g (Own 63 4 (ch4 (List.set ls k (y.1 % 256, y.2.1, y.2.2.1, y.2.2.2))) a1 c1 :: cel b2 #[.int .i64 0, .int .u64 0, .int .i64 0, .bool false, .int .i64 0, .int .i64 0, .int .i64 0, .int .i64 0, .int .i64 0, .int .i64 0, .int .i64 0, .slice none 0 0, .slice none 0 0, .slice none 0 0, .slice none 0 0] 45 :: cel b1 #[.int .i64 (x.err % 256), .int .u64 x.handle, .int .i64 x.value, .bool x.found, .int .i64 x.n, .int .i64 x.ekey, .int .i64 x.eval, .int .i64 x.count, .int .i64 x.sum, .int .i64 x.mn, .int .i64 x.mx, .slice ae (List.length (en2 x.ents)) ce, .slice ac (List.length (ch4 x.chs)) cc, .slice ak (List.length (i64s x.keys)) ck, .slice ab (List.length (by8 x.bytes)) cb] 45 :: Sh 63 4 (ch4 x.chs) ac cc :: L) w := hS
      refine WL.nil ?_
      as_aux_lemma =>
        refine WC.region ?_
        refine WL.r 2 rfl ?_
        refine WL.nw 17 rfl (w64 (by omega)) ?_
        refine WL.r 1 rfl ?_
        refine WL.nil ?_
        exact ⟨_, by omega, k + 1, List.set ls k (y.1 % 256, y.2.1, y.2.2.1, y.2.2.2), rfl, hS, (by simp; omega), (by rw [hr, kind_set hx3]), rfl⟩
    · refine WC.exit ?_
      refine WC.seq ?_
      refine WC.region ?_
      have hll := ch4_len ls
      obtain rfl : ls = (plainAn x).chs := by rw [hr, List.take_of_length_le (by omega), List.drop_eq_nil_of_le (by omega)]; simp [plainAn]
      refine WL.reb 3 (.slice a1 (ch4 (plainAn x).chs).length c1) (congrArg (fun m => Value.slice a1 m c1) (by simp [plainAn, kind256])) ?_
      refine WL.r 2 rfl ?_
      refine WL.st rfl rfl rfl 2 hS rfl rfl rfl rfl rfl rfl (fun w hS => ?_)
      replace hS : St g (Own 63 4 (ch4 (plainAn x).chs) a1 c1 :: cel b2 #[.int .i64 0, .int .u64 0, .int .i64 0, .bool false, .int .i64 0, .int .i64 0, .int .i64 0, .int .i64 0, .int .i64 0, .int .i64 0, .int .i64 0, .slice none 0 0, .slice none 0 0, .slice none 0 0, .slice none 0 0] 45 :: cel b1 #[.int .i64 (x.err % 256), .int .u64 x.handle, .int .i64 x.value, .bool x.found, .int .i64 x.n, .int .i64 x.ekey, .int .i64 x.eval, .int .i64 x.count, .int .i64 x.sum, .int .i64 x.mn, .int .i64 x.mx, .slice ae (List.length (en2 x.ents)) ce, .slice a1 (List.length (ch4 (plainAn x).chs)) c1, .slice ak (List.length (i64s x.keys)) ck, .slice ab (List.length (by8 x.bytes)) cb] 45 :: Sh 63 4 (ch4 x.chs) ac cc :: L) w := hS
      refine WL.nil ?_
      refine WC.seq ?_
      refine WC.region ?_
      replace hS := (hS.at_ 0 rfl).share
      replace hS : St g (Sh 63 4 (ch4 (plainAn x).chs) a1 c1 :: cel b2 #[.int .i64 0, .int .u64 0, .int .i64 0, .bool false, .int .i64 0, .int .i64 0, .int .i64 0, .int .i64 0, .int .i64 0, .int .i64 0, .int .i64 0, .slice none 0 0, .slice none 0 0, .slice none 0 0, .slice none 0 0] 45 :: cel b1 #[.int .i64 (x.err % 256), .int .u64 x.handle, .int .i64 x.value, .bool x.found, .int .i64 x.n, .int .i64 x.ekey, .int .i64 x.eval, .int .i64 x.count, .int .i64 x.sum, .int .i64 x.mn, .int .i64 x.mx, .slice ae (List.length (en2 x.ents)) ce, .slice a1 (List.length (ch4 (plainAn x).chs)) c1, .slice ak (List.length (i64s x.keys)) ck, .slice ab (List.length (by8 x.bytes)) cb] 45 :: Sh 63 4 (ch4 x.chs) ac cc :: L) w := hS
      refine WL.ldF rfl rfl 2 hS rfl rfl ag_45 ?_
      refine WL.stF rfl rfl rfl 1 hS rfl rfl rfl rfl rfl ag_45 (fun w hS => ?_)
      replace hS : St g (Sh 63 4 (ch4 (plainAn x).chs) a1 c1 :: cel b2 #[.int .i64 (x.err % 256), .int .u64 x.handle, .int .i64 x.value, .bool x.found, .int .i64 x.n, .int .i64 x.ekey, .int .i64 x.eval, .int .i64 x.count, .int .i64 x.sum, .int .i64 x.mn, .int .i64 x.mx, .slice ae (List.length (en2 x.ents)) ce, .slice a1 (List.length (ch4 (plainAn x).chs)) c1, .slice ak (List.length (i64s x.keys)) ck, .slice ab (List.length (by8 x.bytes)) cb] 45 :: cel b1 #[.int .i64 (x.err % 256), .int .u64 x.handle, .int .i64 x.value, .bool x.found, .int .i64 x.n, .int .i64 x.ekey, .int .i64 x.eval, .int .i64 x.count, .int .i64 x.sum, .int .i64 x.mn, .int .i64 x.mx, .slice ae (List.length (en2 x.ents)) ce, .slice a1 (List.length (ch4 (plainAn x).chs)) c1, .slice ak (List.length (i64s x.keys)) ck, .slice ab (List.length (by8 x.bytes)) cb] 45 :: Sh 63 4 (ch4 x.chs) ac cc :: L) w := hS
      refine WL.nil ?_
      as_aux_lemma =>
        refine WC.ret ?_
        refine ⟨[.agg #[.int .i64 (x.err % 256), .int .u64 x.handle, .int .i64 x.value, .bool x.found, .int .i64 x.n, .int .i64 x.ekey, .int .i64 x.eval, .int .i64 x.count, .int .i64 x.sum, .int .i64 x.mn, .int .i64 x.mx, .slice ae (List.length (en2 x.ents)) ce, .slice a1 (List.length (ch4 (plainAn x).chs)) c1, .slice ak (List.length (i64s x.keys)) ck, .slice ab (List.length (by8 x.bytes)) cb]], ⟨⟨_, rfl, hS.lvF 1 rfl ag_45⟩, trivial⟩, ?_⟩
        replace hS := (hS.sel 3 [0] rfl)
        exact ⟨_, _, rfl, hS⟩

theorem sameans_spec {g w : World} {L : List HP} (x y : AnM) (ab ae ac ak ab2 ae2 ac2 ak2 : Option Addr) (cb ce cc ck cb2 ce2 cc2 ck2 : Nat) (h1 : x.ents.length ≤ 1000000000) (h2 : x.chs.length ≤ 1000000000) (h3 : x.keys.length ≤ 1000000000) (hbx : B8 x.bytes) (hby : B8 y.bytes) (hS : St g (Sh 5 1 (by8 x.bytes) ab cb :: Sh 40 2 (en2 x.ents) ae ce :: Sh 63 4 (ch4 x.chs) ac cc :: Sh 2 1 (i64s x.keys) ak ck :: Sh 5 1 (by8 y.bytes) ab2 cb2 :: Sh 40 2 (en2 y.ents) ae2 ce2 :: Sh 63 4 (ch4 y.chs) ac2 cc2 :: Sh 2 1 (i64s y.keys) ak2 ck2 :: L) w) :
    Sp Try.prog 23 [.agg #[.int .i64 x.err, .int .u64 x.handle, .int .i64 x.value, .bool x.found, .int .i64 x.n, .int .i64 x.ekey, .int .i64 x.eval, .int .i64 x.count, .int .i64 x.sum, .int .i64 x.mn, .int .i64 x.mx, .slice ae (List.length (en2 x.ents)) ce, .slice ac (List.length (ch4 x.chs)) cc, .slice ak (List.length (i64s x.keys)) ck, .slice ab (List.length (by8 x.bytes)) cb], .agg #[.int .i64 y.err, .int .u64 y.handle, .int .i64 y.value, .bool y.found, .int .i64 y.n, .int .i64 y.ekey, .int .i64 y.eval, .int .i64 y.count, .int .i64 y.sum, .int .i64 y.mn, .int .i64 y.mx, .slice ae2 (List.length (en2 y.ents)) ce2, .slice ac2 (List.length (ch4 y.chs)) cc2, .slice ak2 (List.length (i64s y.keys)) ck2, .slice ab2 (List.length (by8 y.bytes)) cb2]] w (fun v w' => ∃ (ok : Bool), v = .bool ok ∧ St g (Sh 5 1 (by8 x.bytes) ab cb :: Sh 40 2 (en2 x.ents) ae ce :: Sh 63 4 (ch4 x.chs) ac cc :: Sh 2 1 (i64s x.keys) ak ck :: Sh 5 1 (by8 y.bytes) ab2 cb2 :: Sh 40 2 (en2 y.ents) ae2 ce2 :: Sh 63 4 (ch4 y.chs) ac2 cc2 :: Sh 2 1 (i64s y.keys) ak2 ck2 :: L) w' ∧ (ok = true ↔ x = y)) := by
  refine Sp.enter Try.func23 rfl (by kernel_rfl) (by kernel_rfl) ?_
  have _ := h3
  have _ := h2
  have _ := h1
  refine WC.seq ?_
  refine WC.region ?_
  refine WL.box rfl rfl #[.int .i64 x.err, .int .u64 x.handle, .int .i64 x.value, .bool x.found, .int .i64 x.n, .int .i64 x.ekey, .int .i64 x.eval, .int .i64 x.count, .int .i64 x.sum, .int .i64 x.mn, .int .i64 x.mx, .slice ae (List.length (en2 x.ents)) ce, .slice ac (List.length (ch4 x.chs)) cc, .slice ak (List.length (i64s x.keys)) ck, .slice ab (List.length (by8 x.bytes)) cb] hS rfl rfl (fun b1 w hS => ?_)
  refine WL.box rfl rfl #[.int .i64 y.err, .int .u64 y.handle, .int .i64 y.value, .bool y.found, .int .i64 y.n, .int .i64 y.ekey, .int .i64 y.eval, .int .i64 y.count, .int .i64 y.sum, .int .i64 y.mn, .int .i64 y.mx, .slice ae2 (List.length (en2 y.ents)) ce2, .slice ac2 (List.length (ch4 y.chs)) cc2, .slice ak2 (List.length (i64s y.keys)) ck2, .slice ab2 (List.length (by8 y.bytes)) cb2] hS rfl rfl (fun b2 w hS => ?_)
  refine WL.r 1 rfl ?_
  refine WL.nil ?_
  refine WC.seq ?_
  refine WC.seq ?_
  refine WC.region ?_
  have hk1 := i64s_len x.keys; have hk2 := i64s_len y.keys
  refine WL.run 7 [.slice ak (List.length (i64s x.keys)) ck, .slice ak2 (List.length (i64s y.keys)) ck2] rfl (by exact ⟨hS.ld 1 rfl rfl, hS.ld 0 rfl rfl⟩) ?_
  refine WL.nil ?_
  refine WC.ifP rfl (fun cd1 => ?_) (fun cd1 => ?_)
  · refine WC.seq ?_
    refine WC.region ?_
    refine WL.r 1 rfl ?_
    refine WL.nil ?_
    refine WC.ret ?_
    refine ⟨[.bool false], rfl, ?_⟩
    replace hS := (hS.sel 2 [] rfl)
    exact ⟨_, rfl, hS, ⟨fun h => (by cases h), fun h => by rw [hk1, hk2, h] at cd1; exact absurd rfl cd1⟩⟩
  · refine WC.skip ?_
    refine WC.seq ?_
    refine WC.seq ?_
    refine WC.region ?_
    refine WL.r 1 rfl ?_
    refine WL.nil ?_
    refine WC.block ?_
    refine WC.loop [2, 3, 5] (fun kM vs w => ∃ (k : Nat), vs = [.pointer (some ⟨b1, 0, none⟩), .pointer (some ⟨b2, 0, none⟩), .int .i64 (k : Int)] ∧ St g (cel b2 #[.int .i64 y.err, .int .u64 y.handle, .int .i64 y.value, .bool y.found, .int .i64 y.n, .int .i64 y.ekey, .int .i64 y.eval, .int .i64 y.count, .int .i64 y.sum, .int .i64 y.mn, .int .i64 y.mx, .slice ae2 (List.length (en2 y.ents)) ce2, .slice ac2 (List.length (ch4 y.chs)) cc2, .slice ak2 (List.length (i64s y.keys)) ck2, .slice ab2 (List.length (by8 y.bytes)) cb2] 45 :: cel b1 #[.int .i64 x.err, .int .u64 x.handle, .int .i64 x.value, .bool x.found, .int .i64 x.n, .int .i64 x.ekey, .int .i64 x.eval, .int .i64 x.count, .int .i64 x.sum, .int .i64 x.mn, .int .i64 x.mx, .slice ae (List.length (en2 x.ents)) ce, .slice ac (List.length (ch4 x.chs)) cc, .slice ak (List.length (i64s x.keys)) ck, .slice ab (List.length (by8 x.bytes)) cb] 45 :: Sh 5 1 (by8 x.bytes) ab cb :: Sh 40 2 (en2 x.ents) ae ce :: Sh 63 4 (ch4 x.chs) ac cc :: Sh 2 1 (i64s x.keys) ak ck :: Sh 5 1 (by8 y.bytes) ab2 cb2 :: Sh 40 2 (en2 y.ents) ae2 ce2 :: Sh 63 4 (ch4 y.chs) ac2 cc2 :: Sh 2 1 (i64s y.keys) ak2 ck2 :: L) w ∧ (k ≤ x.keys.length) ∧ (x.keys.take k = y.keys.take k) ∧ (x.keys.length - k) = kM) ((List.length x.keys) - 0) ⟨0, rfl, hS, (Nat.zero_le _), (rfl), rfl⟩ ?_
    clear hS; rintro _ _ w j ⟨k, rfl, hS, hk, he, rfl⟩
    refine WC.seq ?_
    refine WC.seq ?_
    refine WC.region ?_
    refine WL.run 5 [.slice ak (List.length (i64s x.keys)) ck] rfl (by exact hS.ld 1 rfl rfl) ?_
    refine WL.nil ?_
    as_aux_lemma =>
      refine WC.ifP rfl (fun cd2 => ?_) (fun cd2 => ?_)
      · refine WC.skip ?_
        refine WC.seq ?_
        refine WC.block ?_
        refine WC.seq ?_
        refine WC.plan [([0, 2, 5, 7, 1, 6, 3, 8, 4, 9, 10], none)] (by kernel_rfl) (by kernel_rfl) ?_
        refine WQ.run 6 [.slice ak (List.length (i64s x.keys)) ck, .slice ak2 (List.length (i64s y.keys)) ck2] rfl (by exact ⟨hS.ld 1 rfl rfl, hS.ld 0 rfl rfl⟩) ?_
        obtain ⟨v, hkx⟩ : ∃ v, x.keys[k]? = some v := ⟨_, List.getElem?_eq_getElem (by omega)⟩
        refine WQ.ix rfl rfl (i := (k : Int)) (k) el_43 rfl rfl (by omega) (len_of (i64s_at hkx)) (hS.rdS 5 rfl (i64s_at hkx)).1 ?_
        obtain ⟨u, hky⟩ : ∃ u, y.keys[k]? = some u := ⟨_, List.getElem?_eq_getElem (by omega)⟩
        refine WQ.ix rfl rfl (i := (k : Int)) (k) el_43 rfl rfl (by omega) (len_of (i64s_at hky)) (hS.rdS 9 rfl (i64s_at hky)).1 ?_
        refine WQ.run 3 [.int .i64 v, .int .i64 u] rfl (by exact ⟨(hS.rdS 5 rfl (i64s_at hkx)).2 0 _ rfl, (hS.rdS 9 rfl (i64s_at hky)).2 0 _ rfl⟩) ?_
        refine WQ.nil ?_
        intro m1
        replace hS := hS.drewN m1; generalize hwm1 : World.drewN _ _ = w at *; clear hwm1
        refine WC.ifP rfl (fun cd3 => ?_) (fun cd3 => ?_)
        · refine WC.seq ?_
          refine WC.region ?_
          refine WL.r 1 rfl ?_
          refine WL.nil ?_
          refine WC.ret ?_
          refine ⟨[.bool false], rfl, ?_⟩
          replace hS := (hS.sel 2 [] rfl)
          exact ⟨_, rfl, hS, ⟨fun h => (by cases h), fun h => by subst h; rw [hkx] at hky; cases hky; exact absurd rfl cd3⟩⟩
        · refine WC.skip ?_
          refine WC.region ?_
          refine WL.r 2 rfl ?_
          refine WL.nw 19 rfl (w64 (by omega)) ?_
          refine WL.r 1 rfl ?_
          refine WL.nil ?_
          exact ⟨_, by omega, k + 1, rfl, hS, (by omega), (by rw [List.take_add_one, List.take_add_one, he, hkx, hky, Classical.not_not.1 cd3]), rfl⟩
      · refine WC.exit ?_
        refine WC.seq ?_
        refine WC.region ?_
        have hkk : x.keys = y.keys := by rw [← List.take_of_length_le (i := k) (l := x.keys) (by omega), he, List.take_of_length_le (by omega)]
        refine WL.run 6 [.int .i64 x.err, .int .i64 y.err] rfl (by exact ⟨hS.ld 1 rfl rfl, hS.ld 0 rfl rfl⟩) ?_
        by_cases cg1 : x.err = y.err
        · refine WL.reb 36 (.bool true) (congrArg Value.bool (decide_eq_true cg1)) ?_
          refine WL.ung rfl rfl rfl ?_
          refine WL.r 1 rfl ?_
          refine WL.ung rfl rfl rfl ?_
          refine WL.run 1 [.int .u64 x.handle] rfl (by exact hS.ld 1 rfl rfl) ?_
          refine WL.ung rfl rfl rfl ?_
          refine WL.r 1 rfl ?_
          refine WL.ung rfl rfl rfl ?_
          refine WL.run 1 [.int .u64 y.handle] rfl (by exact hS.ld 0 rfl rfl) ?_
          refine WL.ung rfl rfl rfl ?_
          refine WL.r 3 rfl ?_
          by_cases cg2 : x.handle = y.handle
          · refine WL.reb 43 (.bool true) (congrArg Value.bool (decide_eq_true cg2)) ?_
            refine WL.ung rfl rfl rfl ?_
            refine WL.r 1 rfl ?_
            refine WL.ung rfl rfl rfl ?_
            refine WL.run 1 [.int .i64 x.value] rfl (by exact hS.ld 1 rfl rfl) ?_
            refine WL.ung rfl rfl rfl ?_
            refine WL.r 1 rfl ?_
            refine WL.ung rfl rfl rfl ?_
            refine WL.run 1 [.int .i64 y.value] rfl (by exact hS.ld 0 rfl rfl) ?_
            refine WL.ung rfl rfl rfl ?_
            refine WL.r 3 rfl ?_
            by_cases cg3 : x.value = y.value
            · refine WL.reb 50 (.bool true) (congrArg Value.bool (decide_eq_true cg3)) ?_
              refine WL.ung rfl rfl rfl ?_
              refine WL.r 1 rfl ?_
              refine WL.ung rfl rfl rfl ?_
              refine WL.run 1 [.bool x.found] rfl (by exact hS.ld 1 rfl rfl) ?_
              refine WL.ung rfl rfl rfl ?_
              refine WL.r 1 rfl ?_
              refine WL.ung rfl rfl rfl ?_
              refine WL.run 1 [.bool y.found] rfl (by exact hS.ld 0 rfl rfl) ?_
              refine WL.ung rfl rfl rfl ?_
              refine WL.r 3 rfl ?_
              by_cases cg4 : (x.found == y.found) = true
              · refine WL.reb 57 (.bool true) (congrArg Value.bool cg4) ?_
                refine WL.ung rfl rfl rfl ?_
                refine WL.r 1 rfl ?_
                refine WL.ung rfl rfl rfl ?_
                refine WL.run 1 [.int .i64 x.n] rfl (by exact hS.ld 1 rfl rfl) ?_
                refine WL.ung rfl rfl rfl ?_
                refine WL.r 1 rfl ?_
                refine WL.ung rfl rfl rfl ?_
                refine WL.run 1 [.int .i64 y.n] rfl (by exact hS.ld 0 rfl rfl) ?_
                refine WL.ung rfl rfl rfl ?_
                refine WL.r 3 rfl ?_
                by_cases cg5 : x.n = y.n
                · refine WL.reb 64 (.bool true) (congrArg Value.bool (decide_eq_true cg5)) ?_
                  refine WL.ung rfl rfl rfl ?_
                  refine WL.r 1 rfl ?_
                  refine WL.ung rfl rfl rfl ?_
                  refine WL.ldC rfl rfl [.int .i64 x.ekey, .int .i64 x.eval] ag_40 rfl (hS.part 1 rfl rfl) ?_
                  refine WL.ung rfl rfl rfl ?_
                  refine WL.r 1 rfl ?_
                  refine WL.ung rfl rfl rfl ?_
                  refine WL.ldC rfl rfl [.int .i64 y.ekey, .int .i64 y.eval] ag_40 rfl (hS.part 0 rfl rfl) ?_
                  refine WL.ung rfl rfl rfl ?_
                  refine WL.eqS rfl rfl eq_40 (xs := [.int .i64 x.ekey, .int .i64 x.eval]) (ys := [.int .i64 y.ekey, .int .i64 y.eval]) rfl rfl rfl rfl ?_
                  refine WL.prop 69 rfl (band (dd _) (dd _)) ?_
                  refine WL.r 2 rfl ?_
                  by_cases cg6 : (x.ekey = y.ekey) ∧ (x.eval = y.eval)
                  · refine WL.reb 71 (.bool true) (congrArg Value.bool (decide_eq_true cg6)) ?_
                    refine WL.ung rfl rfl rfl ?_
                    refine WL.r 1 rfl ?_
                    refine WL.ung rfl rfl rfl ?_
                    refine WL.ldC rfl rfl [.int .i64 x.count, .int .i64 x.sum, .int .i64 x.mn, .int .i64 x.mx] ag_42 rfl (hS.part 1 rfl rfl) ?_
                    refine WL.ung rfl rfl rfl ?_
                    refine WL.r 1 rfl ?_
                    refine WL.ung rfl rfl rfl ?_
                    refine WL.ldC rfl rfl [.int .i64 y.count, .int .i64 y.sum, .int .i64 y.mn, .int .i64 y.mx] ag_42 rfl (hS.part 0 rfl rfl) ?_
                    refine WL.ung rfl rfl rfl ?_
                    refine WL.eqS rfl rfl eq_42 (xs := [.int .i64 x.count, .int .i64 x.sum, .int .i64 x.mn, .int .i64 x.mx]) (ys := [.int .i64 y.count, .int .i64 y.sum, .int .i64 y.mn, .int .i64 y.mx]) rfl rfl rfl rfl ?_
                    refine WL.prop 76 rfl (band (dd _) (band (dd _) (band (dd _) (dd _)))) ?_
                    refine WL.r 2 rfl ?_
                    by_cases cg7 : (x.count = y.count) ∧ ((x.sum = y.sum) ∧ ((x.mn = y.mn) ∧ (x.mx = y.mx)))
                    · refine WL.reb 78 (.bool true) (congrArg Value.bool (decide_eq_true cg7)) ?_
                      refine WL.ung rfl rfl rfl ?_
                      refine WL.r 1 rfl ?_
                      refine WL.ung rfl rfl rfl ?_
                      refine WL.run 1 [.slice ae (List.length (en2 x.ents)) ce] rfl (by exact hS.ld 1 rfl rfl) ?_
                      refine WL.ung rfl rfl rfl ?_
                      refine WL.r 1 rfl ?_
                      refine WL.ung rfl rfl rfl ?_
                      refine WL.run 1 [.slice ae2 (List.length (en2 y.ents)) ce2] rfl (by exact hS.ld 0 rfl rfl) ?_
                      refine WL.ung rfl rfl rfl ?_
                      refine WL.call rfl rfl (same9 (xs := x.ents) (ys := y.ents) (a := ae) (b := ae2) (c := ce) (d := ce2) (hl := (by omega)) (hS := (hS.sel 8 [3, 6, 0, 0, 0, 0, 0, 0] rfl))) rfl ?_
                      clear hS; rintro _ w ⟨ok1, rfl, hS, f1⟩
                      replace hS : St g (Sh 40 2 (en2 x.ents) ae ce :: Sh 40 2 (en2 y.ents) ae2 ce2 :: cel b2 #[.int .i64 y.err, .int .u64 y.handle, .int .i64 y.value, .bool y.found, .int .i64 y.n, .int .i64 y.ekey, .int .i64 y.eval, .int .i64 y.count, .int .i64 y.sum, .int .i64 y.mn, .int .i64 y.mx, .slice ae2 (List.length (en2 y.ents)) ce2, .slice ac2 (List.length (ch4 y.chs)) cc2, .slice ak2 (List.length (i64s y.keys)) ck2, .slice ab2 (List.length (by8 y.bytes)) cb2] 45 :: cel b1 #[.int .i64 x.err, .int .u64 x.handle, .int .i64 x.value, .bool x.found, .int .i64 x.n, .int .i64 x.ekey, .int .i64 x.eval, .int .i64 x.count, .int .i64 x.sum, .int .i64 x.mn, .int .i64 x.mx, .slice ae (List.length (en2 x.ents)) ce, .slice ac (List.length (ch4 x.chs)) cc, .slice ak (List.length (i64s x.keys)) ck, .slice ab (List.length (by8 x.bytes)) cb] 45 :: Sh 5 1 (by8 x.bytes) ab cb :: Sh 63 4 (ch4 x.chs) ac cc :: Sh 2 1 (i64s x.keys) ak ck :: Sh 5 1 (by8 y.bytes) ab2 cb2 :: Sh 63 4 (ch4 y.chs) ac2 cc2 :: Sh 2 1 (i64s y.keys) ak2 ck2 :: L) w := hS
                      refine WL.r 2 rfl ?_
                      by_cases cg8 : ok1 = true
                      · refine WL.reb 85 (.bool true) (congrArg Value.bool cg8) ?_
                        refine WL.ung rfl rfl rfl ?_
                        refine WL.r 1 rfl ?_
                        refine WL.ung rfl rfl rfl ?_
                        refine WL.run 1 [.slice ac (List.length (ch4 x.chs)) cc] rfl (by exact hS.ld 3 rfl rfl) ?_
                        refine WL.ung rfl rfl rfl ?_
                        refine WL.r 1 rfl ?_
                        refine WL.ung rfl rfl rfl ?_
                        refine WL.run 1 [.slice ac2 (List.length (ch4 y.chs)) cc2] rfl (by exact hS.ld 2 rfl rfl) ?_
                        refine WL.ung rfl rfl rfl ?_
                        refine WL.call rfl rfl (same19 (xs := x.chs) (ys := y.chs) (a := ac) (b := ac2) (c := cc) (d := cc2) (hl := (by omega)) (hS := (hS.sel 9 [5, 7, 0, 0, 0, 0, 0, 0, 0] rfl))) rfl ?_
                        clear hS; rintro _ w ⟨ok2, rfl, hS, f2⟩
                        replace hS : St g (Sh 63 4 (ch4 x.chs) ac cc :: Sh 63 4 (ch4 y.chs) ac2 cc2 :: Sh 40 2 (en2 x.ents) ae ce :: Sh 40 2 (en2 y.ents) ae2 ce2 :: cel b2 #[.int .i64 y.err, .int .u64 y.handle, .int .i64 y.value, .bool y.found, .int .i64 y.n, .int .i64 y.ekey, .int .i64 y.eval, .int .i64 y.count, .int .i64 y.sum, .int .i64 y.mn, .int .i64 y.mx, .slice ae2 (List.length (en2 y.ents)) ce2, .slice ac2 (List.length (ch4 y.chs)) cc2, .slice ak2 (List.length (i64s y.keys)) ck2, .slice ab2 (List.length (by8 y.bytes)) cb2] 45 :: cel b1 #[.int .i64 x.err, .int .u64 x.handle, .int .i64 x.value, .bool x.found, .int .i64 x.n, .int .i64 x.ekey, .int .i64 x.eval, .int .i64 x.count, .int .i64 x.sum, .int .i64 x.mn, .int .i64 x.mx, .slice ae (List.length (en2 x.ents)) ce, .slice ac (List.length (ch4 x.chs)) cc, .slice ak (List.length (i64s x.keys)) ck, .slice ab (List.length (by8 x.bytes)) cb] 45 :: Sh 5 1 (by8 x.bytes) ab cb :: Sh 2 1 (i64s x.keys) ak ck :: Sh 5 1 (by8 y.bytes) ab2 cb2 :: Sh 2 1 (i64s y.keys) ak2 ck2 :: L) w := hS
                        refine WL.r 2 rfl ?_
                        by_cases cg9 : ok2 = true
                        · refine WL.reb 92 (.bool true) (congrArg Value.bool cg9) ?_
                          refine WL.ung rfl rfl rfl ?_
                          refine WL.r 1 rfl ?_
                          refine WL.ung rfl rfl rfl ?_
                          refine WL.run 1 [.slice ab (List.length (by8 x.bytes)) cb] rfl (by exact hS.ld 5 rfl rfl) ?_
                          refine WL.ung rfl rfl rfl ?_
                          refine WL.reb 94 (.slice ab x.bytes.length cb) (congrArg (fun m => Value.slice ab m cb) (by8_len x.bytes)) ?_
                          refine WL.toS rfl rfl Try.underlying23 Try.underlying9 Try.underlying5 (hS.srcS 6 rfl) (by assumption) rfl ?_
                          refine WL.ung rfl rfl rfl ?_
                          refine WL.r 1 rfl ?_
                          refine WL.ung rfl rfl rfl ?_
                          refine WL.run 1 [.slice ab2 (List.length (by8 y.bytes)) cb2] rfl (by exact hS.ld 4 rfl rfl) ?_
                          refine WL.ung rfl rfl rfl ?_
                          refine WL.reb 97 (.slice ab2 y.bytes.length cb2) (congrArg (fun m => Value.slice ab2 m cb2) (by8_len y.bytes)) ?_
                          refine WL.toS rfl rfl Try.underlying23 Try.underlying9 Try.underlying5 (hS.srcS 8 rfl) (by assumption) rfl ?_
                          refine WL.ung rfl rfl rfl ?_
                          refine WL.r 3 rfl ?_
                          refine WL.nil ?_
                          as_aux_lemma =>
                            refine WC.ret ?_
                            refine ⟨[.bool (decide ((mkS x.bytes) = (mkS y.bytes)))], rfl, ?_⟩
                            replace hS := (hS.sel 9 [6, 2, 0, 4, 4, 1, 0] rfl)
                            exact ⟨_, rfl, hS, ⟨fun h => AnM.ext' ⟨cg1, cg2, cg3, by simpa using cg4, cg5, cg6.1, cg6.2, cg7.1, cg7.2.1, cg7.2.2.1, cg7.2.2.2, f1.1 cg8, f2.1 cg9, hkk, mkS_inj hbx hby (of_decide_eq_true h)⟩, fun h => decide_eq_true (by rw [h])⟩⟩
                        · refine WL.reb 92 (.bool false) (congrArg Value.bool (Bool.eq_false_iff.2 cg9)) ?_
                          refine WL.skp rfl rfl rfl rfl ?_
                          refine WL.skp rfl rfl rfl rfl ?_
                          refine WL.skp rfl rfl rfl rfl ?_
                          refine WL.skp rfl rfl rfl rfl ?_
                          refine WL.skp rfl rfl rfl rfl ?_
                          refine WL.skp rfl rfl rfl rfl ?_
                          refine WL.skp rfl rfl rfl rfl ?_
                          refine WL.r 2 rfl ?_
                          refine WL.nil ?_
                          as_aux_lemma =>
                            refine WC.ret ?_
                            refine ⟨[.bool false], rfl, ?_⟩
                            replace hS := (hS.sel 9 [6, 2, 0, 4, 4, 1, 0] rfl)
                            exact ⟨_, rfl, hS, ⟨fun h => (by cases h), fun h => absurd (f2.2 (by rw [h])) cg9⟩⟩
                      · refine WL.reb 85 (.bool false) (congrArg Value.bool (Bool.eq_false_iff.2 cg8)) ?_
                        refine WL.skp rfl rfl rfl rfl ?_
                        refine WL.skp rfl rfl rfl rfl ?_
                        refine WL.skp rfl rfl rfl rfl ?_
                        refine WL.skp rfl rfl rfl rfl ?_
                        refine WL.skp rfl rfl rfl rfl ?_
                        refine WL.r 2 rfl ?_
                        refine WL.skp rfl rfl rfl rfl ?_
                        refine WL.skp rfl rfl rfl rfl ?_
                        refine WL.skp rfl rfl rfl rfl ?_
                        refine WL.skp rfl rfl rfl rfl ?_
                        refine WL.skp rfl rfl rfl rfl ?_
                        refine WL.skp rfl rfl rfl rfl ?_
                        refine WL.skp rfl rfl rfl rfl ?_
                        refine WL.r 2 rfl ?_
                        refine WL.nil ?_
                        as_aux_lemma =>
                          refine WC.ret ?_
                          refine ⟨[.bool false], rfl, ?_⟩
                          replace hS := (hS.sel 8 [4, 0, 3, 3, 3, 0] rfl)
                          exact ⟨_, rfl, hS, ⟨fun h => (by cases h), fun h => absurd (f1.2 (by rw [h])) cg8⟩⟩
                    · refine WL.reb 78 (.bool false) (congrArg Value.bool (decide_eq_false cg7)) ?_
                      refine WL.skp rfl rfl rfl rfl ?_
                      refine WL.skp rfl rfl rfl rfl ?_
                      refine WL.skp rfl rfl rfl rfl ?_
                      refine WL.skp rfl rfl rfl rfl ?_
                      refine WL.skp rfl rfl rfl rfl ?_
                      refine WL.r 2 rfl ?_
                      refine WL.skp rfl rfl rfl rfl ?_
                      refine WL.skp rfl rfl rfl rfl ?_
                      refine WL.skp rfl rfl rfl rfl ?_
                      refine WL.skp rfl rfl rfl rfl ?_
                      refine WL.skp rfl rfl rfl rfl ?_
                      refine WL.r 2 rfl ?_
                      refine WL.skp rfl rfl rfl rfl ?_
                      refine WL.skp rfl rfl rfl rfl ?_
                      refine WL.skp rfl rfl rfl rfl ?_
                      refine WL.skp rfl rfl rfl rfl ?_
                      refine WL.skp rfl rfl rfl rfl ?_
                      refine WL.skp rfl rfl rfl rfl ?_
                      refine WL.skp rfl rfl rfl rfl ?_
                      refine WL.r 2 rfl ?_
                      refine WL.nil ?_
                      as_aux_lemma =>
                        refine WC.ret ?_
                        refine ⟨[.bool false], rfl, ?_⟩
                        replace hS := (hS.sel 2 [] rfl)
                        exact ⟨_, rfl, hS, ⟨fun h => (by cases h), fun h => absurd (by subst h; simp) cg7⟩⟩
                  · refine WL.reb 71 (.bool false) (congrArg Value.bool (decide_eq_false cg6)) ?_
                    refine WL.skp rfl rfl rfl rfl ?_
                    refine WL.skp rfl rfl rfl rfl ?_
                    refine WL.skp rfl rfl rfl rfl ?_
                    refine WL.skp rfl rfl rfl rfl ?_
                    refine WL.skp rfl rfl rfl rfl ?_
                    refine WL.r 2 rfl ?_
                    refine WL.skp rfl rfl rfl rfl ?_
                    refine WL.skp rfl rfl rfl rfl ?_
                    refine WL.skp rfl rfl rfl rfl ?_
                    refine WL.skp rfl rfl rfl rfl ?_
                    refine WL.skp rfl rfl rfl rfl ?_
                    refine WL.r 2 rfl ?_
                    refine WL.skp rfl rfl rfl rfl ?_
                    refine WL.skp rfl rfl rfl rfl ?_
                    refine WL.skp rfl rfl rfl rfl ?_
                    refine WL.skp rfl rfl rfl rfl ?_
                    refine WL.skp rfl rfl rfl rfl ?_
                    refine WL.r 2 rfl ?_
                    refine WL.skp rfl rfl rfl rfl ?_
                    refine WL.skp rfl rfl rfl rfl ?_
                    refine WL.skp rfl rfl rfl rfl ?_
                    refine WL.skp rfl rfl rfl rfl ?_
                    refine WL.skp rfl rfl rfl rfl ?_
                    refine WL.skp rfl rfl rfl rfl ?_
                    refine WL.skp rfl rfl rfl rfl ?_
                    refine WL.r 2 rfl ?_
                    refine WL.nil ?_
                    as_aux_lemma =>
                      refine WC.ret ?_
                      refine ⟨[.bool false], rfl, ?_⟩
                      replace hS := (hS.sel 2 [] rfl)
                      exact ⟨_, rfl, hS, ⟨fun h => (by cases h), fun h => absurd (by subst h; simp) cg6⟩⟩
                · refine WL.reb 64 (.bool false) (congrArg Value.bool (decide_eq_false cg5)) ?_
                  refine WL.skp rfl rfl rfl rfl ?_
                  refine WL.skp rfl rfl rfl rfl ?_
                  refine WL.skp rfl rfl rfl rfl ?_
                  refine WL.skp rfl rfl rfl rfl ?_
                  refine WL.skp rfl rfl rfl rfl ?_
                  refine WL.r 2 rfl ?_
                  refine WL.skp rfl rfl rfl rfl ?_
                  refine WL.skp rfl rfl rfl rfl ?_
                  refine WL.skp rfl rfl rfl rfl ?_
                  refine WL.skp rfl rfl rfl rfl ?_
                  refine WL.skp rfl rfl rfl rfl ?_
                  refine WL.r 2 rfl ?_
                  refine WL.skp rfl rfl rfl rfl ?_
                  refine WL.skp rfl rfl rfl rfl ?_
                  refine WL.skp rfl rfl rfl rfl ?_
                  refine WL.skp rfl rfl rfl rfl ?_
                  refine WL.skp rfl rfl rfl rfl ?_
                  refine WL.r 2 rfl ?_
                  refine WL.skp rfl rfl rfl rfl ?_
                  refine WL.skp rfl rfl rfl rfl ?_
                  refine WL.skp rfl rfl rfl rfl ?_
                  refine WL.skp rfl rfl rfl rfl ?_
                  refine WL.skp rfl rfl rfl rfl ?_
                  refine WL.r 2 rfl ?_
                  refine WL.skp rfl rfl rfl rfl ?_
                  refine WL.skp rfl rfl rfl rfl ?_
                  refine WL.skp rfl rfl rfl rfl ?_
                  refine WL.skp rfl rfl rfl rfl ?_
                  refine WL.skp rfl rfl rfl rfl ?_
                  refine WL.skp rfl rfl rfl rfl ?_
                  refine WL.skp rfl rfl rfl rfl ?_
                  refine WL.r 2 rfl ?_
                  refine WL.nil ?_
                  as_aux_lemma =>
                    refine WC.ret ?_
                    refine ⟨[.bool false], rfl, ?_⟩
                    replace hS := (hS.sel 2 [] rfl)
                    exact ⟨_, rfl, hS, ⟨fun h => (by cases h), fun h => absurd (by subst h; simp) cg5⟩⟩
              · refine WL.reb 57 (.bool false) (congrArg Value.bool (Bool.eq_false_iff.2 cg4)) ?_
                refine WL.skp rfl rfl rfl rfl ?_
                refine WL.skp rfl rfl rfl rfl ?_
                refine WL.skp rfl rfl rfl rfl ?_
                refine WL.skp rfl rfl rfl rfl ?_
                refine WL.skp rfl rfl rfl rfl ?_
                refine WL.r 2 rfl ?_
                refine WL.skp rfl rfl rfl rfl ?_
                refine WL.skp rfl rfl rfl rfl ?_
                refine WL.skp rfl rfl rfl rfl ?_
                refine WL.skp rfl rfl rfl rfl ?_
                refine WL.skp rfl rfl rfl rfl ?_
                refine WL.r 2 rfl ?_
                refine WL.skp rfl rfl rfl rfl ?_
                refine WL.skp rfl rfl rfl rfl ?_
                refine WL.skp rfl rfl rfl rfl ?_
                refine WL.skp rfl rfl rfl rfl ?_
                refine WL.skp rfl rfl rfl rfl ?_
                refine WL.r 2 rfl ?_
                refine WL.skp rfl rfl rfl rfl ?_
                refine WL.skp rfl rfl rfl rfl ?_
                refine WL.skp rfl rfl rfl rfl ?_
                refine WL.skp rfl rfl rfl rfl ?_
                refine WL.skp rfl rfl rfl rfl ?_
                refine WL.r 2 rfl ?_
                refine WL.skp rfl rfl rfl rfl ?_
                refine WL.skp rfl rfl rfl rfl ?_
                refine WL.skp rfl rfl rfl rfl ?_
                refine WL.skp rfl rfl rfl rfl ?_
                refine WL.skp rfl rfl rfl rfl ?_
                refine WL.r 2 rfl ?_
                refine WL.skp rfl rfl rfl rfl ?_
                refine WL.skp rfl rfl rfl rfl ?_
                refine WL.skp rfl rfl rfl rfl ?_
                refine WL.skp rfl rfl rfl rfl ?_
                refine WL.skp rfl rfl rfl rfl ?_
                refine WL.skp rfl rfl rfl rfl ?_
                refine WL.skp rfl rfl rfl rfl ?_
                refine WL.r 2 rfl ?_
                refine WL.nil ?_
                as_aux_lemma =>
                  refine WC.ret ?_
                  refine ⟨[.bool false], rfl, ?_⟩
                  replace hS := (hS.sel 2 [] rfl)
                  exact ⟨_, rfl, hS, ⟨fun h => (by cases h), fun h => absurd (by subst h; simp) cg4⟩⟩
            · refine WL.reb 50 (.bool false) (congrArg Value.bool (decide_eq_false cg3)) ?_
              refine WL.skp rfl rfl rfl rfl ?_
              refine WL.skp rfl rfl rfl rfl ?_
              refine WL.skp rfl rfl rfl rfl ?_
              refine WL.skp rfl rfl rfl rfl ?_
              refine WL.skp rfl rfl rfl rfl ?_
              refine WL.r 2 rfl ?_
              refine WL.skp rfl rfl rfl rfl ?_
              refine WL.skp rfl rfl rfl rfl ?_
              refine WL.skp rfl rfl rfl rfl ?_
              refine WL.skp rfl rfl rfl rfl ?_
              refine WL.skp rfl rfl rfl rfl ?_
              refine WL.r 2 rfl ?_
              refine WL.skp rfl rfl rfl rfl ?_
              refine WL.skp rfl rfl rfl rfl ?_
              refine WL.skp rfl rfl rfl rfl ?_
              refine WL.skp rfl rfl rfl rfl ?_
              refine WL.skp rfl rfl rfl rfl ?_
              refine WL.r 2 rfl ?_
              refine WL.skp rfl rfl rfl rfl ?_
              refine WL.skp rfl rfl rfl rfl ?_
              refine WL.skp rfl rfl rfl rfl ?_
              refine WL.skp rfl rfl rfl rfl ?_
              refine WL.skp rfl rfl rfl rfl ?_
              refine WL.r 2 rfl ?_
              refine WL.skp rfl rfl rfl rfl ?_
              refine WL.skp rfl rfl rfl rfl ?_
              refine WL.skp rfl rfl rfl rfl ?_
              refine WL.skp rfl rfl rfl rfl ?_
              refine WL.skp rfl rfl rfl rfl ?_
              refine WL.r 2 rfl ?_
              refine WL.skp rfl rfl rfl rfl ?_
              refine WL.skp rfl rfl rfl rfl ?_
              refine WL.skp rfl rfl rfl rfl ?_
              refine WL.skp rfl rfl rfl rfl ?_
              refine WL.skp rfl rfl rfl rfl ?_
              refine WL.r 2 rfl ?_
              refine WL.skp rfl rfl rfl rfl ?_
              refine WL.skp rfl rfl rfl rfl ?_
              refine WL.skp rfl rfl rfl rfl ?_
              refine WL.skp rfl rfl rfl rfl ?_
              refine WL.skp rfl rfl rfl rfl ?_
              refine WL.skp rfl rfl rfl rfl ?_
              refine WL.skp rfl rfl rfl rfl ?_
              refine WL.r 2 rfl ?_
              refine WL.nil ?_
              as_aux_lemma =>
                refine WC.ret ?_
                refine ⟨[.bool false], rfl, ?_⟩
                replace hS := (hS.sel 2 [] rfl)
                exact ⟨_, rfl, hS, ⟨fun h => (by cases h), fun h => absurd (by subst h; simp) cg3⟩⟩
          · refine WL.reb 43 (.bool false) (congrArg Value.bool (decide_eq_false cg2)) ?_
            refine WL.skp rfl rfl rfl rfl ?_
            refine WL.skp rfl rfl rfl rfl ?_
            refine WL.skp rfl rfl rfl rfl ?_
            refine WL.skp rfl rfl rfl rfl ?_
            refine WL.skp rfl rfl rfl rfl ?_
            refine WL.r 2 rfl ?_
            refine WL.skp rfl rfl rfl rfl ?_
            refine WL.skp rfl rfl rfl rfl ?_
            refine WL.skp rfl rfl rfl rfl ?_
            refine WL.skp rfl rfl rfl rfl ?_
            refine WL.skp rfl rfl rfl rfl ?_
            refine WL.r 2 rfl ?_
            refine WL.skp rfl rfl rfl rfl ?_
            refine WL.skp rfl rfl rfl rfl ?_
            refine WL.skp rfl rfl rfl rfl ?_
            refine WL.skp rfl rfl rfl rfl ?_
            refine WL.skp rfl rfl rfl rfl ?_
            refine WL.r 2 rfl ?_
            refine WL.skp rfl rfl rfl rfl ?_
            refine WL.skp rfl rfl rfl rfl ?_
            refine WL.skp rfl rfl rfl rfl ?_
            refine WL.skp rfl rfl rfl rfl ?_
            refine WL.skp rfl rfl rfl rfl ?_
            refine WL.r 2 rfl ?_
            refine WL.skp rfl rfl rfl rfl ?_
            refine WL.skp rfl rfl rfl rfl ?_
            refine WL.skp rfl rfl rfl rfl ?_
            refine WL.skp rfl rfl rfl rfl ?_
            refine WL.skp rfl rfl rfl rfl ?_
            refine WL.r 2 rfl ?_
            refine WL.skp rfl rfl rfl rfl ?_
            refine WL.skp rfl rfl rfl rfl ?_
            refine WL.skp rfl rfl rfl rfl ?_
            refine WL.skp rfl rfl rfl rfl ?_
            refine WL.skp rfl rfl rfl rfl ?_
            refine WL.r 2 rfl ?_
            refine WL.skp rfl rfl rfl rfl ?_
            refine WL.skp rfl rfl rfl rfl ?_
            refine WL.skp rfl rfl rfl rfl ?_
            refine WL.skp rfl rfl rfl rfl ?_
            refine WL.skp rfl rfl rfl rfl ?_
            refine WL.r 2 rfl ?_
            refine WL.skp rfl rfl rfl rfl ?_
            refine WL.skp rfl rfl rfl rfl ?_
            refine WL.skp rfl rfl rfl rfl ?_
            refine WL.skp rfl rfl rfl rfl ?_
            refine WL.skp rfl rfl rfl rfl ?_
            refine WL.skp rfl rfl rfl rfl ?_
            refine WL.skp rfl rfl rfl rfl ?_
            refine WL.r 2 rfl ?_
            refine WL.nil ?_
            as_aux_lemma =>
              refine WC.ret ?_
              refine ⟨[.bool false], rfl, ?_⟩
              replace hS := (hS.sel 2 [] rfl)
              exact ⟨_, rfl, hS, ⟨fun h => (by cases h), fun h => absurd (by subst h; simp) cg2⟩⟩
        · refine WL.reb 36 (.bool false) (congrArg Value.bool (decide_eq_false cg1)) ?_
          refine WL.skp rfl rfl rfl rfl ?_
          refine WL.skp rfl rfl rfl rfl ?_
          refine WL.skp rfl rfl rfl rfl ?_
          refine WL.skp rfl rfl rfl rfl ?_
          refine WL.skp rfl rfl rfl rfl ?_
          refine WL.r 2 rfl ?_
          refine WL.skp rfl rfl rfl rfl ?_
          refine WL.skp rfl rfl rfl rfl ?_
          refine WL.skp rfl rfl rfl rfl ?_
          refine WL.skp rfl rfl rfl rfl ?_
          refine WL.skp rfl rfl rfl rfl ?_
          refine WL.r 2 rfl ?_
          refine WL.skp rfl rfl rfl rfl ?_
          refine WL.skp rfl rfl rfl rfl ?_
          refine WL.skp rfl rfl rfl rfl ?_
          refine WL.skp rfl rfl rfl rfl ?_
          refine WL.skp rfl rfl rfl rfl ?_
          refine WL.r 2 rfl ?_
          refine WL.skp rfl rfl rfl rfl ?_
          refine WL.skp rfl rfl rfl rfl ?_
          refine WL.skp rfl rfl rfl rfl ?_
          refine WL.skp rfl rfl rfl rfl ?_
          refine WL.skp rfl rfl rfl rfl ?_
          refine WL.r 2 rfl ?_
          refine WL.skp rfl rfl rfl rfl ?_
          refine WL.skp rfl rfl rfl rfl ?_
          refine WL.skp rfl rfl rfl rfl ?_
          refine WL.skp rfl rfl rfl rfl ?_
          refine WL.skp rfl rfl rfl rfl ?_
          refine WL.r 2 rfl ?_
          refine WL.skp rfl rfl rfl rfl ?_
          refine WL.skp rfl rfl rfl rfl ?_
          refine WL.skp rfl rfl rfl rfl ?_
          refine WL.skp rfl rfl rfl rfl ?_
          refine WL.skp rfl rfl rfl rfl ?_
          refine WL.r 2 rfl ?_
          refine WL.skp rfl rfl rfl rfl ?_
          refine WL.skp rfl rfl rfl rfl ?_
          refine WL.skp rfl rfl rfl rfl ?_
          refine WL.skp rfl rfl rfl rfl ?_
          refine WL.skp rfl rfl rfl rfl ?_
          refine WL.r 2 rfl ?_
          refine WL.skp rfl rfl rfl rfl ?_
          refine WL.skp rfl rfl rfl rfl ?_
          refine WL.skp rfl rfl rfl rfl ?_
          refine WL.skp rfl rfl rfl rfl ?_
          refine WL.skp rfl rfl rfl rfl ?_
          refine WL.r 2 rfl ?_
          refine WL.skp rfl rfl rfl rfl ?_
          refine WL.skp rfl rfl rfl rfl ?_
          refine WL.skp rfl rfl rfl rfl ?_
          refine WL.skp rfl rfl rfl rfl ?_
          refine WL.skp rfl rfl rfl rfl ?_
          refine WL.skp rfl rfl rfl rfl ?_
          refine WL.skp rfl rfl rfl rfl ?_
          refine WL.r 2 rfl ?_
          refine WL.nil ?_
          as_aux_lemma =>
            refine WC.ret ?_
            refine ⟨[.bool false], rfl, ?_⟩
            replace hS := (hS.sel 2 [] rfl)
            exact ⟨_, rfl, hS, ⟨fun h => (by cases h), fun h => absurd (by subst h; simp) cg1⟩⟩
end Go.Proofs.Ytofnoopjlmdelaa
