/-
  Valid and Append.
  Conditions: sizes below a bound that the laws meet.
-/
import Derived.Test.YtofnoopjlmdelaaOpw
namespace Go.Proofs.Ytofnoopjlmdelaa
open Go Go.V





theorem valid_spec {g w : World} {L : List HP} (x : OpM) (ab ae ac : Option Addr) (cb ce cc : Nat) (hS : St g (Sh 63 4 (ch4 x.chs) ac cc :: L) w) :
    Sp Try.prog 14 [.agg #[.int .i64 x.code, .int .u64 x.a, .int .u64 x.b, .int .i64 x.key, .int .i64 x.val, .int .i64 x.lo, .int .i64 x.hi, .int .i64 x.n, .bool x.flag, .string x.name, .slice ab (List.length (by8 x.bytes)) cb, .slice ae (List.length (en2 x.ents)) ce, .slice ac (List.length (ch4 x.chs)) cc]] w (fun v w' => ∃ (ok : Bool), v = .bool ok ∧ St g (Sh 63 4 (ch4 x.chs) ac cc :: L) w' ∧ (ok = true ↔ okOp x)) := by
  refine Sp.enter Try.func14 rfl (by kernel_rfl) (by kernel_rfl) ?_
  refine WC.seq ?_
  refine WC.region ?_
  refine WL.box rfl rfl #[.int .i64 x.code, .int .u64 x.a, .int .u64 x.b, .int .i64 x.key, .int .i64 x.val, .int .i64 x.lo, .int .i64 x.hi, .int .i64 x.n, .bool x.flag, .string x.name, .slice ab (List.length (by8 x.bytes)) cb, .slice ae (List.length (en2 x.ents)) ce, .slice ac (List.length (ch4 x.chs)) cc] hS rfl rfl (fun b1 w hS => ?_)
  refine WL.r 1 rfl ?_
  refine WL.nil ?_
  refine WC.seq ?_
  refine WC.region ?_
  refine WL.run 2 [.int .i64 x.code] rfl (by exact hS.ld 0 rfl rfl) ?_
  refine WL.call rfl rfl (fields_spec (c := x.code)  (hS := hS)) rfl ?_
  rintro _ w ⟨rfl, hS⟩
  replace hS : St g (cel b1 #[.int .i64 x.code, .int .u64 x.a, .int .u64 x.b, .int .i64 x.key, .int .i64 x.val, .int .i64 x.lo, .int .i64 x.hi, .int .i64 x.n, .bool x.flag, .string x.name, .slice ab (List.length (by8 x.bytes)) cb, .slice ae (List.length (en2 x.ents)) ce, .slice ac (List.length (ch4 x.chs)) cc] 27 :: Sh 63 4 (ch4 x.chs) ac cc :: L) w := hS
  refine WL.r 5 rfl ?_
  refine WL.nil ?_
  refine WC.seq ?_
  refine WC.seq ?_
  refine WC.region ?_
  refine WL.r 2 rfl ?_
  refine WL.runG 34 [.int .i64 x.n, .int .i64 x.n, .string x.name, .slice ab (List.length (by8 x.bytes)) cb, .slice ae (List.length (en2 x.ents)) ce, .slice ac (List.length (ch4 x.chs)) cc] rfl (by exact ⟨fun _ => hS.ld 0 rfl rfl, fun _ => hS.ld 0 rfl rfl, fun _ => hS.ld 0 rfl rfl, fun _ => hS.ld 0 rfl rfl, fun _ => hS.ld 0 rfl rfl, fun _ => hS.ld 0 rfl rfl⟩) (fun j => ?_)
  refine WL.prop 52 rfl (bor (bor (bor (bor (bor (bor (bnot (dv _)) (dd _)) (dd _)) (dd _)) (dd _)) (dd _)) (dd _)) ?_
  refine WL.nil ?_
  refine WC.ifP rfl (fun cd1 => ?_) (fun cd1 => ?_)
  · refine WC.seq ?_
    refine WC.region ?_
    have hl4 := ch4_len x.chs; have hl2 := en2_len x.ents; have hl1 := by8_len x.bytes
    refine WL.r 1 rfl ?_
    refine WL.nil ?_
    as_aux_lemma =>
      refine WC.ret ?_
      refine ⟨[.bool false], rfl, ?_⟩
      replace hS := (hS.sel 2 [1] rfl)
      refine ⟨_, rfl, hS, ⟨fun h => (by cases h), fun h => ?_⟩⟩
      obtain ⟨h1, ⟨h2, h3, h4, h5, h6⟩, _⟩ := h
      rcases cd1 with ((((((c | c) | c) | c) | c) | c) | c)
      · exact absurd h1 c
      all_goals omega
  · refine WC.skip ?_
    refine WC.seq ?_
    refine WC.seq ?_
    refine WC.region ?_
    have hl4 := ch4_len x.chs; have hl2 := en2_len x.ents; have hl1 := by8_len x.bytes
    refine WL.run 4 [.slice ac (List.length (ch4 x.chs)) cc] rfl (by exact hS.ld 0 rfl rfl) ?_
    refine WL.nil ?_
    as_aux_lemma =>
      refine WC.block ?_
      refine WC.loop [1, 3, 54, 55, 56] (fun kM vs w => ∃ (k : Nat), vs = [.pointer (some ⟨b1, 0, none⟩), .string (mkS (fs x.code)), .slice ac (List.length (ch4 x.chs)) cc, .int .i64 (List.length (ch4 x.chs) : Int), .int .i64 (k : Int)] ∧ St g (cel b1 #[.int .i64 x.code, .int .u64 x.a, .int .u64 x.b, .int .i64 x.key, .int .i64 x.val, .int .i64 x.lo, .int .i64 x.hi, .int .i64 x.n, .bool x.flag, .string x.name, .slice ab (List.length (by8 x.bytes)) cb, .slice ae (List.length (en2 x.ents)) ce, .slice ac (List.length (ch4 x.chs)) cc] 27 :: Sh 63 4 (ch4 x.chs) ac cc :: L) w ∧ (k ≤ x.chs.length) ∧ (∀ y ∈ x.chs.take k, 0 ≤ y.1 ∧ y.1 ≤ 255) ∧ (x.chs.length - k) = kM) ((List.length x.chs) - 0) ⟨0, rfl, hS, (Nat.zero_le _), (fun _ h => by cases h), rfl⟩ ?_
      clear hS; rintro _ _ w j ⟨k, rfl, hS, hk, hall, rfl⟩
      refine WC.seq ?_
      refine WC.region ?_
      have hl4 := ch4_len x.chs; have hl2 := en2_len x.ents; have hl1 := by8_len x.bytes
      refine WL.r 1 rfl ?_
      refine WL.nil ?_
      refine WC.seq ?_
      refine WC.ifP rfl (fun cd2 => ?_) (fun cd2 => ?_)
      · refine WC.skip ?_
        refine WC.seq ?_
        refine WC.block ?_
        refine WC.seq ?_
        refine WC.region ?_
        obtain ⟨y, hy⟩ : ∃ y, x.chs[k]? = some y := ⟨_, List.getElem?_eq_getElem (by omega)⟩
        refine WL.ix rfl rfl (i := (k : Int)) (k) el_25 rfl rfl (by omega) (len_of (ch4_at hy)) (hS.rdS 1 rfl (ch4_at hy)).1 ?_
        refine WL.ldC rfl rfl [.int .i64 y.1, .int .i64 y.2.1, .int .i64 y.2.2.1, .int .i64 y.2.2.2] ag_63 rfl (hS.rdS 1 rfl (ch4_at hy)).2 ?_
        refine WL.new rfl rfl zv_63 hS (fun b2 w hS => ?_)
        refine WL.stF rfl rfl rfl 0 hS rfl rfl rfl rfl rfl ag_63 (fun w hS => ?_)
        replace hS : St g (cel b2 #[.int .i64 y.1, .int .i64 y.2.1, .int .i64 y.2.2.1, .int .i64 y.2.2.2] 63 :: cel b1 #[.int .i64 x.code, .int .u64 x.a, .int .u64 x.b, .int .i64 x.key, .int .i64 x.val, .int .i64 x.lo, .int .i64 x.hi, .int .i64 x.n, .bool x.flag, .string x.name, .slice ab (List.length (by8 x.bytes)) cb, .slice ae (List.length (en2 x.ents)) ce, .slice ac (List.length (ch4 x.chs)) cc] 27 :: Sh 63 4 (ch4 x.chs) ac cc :: L) w := hS
        refine WL.nil ?_
        refine WC.seq ?_
        refine WC.region ?_
        refine WL.run 3 [.int .i64 y.1] rfl (by exact hS.ld 0 rfl rfl) ?_
        refine WL.runG 5 [.int .i64 y.1] rfl (by exact (fun _ => hS.ld 0 rfl rfl)) (fun j => ?_)
        refine WL.prop 67 rfl (bor (dd _) (dd _)) ?_
        refine WL.nil ?_
        as_aux_lemma =>
          refine WC.ifP rfl (fun cd3 => ?_) (fun cd3 => ?_)
          · refine WC.seq ?_
            refine WC.region ?_
            refine WL.r 1 rfl ?_
            refine WL.nil ?_
            refine WC.ret ?_
            refine ⟨[.bool false], rfl, ?_⟩
            replace hS := (hS.sel 3 [2] rfl)
            refine ⟨_, rfl, hS, ⟨fun h => (by cases h), fun h => ?_⟩⟩
            have := h.2.2.1 y (List.mem_of_getElem? hy); omega
          · refine WC.skip ?_
            refine WC.region ?_
            refine WL.r 1 rfl ?_
            refine WL.nw 68 rfl (w64 (by omega)) ?_
            refine WL.r 1 rfl ?_
            refine WL.nil ?_
            exact ⟨_, by omega, k + 1, rfl, (hS.sel 3 [1, 1] rfl), (by omega), (fun z hz => by rw [List.take_add_one, hy] at hz; simp only [Option.toList, List.mem_append, List.mem_singleton] at hz; rcases hz with hz | rfl <;> first | exact hall z hz | omega), rfl⟩
      · refine WC.exit ?_
        refine WC.seq ?_
        refine WC.region ?_
        refine WL.ldF rfl rfl 0 hS rfl rfl ag_27 ?_
        refine WL.new rfl rfl zv_27 hS (fun b2 w hS => ?_)
        refine WL.stF rfl rfl rfl 0 hS rfl rfl rfl rfl rfl ag_27 (fun w hS => ?_)
        replace hS : St g (cel b2 #[.int .i64 x.code, .int .u64 x.a, .int .u64 x.b, .int .i64 x.key, .int .i64 x.val, .int .i64 x.lo, .int .i64 x.hi, .int .i64 x.n, .bool x.flag, .string x.name, .slice ab (List.length (by8 x.bytes)) cb, .slice ae (List.length (en2 x.ents)) ce, .slice ac (List.length (ch4 x.chs)) cc] 27 :: cel b1 #[.int .i64 x.code, .int .u64 x.a, .int .u64 x.b, .int .i64 x.key, .int .i64 x.val, .int .i64 x.lo, .int .i64 x.hi, .int .i64 x.n, .bool x.flag, .string x.name, .slice ab (List.length (by8 x.bytes)) cb, .slice ae (List.length (en2 x.ents)) ce, .slice ac (List.length (ch4 x.chs)) cc] 27 :: Sh 63 4 (ch4 x.chs) ac cc :: L) w := hS
        refine WL.nil ?_
        refine WC.seq ?_
        refine WC.seq ?_
        refine WC.region ?_
        try simp only [not_or, Classical.not_not] at cd1
        refine WL.r 1 rfl ?_
        refine WL.rng rfl rfl rfl hS rfl (fun b3 w hS => ?_)
        replace hS : St g (blk b3 (.stringIter (mkS (fs x.code)) 0) :: cel b2 #[.int .i64 x.code, .int .u64 x.a, .int .u64 x.b, .int .i64 x.key, .int .i64 x.val, .int .i64 x.lo, .int .i64 x.hi, .int .i64 x.n, .bool x.flag, .string x.name, .slice ab (List.length (by8 x.bytes)) cb, .slice ae (List.length (en2 x.ents)) ce, .slice ac (List.length (ch4 x.chs)) cc] 27 :: cel b1 #[.int .i64 x.code, .int .u64 x.a, .int .u64 x.b, .int .i64 x.key, .int .i64 x.val, .int .i64 x.lo, .int .i64 x.hi, .int .i64 x.n, .bool x.flag, .string x.name, .slice ab (List.length (by8 x.bytes)) cb, .slice ae (List.length (en2 x.ents)) ce, .slice ac (List.length (ch4 x.chs)) cc] 27 :: Sh 63 4 (ch4 x.chs) ac cc :: L) w := hS
        refine WL.nil ?_
        as_aux_lemma =>
          refine WC.block ?_
          refine WC.loop [7, 71] (fun kM vs w => ∃ (k : Nat) (y : ZM) (zb ze zc : Option Addr) (yb ye yc : Nat), vs = [.pointer (some ⟨b2, 0, none⟩), .pointer (some ⟨b3, 0, none⟩)] ∧ St g (blk b3 (.stringIter (mkS (fs x.code)) k) :: cel b2 #[.int .i64 y.code, .int .u64 y.a, .int .u64 y.b, .int .i64 y.key, .int .i64 y.val, .int .i64 y.lo, .int .i64 y.hi, .int .i64 y.n, .bool y.flag, .string y.name, .slice zb y.lb yb, .slice ze y.le ye, .slice zc y.lc yc] 27 :: cel b1 #[.int .i64 x.code, .int .u64 x.a, .int .u64 x.b, .int .i64 x.key, .int .i64 x.val, .int .i64 x.lo, .int .i64 x.hi, .int .i64 x.n, .bool x.flag, .string x.name, .slice ab (List.length (by8 x.bytes)) cb, .slice ae (List.length (en2 x.ents)) ce, .slice ac (List.length (ch4 x.chs)) cc] 27 :: Sh 63 4 (ch4 x.chs) ac cc :: L) w ∧ (clrZs (fs x.code) (zOf x) = clrZs ((fs x.code).drop k) y) ∧ ((fs x.code).length - k) = kM) ((List.length (fs x.code)) - 0) ⟨0, zOf x, _, _, _, _, _, _, rfl, hS, (rfl), rfl⟩ ?_
          clear hS; rintro _ _ w j ⟨k, y, zb, ze, zc, yb, ye, yc, rfl, hS, hr, rfl⟩
          refine WC.seq ?_
          refine WC.region ?_
          try simp only [not_or, Classical.not_not] at cd1
          refine WL.nx rfl rfl rfl rfl rfl rfl rfl 0 (fs_as _) hS rfl rfl (fun w hS => ?_)
          replace hS : St g (blk b3 (.stringIter (mkS (fs x.code)) (if (k < (List.length (fs x.code))) then (k + 1) else k)) :: cel b2 #[.int .i64 y.code, .int .u64 y.a, .int .u64 y.b, .int .i64 y.key, .int .i64 y.val, .int .i64 y.lo, .int .i64 y.hi, .int .i64 y.n, .bool y.flag, .string y.name, .slice zb y.lb yb, .slice ze y.le ye, .slice zc y.lc yc] 27 :: cel b1 #[.int .i64 x.code, .int .u64 x.a, .int .u64 x.b, .int .i64 x.key, .int .i64 x.val, .int .i64 x.lo, .int .i64 x.hi, .int .i64 x.n, .bool x.flag, .string x.name, .slice ab (List.length (by8 x.bytes)) cb, .slice ae (List.length (en2 x.ents)) ce, .slice ac (List.length (ch4 x.chs)) cc] 27 :: Sh 63 4 (ch4 x.chs) ac cc :: L) w := hS
          refine WL.nil ?_
          refine WC.seq ?_
          refine WC.ifP rfl (fun cd3 => ?_) (fun cd3 => ?_)
          · refine WC.reb 72 (.tuple #[.bool true, .int .i64 (k : Int), .int .i32 (List.getD (fs x.code) k 0)]) (nx_in cd3) ?_
            rw [if_pos cd3] at hS
            refine WC.skip ?_
            refine WC.block ?_
            refine WC.seq ?_
            refine WC.region ?_
            refine WL.r 2 rfl ?_
            refine WL.nil ?_
            refine WC.region ?_
            refine WL.ldF rfl rfl 1 hS rfl rfl ag_27 ?_
            refine WL.r 1 rfl ?_
            refine WL.call rfl rfl (clear_spec (y := y) (ab := zb) (ae := ze) (ac := zc) (cb := yb) (ce := ye) (cc := yc) (f := List.getD (fs x.code) k 0)  (hS := hS)) rfl ?_
            generalize hY1 : clrZ (List.getD (fs x.code) k 0) y = Y1
            rintro _ w ⟨ab1, ae1, ac1, cb1, ce1, cc1, rfl, hS⟩
            replace hS : St g (blk b3 (.stringIter (mkS (fs x.code)) (k + 1)) :: cel b2 #[.int .i64 y.code, .int .u64 y.a, .int .u64 y.b, .int .i64 y.key, .int .i64 y.val, .int .i64 y.lo, .int .i64 y.hi, .int .i64 y.n, .bool y.flag, .string y.name, .slice zb y.lb yb, .slice ze y.le ye, .slice zc y.lc yc] 27 :: cel b1 #[.int .i64 x.code, .int .u64 x.a, .int .u64 x.b, .int .i64 x.key, .int .i64 x.val, .int .i64 x.lo, .int .i64 x.hi, .int .i64 x.n, .bool x.flag, .string x.name, .slice ab (List.length (by8 x.bytes)) cb, .slice ae (List.length (en2 x.ents)) ce, .slice ac (List.length (ch4 x.chs)) cc] 27 :: Sh 63 4 (ch4 x.chs) ac cc :: L) w := hS
            refine WL.stF rfl rfl rfl 1 hS rfl rfl rfl rfl rfl ag_27 (fun w hS => ?_)
            replace hS : St g (blk b3 (.stringIter (mkS (fs x.code)) (k + 1)) :: cel b2 #[.int .i64 Y1.code, .int .u64 Y1.a, .int .u64 Y1.b, .int .i64 Y1.key, .int .i64 Y1.val, .int .i64 Y1.lo, .int .i64 Y1.hi, .int .i64 Y1.n, .bool Y1.flag, .string Y1.name, .slice ab1 Y1.lb cb1, .slice ae1 Y1.le ce1, .slice ac1 Y1.lc cc1] 27 :: cel b1 #[.int .i64 x.code, .int .u64 x.a, .int .u64 x.b, .int .i64 x.key, .int .i64 x.val, .int .i64 x.lo, .int .i64 x.hi, .int .i64 x.n, .bool x.flag, .string x.name, .slice ab (List.length (by8 x.bytes)) cb, .slice ae (List.length (en2 x.ents)) ce, .slice ac (List.length (ch4 x.chs)) cc] 27 :: Sh 63 4 (ch4 x.chs) ac cc :: L) w := hS
            refine WL.nil ?_
            exact ⟨_, by omega, k + 1, Y1, _, _, _, _, _, _, rfl, hS, (by rw [hr, clrZs_go cd3, hY1]), rfl⟩
          · rw [if_neg cd3] at hS
            refine WC.exit ?_
            refine WC.seq ?_
            refine WC.region ?_
            refine WL.run 3 [.int .u64 y.a] rfl (by exact hS.ld 1 rfl rfl) ?_
            refine WL.runG 31 [.int .u64 y.b, .int .i64 y.key, .int .i64 y.val, .int .i64 y.lo, .int .i64 y.hi, .int .i64 y.n] rfl (by exact ⟨fun _ => hS.ld 1 rfl rfl, fun _ => hS.ld 1 rfl rfl, fun _ => hS.ld 1 rfl rfl, fun _ => hS.ld 1 rfl rfl, fun _ => hS.ld 1 rfl rfl, fun _ => hS.ld 1 rfl rfl⟩) (fun j => ?_)
            refine WL.prop 110 rfl (band (band (band (band (band (band (dd _) (dd _)) (dd _)) (dd _)) (dd _)) (dd _)) (dd _)) ?_
            refine WL.nil ?_
            refine WC.seq ?_
            refine WC.region ?_
            refine WL.r 1 rfl ?_
            refine WL.runG 29 [.bool y.flag, .string y.name, .slice zb y.lb yb, .slice ze y.le ye, .slice zc y.lc yc] rfl (by exact ⟨fun _ => hS.ld 1 rfl rfl, fun _ => hS.ld 1 rfl rfl, fun _ => hS.ld 1 rfl rfl, fun _ => hS.ld 1 rfl rfl, fun _ => hS.ld 1 rfl rfl⟩) (fun j => ?_)
            refine WL.prop 139 rfl (band (band (band (band (band (band (band (band (band (band (band (dd _) (dd _)) (dd _)) (dd _)) (dd _)) (dd _)) (dd _)) (bnot (dv _))) (dd _)) (dd _)) (dd _)) (dd _)) ?_
            refine WL.nil ?_
            as_aux_lemma =>
              refine WC.ret ?_
              refine ⟨[.bool (bif (bif (bif (bif (bif (bif (bif (bif (bif (bif (bif (decide (y.a = 0)) then (decide (y.b = 0)) else false) then (decide (y.key = 0)) else false) then (decide (y.val = 0)) else false) then (decide (y.lo = 0)) else false) then (decide (y.hi = 0)) else false) then (decide (y.n = 0)) else false) then (! y.flag) else false) then (decide (y.name = ⟨#[]⟩)) else false) then (decide ((y.lb : Int) = 0)) else false) then (decide ((y.le : Int) = 0)) else false) then (decide ((y.lc : Int) = 0)) else false)], rfl, ?_⟩
              replace hS := (hS.sel 4 [3] rfl)
              refine ⟨_, rfl, hS, ?_⟩
              simp only [Bool.cond_false_right, Bool.and_eq_true, decide_eq_true_eq, Bool.not_eq_true', and_assoc, nat0]
              rw [zero_iff (by rw [hr, clrZs_end cd3])]
              refine ⟨fun h => ⟨?_, ⟨?_, ?_, ?_, ?_, ?_⟩, ?_, h⟩, fun h => h.2.2.2⟩
              · exact cd1.1.1.1.1.1.1
              all_goals first | omega | skip
              rw [List.take_of_length_le (by omega)] at hall; exact hall

theorem append_spec {g w : World} {L : List HP} (bs : List Int) (a : Option Addr) (c : Nat) (x : OpM) (ab ae ac : Option Addr) (cb ce cc : Nat) (hbs : bs.length ≤ 500000) (hw : OpW x) (hS : St g (Sh 5 1 (by8 bs) a c :: Sh 5 1 (by8 x.bytes) ab cb :: Sh 40 2 (en2 x.ents) ae ce :: Sh 63 4 (ch4 x.chs) ac cc :: L) w) :
    Sp Try.prog 13 [.slice a (List.length (by8 bs)) c, .agg #[.int .i64 x.code, .int .u64 x.a, .int .u64 x.b, .int .i64 x.key, .int .i64 x.val, .int .i64 x.lo, .int .i64 x.hi, .int .i64 x.n, .bool x.flag, .string x.name, .slice ab (List.length (by8 x.bytes)) cb, .slice ae (List.length (en2 x.ents)) ce, .slice ac (List.length (ch4 x.chs)) cc]] w (fun v w' => ∃ (ok : Bool) (ys : List Int) (a2 : Option Addr) (c2 : Nat), v = .tuple #[.slice a2 (List.length (by8 ys)) c2, .int .i64 (if ok then (0 : Int) else 1)] ∧ St g (Own 5 1 (by8 ys) a2 c2 :: Sh 5 1 (by8 bs) a c :: Sh 5 1 (by8 x.bytes) ab cb :: Sh 40 2 (en2 x.ents) ae ce :: Sh 63 4 (ch4 x.chs) ac cc :: L) w' ∧ (ok = true ↔ okOp x) ∧ (ys = if ok then bs ++ eOp x else [])) := by
  refine Sp.enter Try.func13 rfl (by kernel_rfl) (by kernel_rfl) ?_
  have _ := hw
  have _ := hbs
  refine WC.seq ?_
  refine WC.region ?_
  refine WL.box rfl rfl #[.int .i64 x.code, .int .u64 x.a, .int .u64 x.b, .int .i64 x.key, .int .i64 x.val, .int .i64 x.lo, .int .i64 x.hi, .int .i64 x.n, .bool x.flag, .string x.name, .slice ab (List.length (by8 x.bytes)) cb, .slice ae (List.length (en2 x.ents)) ce, .slice ac (List.length (ch4 x.chs)) cc] hS rfl rfl (fun b1 w hS => ?_)
  refine WL.r 2 rfl ?_
  refine WL.nil ?_
  refine WC.seq ?_
  refine WC.seq ?_
  refine WC.region ?_
  refine WL.ldF rfl rfl 0 hS rfl rfl ag_27 ?_
  refine WL.call rfl rfl (valid_spec (x := x) (ab := ab) (ae := ae) (ac := ac) (cb := cb) (ce := ce) (cc := cc)  (hS := (hS.sel 5 [4, 0, 0, 0, 0] rfl))) rfl ?_
  rintro _ w ⟨ok1, rfl, hS, f1⟩
  replace hS : St g (Sh 63 4 (ch4 x.chs) ac cc :: cel b1 #[.int .i64 x.code, .int .u64 x.a, .int .u64 x.b, .int .i64 x.key, .int .i64 x.val, .int .i64 x.lo, .int .i64 x.hi, .int .i64 x.n, .bool x.flag, .string x.name, .slice ab (List.length (by8 x.bytes)) cb, .slice ae (List.length (en2 x.ents)) ce, .slice ac (List.length (ch4 x.chs)) cc] 27 :: Sh 5 1 (by8 bs) a c :: Sh 5 1 (by8 x.bytes) ab cb :: Sh 40 2 (en2 x.ents) ae ce :: L) w := hS
  refine WL.r 1 rfl ?_
  refine WL.nil ?_
  refine WC.if_ rfl (fun cv => ?_) (fun cv => ?_)
  · refine WC.seq ?_
    refine WC.region ?_
    refine WL.r 2 rfl ?_
    refine WL.nil ?_
    refine WC.ret ?_
    refine ⟨[.slice none 0 0, .int .i64 1], ⟨rfl, rfl⟩, ?_⟩
    replace hS := hS.nil_ 5 1
    replace hS := (hS.sel 6 [0, 2, 2, 2, 0] rfl)
    exact ⟨false, [], _, _, rfl, hS, by rw [← f1]; simpa using cv, rfl⟩
  · refine WC.skip ?_
    refine WC.seq ?_
    refine WC.region ?_
    have hok : okOp x := f1.1 (by simpa using cv)
    have hL : OpL x := hok.2.1
    refine WL.run 3 [.int .i64 x.code] rfl (by exact hS.ld 1 rfl rfl) ?_
    refine WL.reb 16 (.int .u8 (x.code % 256)) (congrArg (Value.int .u8) (by rfl)) ?_
    refine WL.lit rfl rfl (by8 [x.code % 256]) el_23 hS (by exact ⟨rfl, rfl⟩) (by8_ok _) rfl (by decide) (fun b2 w hS => ?_)
    refine WL.build rfl rfl (cs := [.slice (some ⟨b2, 0, none⟩) (List.length (by8 [x.code % 256])) (List.length (by8 [x.code % 256]))]) zv_68 rfl rfl ?_
    refine WL.box rfl rfl #[.slice (some ⟨b2, 0, none⟩) (List.length (by8 [x.code % 256])) (List.length (by8 [x.code % 256]))] hS rfl rfl (fun b3 w hS => ?_)
    refine WL.r 1 rfl ?_
    refine WL.nil ?_
    as_aux_lemma =>
      refine WC.seq ?_
      refine WC.region ?_
      refine WL.run 2 [.int .i64 x.code] rfl (by exact hS.ld 3 rfl rfl) ?_
      refine WL.call rfl rfl (fields_spec (c := x.code)  (hS := hS)) rfl ?_
      rintro _ w ⟨rfl, hS⟩
      replace hS : St g (cel b3 #[.slice (some ⟨b2, 0, none⟩) (List.length (by8 [x.code % 256])) (List.length (by8 [x.code % 256]))] 68 :: Own 5 1 (by8 [x.code % 256]) (some ⟨b2, 0, none⟩) (List.length (by8 [x.code % 256])) :: Sh 63 4 (ch4 x.chs) ac cc :: cel b1 #[.int .i64 x.code, .int .u64 x.a, .int .u64 x.b, .int .i64 x.key, .int .i64 x.val, .int .i64 x.lo, .int .i64 x.hi, .int .i64 x.n, .bool x.flag, .string x.name, .slice ab (List.length (by8 x.bytes)) cb, .slice ae (List.length (en2 x.ents)) ce, .slice ac (List.length (ch4 x.chs)) cc] 27 :: Sh 5 1 (by8 bs) a c :: Sh 5 1 (by8 x.bytes) ab cb :: Sh 40 2 (en2 x.ents) ae ce :: L) w := hS
      refine WL.r 5 rfl ?_
      refine WL.nil ?_
      refine WC.seq ?_
      refine WC.seq ?_
      refine WC.region ?_
      have h6 := fs_len x.code
      refine WL.r 1 rfl ?_
      refine WL.rng rfl rfl rfl hS rfl (fun b4 w hS => ?_)
      replace hS : St g (blk b4 (.stringIter (mkS (fs x.code)) 0) :: cel b3 #[.slice (some ⟨b2, 0, none⟩) (List.length (by8 [x.code % 256])) (List.length (by8 [x.code % 256]))] 68 :: Own 5 1 (by8 [x.code % 256]) (some ⟨b2, 0, none⟩) (List.length (by8 [x.code % 256])) :: Sh 63 4 (ch4 x.chs) ac cc :: cel b1 #[.int .i64 x.code, .int .u64 x.a, .int .u64 x.b, .int .i64 x.key, .int .i64 x.val, .int .i64 x.lo, .int .i64 x.hi, .int .i64 x.n, .bool x.flag, .string x.name, .slice ab (List.length (by8 x.bytes)) cb, .slice ae (List.length (en2 x.ents)) ce, .slice ac (List.length (ch4 x.chs)) cc] 27 :: Sh 5 1 (by8 bs) a c :: Sh 5 1 (by8 x.bytes) ab cb :: Sh 40 2 (en2 x.ents) ae ce :: L) w := hS
      refine WL.nil ?_
      refine WC.block ?_
      refine WC.loop [0, 3, 4, 5, 6, 27] (fun kM vs w => ∃ (k : Nat) (ys : List Int) (a3 : Option Addr) (c3 : Nat), vs = [.slice a (List.length (by8 bs)) c, .pointer (some ⟨b1, 0, none⟩), .slice none 0 0, .int .i64 0, .pointer (some ⟨b3, 0, none⟩), .pointer (some ⟨b4, 0, none⟩)] ∧ St g (blk b4 (.stringIter (mkS (fs x.code)) k) :: cel b3 #[.slice a3 (List.length (by8 ys)) c3] 68 :: Own 5 1 (by8 ys) a3 c3 :: Sh 63 4 (ch4 x.chs) ac cc :: cel b1 #[.int .i64 x.code, .int .u64 x.a, .int .u64 x.b, .int .i64 x.key, .int .i64 x.val, .int .i64 x.lo, .int .i64 x.hi, .int .i64 x.n, .bool x.flag, .string x.name, .slice ab (List.length (by8 x.bytes)) cb, .slice ae (List.length (en2 x.ents)) ce, .slice ac (List.length (ch4 x.chs)) cc] 27 :: Sh 5 1 (by8 bs) a c :: Sh 5 1 (by8 x.bytes) ab cb :: Sh 40 2 (en2 x.ents) ae ce :: L) w ∧ (ys.length ≤ 1 + 65546 * k ∧ k ≤ (fs x.code).length) ∧ (ys = (x.code % 256) :: ((fs x.code).take k).flatMap (fun f => eField f x)) ∧ ((fs x.code).length - k) = kM) ((List.length (fs x.code)) - 0) ⟨0, [x.code % 256], _, _, rfl, hS, (by simp), (rfl), rfl⟩ ?_
      clear hS; rintro _ _ w j ⟨k, ys, a3, c3, rfl, hS, hk, hr, rfl⟩
      refine WC.seq ?_
      refine WC.region ?_
      have h6 := fs_len x.code
      refine WL.nx rfl rfl rfl rfl rfl rfl rfl 0 (fs_as _) hS rfl rfl (fun w hS => ?_)
      replace hS : St g (blk b4 (.stringIter (mkS (fs x.code)) (if (k < (List.length (fs x.code))) then (k + 1) else k)) :: cel b3 #[.slice a3 (List.length (by8 ys)) c3] 68 :: Own 5 1 (by8 ys) a3 c3 :: Sh 63 4 (ch4 x.chs) ac cc :: cel b1 #[.int .i64 x.code, .int .u64 x.a, .int .u64 x.b, .int .i64 x.key, .int .i64 x.val, .int .i64 x.lo, .int .i64 x.hi, .int .i64 x.n, .bool x.flag, .string x.name, .slice ab (List.length (by8 x.bytes)) cb, .slice ae (List.length (en2 x.ents)) ce, .slice ac (List.length (ch4 x.chs)) cc] 27 :: Sh 5 1 (by8 bs) a c :: Sh 5 1 (by8 x.bytes) ab cb :: Sh 40 2 (en2 x.ents) ae ce :: L) w := hS
      refine WL.nil ?_
      as_aux_lemma =>
        refine WC.seq ?_
        refine WC.ifP rfl (fun cd1 => ?_) (fun cd1 => ?_)
        · refine WC.reb 28 (.tuple #[.bool true, .int .i64 (k : Int), .int .i32 (List.getD (fs x.code) k 0)]) (nx_in cd1) ?_
          rw [if_pos cd1] at hS
          refine WC.skip ?_
          refine WC.block ?_
          refine WC.seq ?_
          refine WC.region ?_
          refine WL.r 2 rfl ?_
          refine WL.nil ?_
          refine WC.region ?_
          refine WL.r 1 rfl ?_
          refine WL.ldF rfl rfl 4 hS rfl rfl ag_27 ?_
          refine WL.r 1 rfl ?_
          refine WL.call rfl rfl (wfield_spec (q := b3) (xs := ys) (a := a3) (c := c3) (x := x) (ab := ab) (ae := ae) (ac := ac) (cb := cb) (ce := ce) (cc := cc) (f := List.getD (fs x.code) k 0) (hx := (by first | omega | (simp <;> omega))) (hx3 := (by omega)) (hw := (by assumption)) (hl := (by assumption)) (hS := (hS.sel 8 [1, 1, 4, 4, 1, 0, 0, 0] rfl))) rfl ?_
          generalize hY1 : ys ++ eField (List.getD (fs x.code) k 0) x = Y1
          rintro _ w ⟨a1, c1, rfl, hS⟩
          have hY1f0 : (List.length Y1) ≤ (List.length ys) + 65546 := by rw [← hY1, List.length_append]; exact Nat.add_le_add_left (eField_len (by assumption) (by assumption)) _
          replace hS : St g (cel b3 #[.slice a1 (List.length (by8 Y1)) c1] 68 :: Own 5 1 (by8 Y1) a1 c1 :: Sh 5 1 (by8 x.bytes) ab cb :: Sh 40 2 (en2 x.ents) ae ce :: Sh 63 4 (ch4 x.chs) ac cc :: blk b4 (.stringIter (mkS (fs x.code)) (k + 1)) :: cel b1 #[.int .i64 x.code, .int .u64 x.a, .int .u64 x.b, .int .i64 x.key, .int .i64 x.val, .int .i64 x.lo, .int .i64 x.hi, .int .i64 x.n, .bool x.flag, .string x.name, .slice ab (List.length (by8 x.bytes)) cb, .slice ae (List.length (en2 x.ents)) ce, .slice ac (List.length (ch4 x.chs)) cc] 27 :: Sh 5 1 (by8 bs) a c :: L) w := hS
          refine WL.nil ?_
          exact ⟨_, by omega, k + 1, Y1, _, _, rfl, (hS.sel 8 [5, 0, 0, 2, 2, 2, 0, 0] rfl), (by omega), (by rw [fm_take (fun f => eField f x) (x := (fs x.code).getD k 0) (by rw [List.getD_eq_getElem?_getD, List.getElem?_eq_getElem cd1]; rfl), ← hY1, hr]; rfl), rfl⟩
        · rw [if_neg cd1] at hS
          refine WC.exit ?_
          refine WC.seq ?_
          refine WC.region ?_
          refine WL.run 5 [.slice a3 (List.length (by8 ys)) c3] rfl (by exact hS.ld 1 rfl rfl) ?_
          replace hS := (hS.at_ 2 rfl).share
          replace hS : St g (Sh 5 1 (by8 ys) a3 c3 :: blk b4 (.stringIter (mkS (fs x.code)) k) :: cel b3 #[.slice a3 (List.length (by8 ys)) c3] 68 :: Sh 63 4 (ch4 x.chs) ac cc :: cel b1 #[.int .i64 x.code, .int .u64 x.a, .int .u64 x.b, .int .i64 x.key, .int .i64 x.val, .int .i64 x.lo, .int .i64 x.hi, .int .i64 x.n, .bool x.flag, .string x.name, .slice ab (List.length (by8 x.bytes)) cb, .slice ae (List.length (en2 x.ents)) ce, .slice ac (List.length (ch4 x.chs)) cc] 27 :: Sh 5 1 (by8 bs) a c :: Sh 5 1 (by8 x.bytes) ab cb :: Sh 40 2 (en2 x.ents) ae ce :: L) w := hS
          refine WL.call rfl rfl (join_spec (xs := bs) (ys := ys) (a := a) (b := a3) (c := c) (d := c3) (hx := (by omega)) (hS := (hS.sel 8 [5, 0, 0, 0, 0, 0, 0, 0] rfl))) rfl ?_
          rintro _ w ⟨a1, c1, rfl, hS⟩
          replace hS : St g (Own 5 1 (by8 (bs ++ ys)) a1 c1 :: Sh 5 1 (by8 bs) a c :: Sh 5 1 (by8 ys) a3 c3 :: blk b4 (.stringIter (mkS (fs x.code)) k) :: cel b3 #[.slice a3 (List.length (by8 ys)) c3] 68 :: Sh 63 4 (ch4 x.chs) ac cc :: cel b1 #[.int .i64 x.code, .int .u64 x.a, .int .u64 x.b, .int .i64 x.key, .int .i64 x.val, .int .i64 x.lo, .int .i64 x.hi, .int .i64 x.n, .bool x.flag, .string x.name, .slice ab (List.length (by8 x.bytes)) cb, .slice ae (List.length (en2 x.ents)) ce, .slice ac (List.length (ch4 x.chs)) cc] 27 :: Sh 5 1 (by8 x.bytes) ab cb :: Sh 40 2 (en2 x.ents) ae ce :: L) w := hS
          refine WL.r 2 rfl ?_
          refine WL.nil ?_
          refine WC.ret ?_
          refine ⟨[.slice a1 (List.length (by8 (bs ++ ys))) c1, .int .i64 0], ⟨rfl, rfl⟩, ?_⟩
          replace hS := (hS.sel 9 [0, 0, 5, 5, 3] rfl)
          have hy : ys = eOp x := by rw [hr, List.take_of_length_le (by omega), eOp]
          exact ⟨true, bs ++ ys, _, _, rfl, hS, by simp [hok], by rw [hy]; rfl⟩

theorem appendAnswer_spec {g w : World} {L : List HP} (bs : List Int) (a : Option Addr) (c : Nat) (x : AnM) (ab ae ac ak : Option Addr) (cb ce cc ck : Nat) (hbs : bs.length ≤ 500000) (hw : AnW x) (hS : St g (Sh 5 1 (by8 bs) a c :: Sh 5 1 (by8 x.bytes) ab cb :: Sh 40 2 (en2 x.ents) ae ce :: Sh 63 4 (ch4 x.chs) ac cc :: Sh 2 1 (i64s x.keys) ak ck :: L) w) :
    Sp Try.prog 28 [.slice a (List.length (by8 bs)) c, .agg #[.int .i64 x.err, .int .u64 x.handle, .int .i64 x.value, .bool x.found, .int .i64 x.n, .int .i64 x.ekey, .int .i64 x.eval, .int .i64 x.count, .int .i64 x.sum, .int .i64 x.mn, .int .i64 x.mx, .slice ae (List.length (en2 x.ents)) ce, .slice ac (List.length (ch4 x.chs)) cc, .slice ak (List.length (i64s x.keys)) ck, .slice ab (List.length (by8 x.bytes)) cb]] w (fun v w' => ∃ (a2 : Option Addr) (c2 : Nat), v = .slice a2 (List.length (by8 (bs ++ eAn x))) c2 ∧ St g (Own 5 1 (by8 (bs ++ eAn x)) a2 c2 :: Sh 5 1 (by8 bs) a c :: Sh 5 1 (by8 x.bytes) ab cb :: Sh 40 2 (en2 x.ents) ae ce :: Sh 63 4 (ch4 x.chs) ac cc :: Sh 2 1 (i64s x.keys) ak ck :: L) w') := by
  refine Sp.enter Try.func28 rfl (by kernel_rfl) (by kernel_rfl) ?_
  have _ := hbs
  refine WC.seq ?_
  refine WC.region ?_
  refine WL.box rfl rfl #[.int .i64 x.err, .int .u64 x.handle, .int .i64 x.value, .bool x.found, .int .i64 x.n, .int .i64 x.ekey, .int .i64 x.eval, .int .i64 x.count, .int .i64 x.sum, .int .i64 x.mn, .int .i64 x.mx, .slice ae (List.length (en2 x.ents)) ce, .slice ac (List.length (ch4 x.chs)) cc, .slice ak (List.length (i64s x.keys)) ck, .slice ab (List.length (by8 x.bytes)) cb] hS rfl rfl (fun b1 w hS => ?_)
  refine WL.r 1 rfl ?_
  refine WL.nil ?_
  refine WC.seq ?_
  refine WC.region ?_
  obtain ⟨w1, w2, w3, w5, w6, w7, w8, w9, w10, w11, w12, w13, w14, l1, l2, l3, l4⟩ := hw
  have hl4 := ch4_len x.chs; have hl2 := en2_len x.ents; have hl1 := by8_len x.bytes; have hl3 := i64s_len x.keys
  refine WL.build rfl rfl (cs := [.slice none 0 0]) zv_68 rfl rfl ?_
  refine WL.box rfl rfl #[.slice none 0 0] hS rfl rfl (fun b2 w hS => ?_)
  refine WL.r 1 rfl ?_
  refine WL.nil ?_
  refine WC.seq ?_
  refine WC.region ?_
  refine WL.run 4 [.int .i64 x.err] rfl (by exact hS.ld 1 rfl rfl) ?_
  refine WL.reb 13 (.int .u64 (x.err % 18446744073709551616)) (congrArg (Value.int .u64) (by rfl)) ?_
  replace hS := hS.nil_ 5 1
  replace hS : St g (Own 5 1 (by8 []) none 0 :: cel b2 #[.slice none 0 0] 68 :: cel b1 #[.int .i64 x.err, .int .u64 x.handle, .int .i64 x.value, .bool x.found, .int .i64 x.n, .int .i64 x.ekey, .int .i64 x.eval, .int .i64 x.count, .int .i64 x.sum, .int .i64 x.mn, .int .i64 x.mx, .slice ae (List.length (en2 x.ents)) ce, .slice ac (List.length (ch4 x.chs)) cc, .slice ak (List.length (i64s x.keys)) ck, .slice ab (List.length (by8 x.bytes)) cb] 45 :: Sh 5 1 (by8 bs) a c :: Sh 5 1 (by8 x.bytes) ab cb :: Sh 40 2 (en2 x.ents) ae ce :: Sh 63 4 (ch4 x.chs) ac cc :: Sh 2 1 (i64s x.keys) ak ck :: L) w := hS
  refine WL.call rfl rfl (wvarint_spec (q := b2) (xs := []) (a := none) (c := 0) (u := x.err % 18446744073709551616) (hx := (by first | omega | (simp <;> omega))) (hu := (by omega)) (hS := (hS.sel 8 [1, 0, 0, 0, 0, 0, 0, 0] rfl))) rfl ?_
  generalize hY1 : [] ++ eU (x.err % 18446744073709551616) = Y1
  rintro _ w ⟨a1, c1, rfl, hS⟩
  have hY1f0 : (List.length Y1) ≤ 0 + 10 := by rw [← hY1, List.length_append]; exact Nat.add_le_add_left (eU_len (by omega)) _
  replace hS : St g (cel b2 #[.slice a1 (List.length (by8 Y1)) c1] 68 :: Own 5 1 (by8 Y1) a1 c1 :: cel b1 #[.int .i64 x.err, .int .u64 x.handle, .int .i64 x.value, .bool x.found, .int .i64 x.n, .int .i64 x.ekey, .int .i64 x.eval, .int .i64 x.count, .int .i64 x.sum, .int .i64 x.mn, .int .i64 x.mx, .slice ae (List.length (en2 x.ents)) ce, .slice ac (List.length (ch4 x.chs)) cc, .slice ak (List.length (i64s x.keys)) ck, .slice ab (List.length (by8 x.bytes)) cb] 45 :: Sh 5 1 (by8 bs) a c :: Sh 5 1 (by8 x.bytes) ab cb :: Sh 40 2 (en2 x.ents) ae ce :: Sh 63 4 (ch4 x.chs) ac cc :: Sh 2 1 (i64s x.keys) ak ck :: L) w := hS
  refine WL.nil ?_
  as_aux_lemma =>
    refine WC.seq ?_
    refine WC.region ?_
    refine WL.run 3 [.int .u64 x.handle] rfl (by exact hS.ld 2 rfl rfl) ?_
    refine WL.call rfl rfl (wvarint_spec (q := b2) (xs := Y1) (a := a1) (c := c1) (u := x.handle) (hx := (by first | omega | (simp <;> omega))) (hu := (by omega)) (hS := hS)) rfl ?_
    generalize hY2 : Y1 ++ eU x.handle = Y2
    rintro _ w ⟨a2, c2, rfl, hS⟩
    have hY2f0 : (List.length Y2) ≤ (List.length Y1) + 10 := by rw [← hY2, List.length_append]; exact Nat.add_le_add_left (eU_len (by omega)) _
    replace hS : St g (cel b2 #[.slice a2 (List.length (by8 Y2)) c2] 68 :: Own 5 1 (by8 Y2) a2 c2 :: cel b1 #[.int .i64 x.err, .int .u64 x.handle, .int .i64 x.value, .bool x.found, .int .i64 x.n, .int .i64 x.ekey, .int .i64 x.eval, .int .i64 x.count, .int .i64 x.sum, .int .i64 x.mn, .int .i64 x.mx, .slice ae (List.length (en2 x.ents)) ce, .slice ac (List.length (ch4 x.chs)) cc, .slice ak (List.length (i64s x.keys)) ck, .slice ab (List.length (by8 x.bytes)) cb] 45 :: Sh 5 1 (by8 bs) a c :: Sh 5 1 (by8 x.bytes) ab cb :: Sh 40 2 (en2 x.ents) ae ce :: Sh 63 4 (ch4 x.chs) ac cc :: Sh 2 1 (i64s x.keys) ak ck :: L) w := hS
    refine WL.nil ?_
    refine WC.seq ?_
    refine WC.region ?_
    refine WL.run 3 [.int .i64 x.value] rfl (by exact hS.ld 2 rfl rfl) ?_
    refine WL.call rfl rfl (wsigned_spec (q := b2) (xs := Y2) (a := a2) (c := c2) (n := x.value) (hx := (by first | omega | (simp <;> omega))) (hn := (by assumption)) (hS := hS)) rfl ?_
    generalize hY3 : Y2 ++ eZ x.value = Y3
    rintro _ w ⟨a3, c3, rfl, hS⟩
    have hY3f0 : (List.length Y3) ≤ (List.length Y2) + 10 := by rw [← hY3, List.length_append]; exact Nat.add_le_add_left (eZ_len (by assumption)) _
    replace hS : St g (cel b2 #[.slice a3 (List.length (by8 Y3)) c3] 68 :: Own 5 1 (by8 Y3) a3 c3 :: cel b1 #[.int .i64 x.err, .int .u64 x.handle, .int .i64 x.value, .bool x.found, .int .i64 x.n, .int .i64 x.ekey, .int .i64 x.eval, .int .i64 x.count, .int .i64 x.sum, .int .i64 x.mn, .int .i64 x.mx, .slice ae (List.length (en2 x.ents)) ce, .slice ac (List.length (ch4 x.chs)) cc, .slice ak (List.length (i64s x.keys)) ck, .slice ab (List.length (by8 x.bytes)) cb] 45 :: Sh 5 1 (by8 bs) a c :: Sh 5 1 (by8 x.bytes) ab cb :: Sh 40 2 (en2 x.ents) ae ce :: Sh 63 4 (ch4 x.chs) ac cc :: Sh 2 1 (i64s x.keys) ak ck :: L) w := hS
    refine WL.nil ?_
    refine WC.seq ?_
    refine WC.region ?_
    refine WL.run 3 [.bool x.found] rfl (by exact hS.ld 2 rfl rfl) ?_
    refine WL.call rfl rfl (wbool_spec (q := b2) (xs := Y3) (a := a3) (c := c3) (x := x.found) (hx := (by first | omega | (simp <;> omega))) (hS := hS)) rfl ?_
    generalize hY4 : Y3 ++ eF x.found = Y4
    rintro _ w ⟨a4, c4, rfl, hS⟩
    have hY4f0 : (List.length Y4) = (List.length Y3) + 1 := by rw [← hY4]; simp [eF]
    replace hS : St g (cel b2 #[.slice a4 (List.length (by8 Y4)) c4] 68 :: Own 5 1 (by8 Y4) a4 c4 :: cel b1 #[.int .i64 x.err, .int .u64 x.handle, .int .i64 x.value, .bool x.found, .int .i64 x.n, .int .i64 x.ekey, .int .i64 x.eval, .int .i64 x.count, .int .i64 x.sum, .int .i64 x.mn, .int .i64 x.mx, .slice ae (List.length (en2 x.ents)) ce, .slice ac (List.length (ch4 x.chs)) cc, .slice ak (List.length (i64s x.keys)) ck, .slice ab (List.length (by8 x.bytes)) cb] 45 :: Sh 5 1 (by8 bs) a c :: Sh 5 1 (by8 x.bytes) ab cb :: Sh 40 2 (en2 x.ents) ae ce :: Sh 63 4 (ch4 x.chs) ac cc :: Sh 2 1 (i64s x.keys) ak ck :: L) w := hS
    refine WL.nil ?_
    as_aux_lemma =>
      refine WC.seq ?_
      refine WC.region ?_
      refine WL.run 3 [.int .i64 x.n] rfl (by exact hS.ld 2 rfl rfl) ?_
      refine WL.call rfl rfl (wsigned_spec (q := b2) (xs := Y4) (a := a4) (c := c4) (n := x.n) (hx := (by first | omega | (simp <;> omega))) (hn := (by assumption)) (hS := hS)) rfl ?_
      generalize hY5 : Y4 ++ eZ x.n = Y5
      rintro _ w ⟨a5, c5, rfl, hS⟩
      have hY5f0 : (List.length Y5) ≤ (List.length Y4) + 10 := by rw [← hY5, List.length_append]; exact Nat.add_le_add_left (eZ_len (by assumption)) _
      replace hS : St g (cel b2 #[.slice a5 (List.length (by8 Y5)) c5] 68 :: Own 5 1 (by8 Y5) a5 c5 :: cel b1 #[.int .i64 x.err, .int .u64 x.handle, .int .i64 x.value, .bool x.found, .int .i64 x.n, .int .i64 x.ekey, .int .i64 x.eval, .int .i64 x.count, .int .i64 x.sum, .int .i64 x.mn, .int .i64 x.mx, .slice ae (List.length (en2 x.ents)) ce, .slice ac (List.length (ch4 x.chs)) cc, .slice ak (List.length (i64s x.keys)) ck, .slice ab (List.length (by8 x.bytes)) cb] 45 :: Sh 5 1 (by8 bs) a c :: Sh 5 1 (by8 x.bytes) ab cb :: Sh 40 2 (en2 x.ents) ae ce :: Sh 63 4 (ch4 x.chs) ac cc :: Sh 2 1 (i64s x.keys) ak ck :: L) w := hS
      refine WL.nil ?_
      refine WC.seq ?_
      refine WC.region ?_
      refine WL.run 4 [.int .i64 x.ekey] rfl (by exact hS.ld 2 rfl rfl) ?_
      refine WL.call rfl rfl (wsigned_spec (q := b2) (xs := Y5) (a := a5) (c := c5) (n := x.ekey) (hx := (by first | omega | (simp <;> omega))) (hn := (by assumption)) (hS := hS)) rfl ?_
      generalize hY6 : Y5 ++ eZ x.ekey = Y6
      rintro _ w ⟨a6, c6, rfl, hS⟩
      have hY6f0 : (List.length Y6) ≤ (List.length Y5) + 10 := by rw [← hY6, List.length_append]; exact Nat.add_le_add_left (eZ_len (by assumption)) _
      replace hS : St g (cel b2 #[.slice a6 (List.length (by8 Y6)) c6] 68 :: Own 5 1 (by8 Y6) a6 c6 :: cel b1 #[.int .i64 x.err, .int .u64 x.handle, .int .i64 x.value, .bool x.found, .int .i64 x.n, .int .i64 x.ekey, .int .i64 x.eval, .int .i64 x.count, .int .i64 x.sum, .int .i64 x.mn, .int .i64 x.mx, .slice ae (List.length (en2 x.ents)) ce, .slice ac (List.length (ch4 x.chs)) cc, .slice ak (List.length (i64s x.keys)) ck, .slice ab (List.length (by8 x.bytes)) cb] 45 :: Sh 5 1 (by8 bs) a c :: Sh 5 1 (by8 x.bytes) ab cb :: Sh 40 2 (en2 x.ents) ae ce :: Sh 63 4 (ch4 x.chs) ac cc :: Sh 2 1 (i64s x.keys) ak ck :: L) w := hS
      refine WL.nil ?_
      refine WC.seq ?_
      refine WC.region ?_
      refine WL.run 4 [.int .i64 x.eval] rfl (by exact hS.ld 2 rfl rfl) ?_
      refine WL.call rfl rfl (wsigned_spec (q := b2) (xs := Y6) (a := a6) (c := c6) (n := x.eval) (hx := (by first | omega | (simp <;> omega))) (hn := (by assumption)) (hS := hS)) rfl ?_
      generalize hY7 : Y6 ++ eZ x.eval = Y7
      rintro _ w ⟨a7, c7, rfl, hS⟩
      have hY7f0 : (List.length Y7) ≤ (List.length Y6) + 10 := by rw [← hY7, List.length_append]; exact Nat.add_le_add_left (eZ_len (by assumption)) _
      replace hS : St g (cel b2 #[.slice a7 (List.length (by8 Y7)) c7] 68 :: Own 5 1 (by8 Y7) a7 c7 :: cel b1 #[.int .i64 x.err, .int .u64 x.handle, .int .i64 x.value, .bool x.found, .int .i64 x.n, .int .i64 x.ekey, .int .i64 x.eval, .int .i64 x.count, .int .i64 x.sum, .int .i64 x.mn, .int .i64 x.mx, .slice ae (List.length (en2 x.ents)) ce, .slice ac (List.length (ch4 x.chs)) cc, .slice ak (List.length (i64s x.keys)) ck, .slice ab (List.length (by8 x.bytes)) cb] 45 :: Sh 5 1 (by8 bs) a c :: Sh 5 1 (by8 x.bytes) ab cb :: Sh 40 2 (en2 x.ents) ae ce :: Sh 63 4 (ch4 x.chs) ac cc :: Sh 2 1 (i64s x.keys) ak ck :: L) w := hS
      refine WL.nil ?_
      as_aux_lemma =>
        refine WC.seq ?_
        refine WC.region ?_
        refine WL.run 4 [.int .i64 x.count] rfl (by exact hS.ld 2 rfl rfl) ?_
        refine WL.call rfl rfl (wsigned_spec (q := b2) (xs := Y7) (a := a7) (c := c7) (n := x.count) (hx := (by first | omega | (simp <;> omega))) (hn := (by assumption)) (hS := hS)) rfl ?_
        generalize hY8 : Y7 ++ eZ x.count = Y8
        rintro _ w ⟨a8, c8, rfl, hS⟩
        have hY8f0 : (List.length Y8) ≤ (List.length Y7) + 10 := by rw [← hY8, List.length_append]; exact Nat.add_le_add_left (eZ_len (by assumption)) _
        replace hS : St g (cel b2 #[.slice a8 (List.length (by8 Y8)) c8] 68 :: Own 5 1 (by8 Y8) a8 c8 :: cel b1 #[.int .i64 x.err, .int .u64 x.handle, .int .i64 x.value, .bool x.found, .int .i64 x.n, .int .i64 x.ekey, .int .i64 x.eval, .int .i64 x.count, .int .i64 x.sum, .int .i64 x.mn, .int .i64 x.mx, .slice ae (List.length (en2 x.ents)) ce, .slice ac (List.length (ch4 x.chs)) cc, .slice ak (List.length (i64s x.keys)) ck, .slice ab (List.length (by8 x.bytes)) cb] 45 :: Sh 5 1 (by8 bs) a c :: Sh 5 1 (by8 x.bytes) ab cb :: Sh 40 2 (en2 x.ents) ae ce :: Sh 63 4 (ch4 x.chs) ac cc :: Sh 2 1 (i64s x.keys) ak ck :: L) w := hS
        refine WL.nil ?_
        refine WC.seq ?_
        refine WC.region ?_
        refine WL.run 4 [.int .i64 x.sum] rfl (by exact hS.ld 2 rfl rfl) ?_
        refine WL.call rfl rfl (wsigned_spec (q := b2) (xs := Y8) (a := a8) (c := c8) (n := x.sum) (hx := (by first | omega | (simp <;> omega))) (hn := (by assumption)) (hS := hS)) rfl ?_
        generalize hY9 : Y8 ++ eZ x.sum = Y9
        rintro _ w ⟨a9, c9, rfl, hS⟩
        have hY9f0 : (List.length Y9) ≤ (List.length Y8) + 10 := by rw [← hY9, List.length_append]; exact Nat.add_le_add_left (eZ_len (by assumption)) _
        replace hS : St g (cel b2 #[.slice a9 (List.length (by8 Y9)) c9] 68 :: Own 5 1 (by8 Y9) a9 c9 :: cel b1 #[.int .i64 x.err, .int .u64 x.handle, .int .i64 x.value, .bool x.found, .int .i64 x.n, .int .i64 x.ekey, .int .i64 x.eval, .int .i64 x.count, .int .i64 x.sum, .int .i64 x.mn, .int .i64 x.mx, .slice ae (List.length (en2 x.ents)) ce, .slice ac (List.length (ch4 x.chs)) cc, .slice ak (List.length (i64s x.keys)) ck, .slice ab (List.length (by8 x.bytes)) cb] 45 :: Sh 5 1 (by8 bs) a c :: Sh 5 1 (by8 x.bytes) ab cb :: Sh 40 2 (en2 x.ents) ae ce :: Sh 63 4 (ch4 x.chs) ac cc :: Sh 2 1 (i64s x.keys) ak ck :: L) w := hS
        refine WL.nil ?_
        refine WC.seq ?_
        refine WC.region ?_
        refine WL.run 4 [.int .i64 x.mn] rfl (by exact hS.ld 2 rfl rfl) ?_
        refine WL.call rfl rfl (wsigned_spec (q := b2) (xs := Y9) (a := a9) (c := c9) (n := x.mn) (hx := (by first | omega | (simp <;> omega))) (hn := (by assumption)) (hS := hS)) rfl ?_
        generalize hY10 : Y9 ++ eZ x.mn = Y10
        rintro _ w ⟨a10, c10, rfl, hS⟩
        have hY10f0 : (List.length Y10) ≤ (List.length Y9) + 10 := by rw [← hY10, List.length_append]; exact Nat.add_le_add_left (eZ_len (by assumption)) _
        replace hS : St g (cel b2 #[.slice a10 (List.length (by8 Y10)) c10] 68 :: Own 5 1 (by8 Y10) a10 c10 :: cel b1 #[.int .i64 x.err, .int .u64 x.handle, .int .i64 x.value, .bool x.found, .int .i64 x.n, .int .i64 x.ekey, .int .i64 x.eval, .int .i64 x.count, .int .i64 x.sum, .int .i64 x.mn, .int .i64 x.mx, .slice ae (List.length (en2 x.ents)) ce, .slice ac (List.length (ch4 x.chs)) cc, .slice ak (List.length (i64s x.keys)) ck, .slice ab (List.length (by8 x.bytes)) cb] 45 :: Sh 5 1 (by8 bs) a c :: Sh 5 1 (by8 x.bytes) ab cb :: Sh 40 2 (en2 x.ents) ae ce :: Sh 63 4 (ch4 x.chs) ac cc :: Sh 2 1 (i64s x.keys) ak ck :: L) w := hS
        refine WL.nil ?_
        as_aux_lemma =>
          refine WC.seq ?_
          refine WC.region ?_
          refine WL.run 4 [.int .i64 x.mx] rfl (by exact hS.ld 2 rfl rfl) ?_
          refine WL.call rfl rfl (wsigned_spec (q := b2) (xs := Y10) (a := a10) (c := c10) (n := x.mx) (hx := (by first | omega | (simp <;> omega))) (hn := (by assumption)) (hS := hS)) rfl ?_
          generalize hY11 : Y10 ++ eZ x.mx = Y11
          rintro _ w ⟨a11, c11, rfl, hS⟩
          have hY11f0 : (List.length Y11) ≤ (List.length Y10) + 10 := by rw [← hY11, List.length_append]; exact Nat.add_le_add_left (eZ_len (by assumption)) _
          replace hS : St g (cel b2 #[.slice a11 (List.length (by8 Y11)) c11] 68 :: Own 5 1 (by8 Y11) a11 c11 :: cel b1 #[.int .i64 x.err, .int .u64 x.handle, .int .i64 x.value, .bool x.found, .int .i64 x.n, .int .i64 x.ekey, .int .i64 x.eval, .int .i64 x.count, .int .i64 x.sum, .int .i64 x.mn, .int .i64 x.mx, .slice ae (List.length (en2 x.ents)) ce, .slice ac (List.length (ch4 x.chs)) cc, .slice ak (List.length (i64s x.keys)) ck, .slice ab (List.length (by8 x.bytes)) cb] 45 :: Sh 5 1 (by8 bs) a c :: Sh 5 1 (by8 x.bytes) ab cb :: Sh 40 2 (en2 x.ents) ae ce :: Sh 63 4 (ch4 x.chs) ac cc :: Sh 2 1 (i64s x.keys) ak ck :: L) w := hS
          refine WL.nil ?_
          refine WC.seq ?_
          refine WC.region ?_
          refine WL.run 3 [.slice ae (List.length (en2 x.ents)) ce] rfl (by exact hS.ld 2 rfl rfl) ?_
          refine WL.call rfl rfl (wentries_spec (q := b2) (xs := Y11) (a := a11) (c := c11) (l := x.ents) (la := ae) (lc := ce) (hx := (by first | omega | (simp <;> omega))) (hl := (by omega)) (hx2 := (by first | omega | (simp <;> omega))) (hw := (by assumption)) (hS := (hS.sel 8 [0, 0, 3, 0, 0, 0, 0, 0] rfl))) rfl ?_
          generalize hY12 : Y11 ++ eEnts x.ents = Y12
          rintro _ w ⟨a12, c12, rfl, hS⟩
          have hY12f0 : (List.length Y12) ≤ (List.length Y11) + (10 + 20 * (List.length x.ents)) := by rw [← hY12, List.length_append]; exact Nat.add_le_add_left (eEnts_len (by assumption) (by omega)) _
          replace hS : St g (cel b2 #[.slice a12 (List.length (by8 Y12)) c12] 68 :: Own 5 1 (by8 Y12) a12 c12 :: Sh 40 2 (en2 x.ents) ae ce :: cel b1 #[.int .i64 x.err, .int .u64 x.handle, .int .i64 x.value, .bool x.found, .int .i64 x.n, .int .i64 x.ekey, .int .i64 x.eval, .int .i64 x.count, .int .i64 x.sum, .int .i64 x.mn, .int .i64 x.mx, .slice ae (List.length (en2 x.ents)) ce, .slice ac (List.length (ch4 x.chs)) cc, .slice ak (List.length (i64s x.keys)) ck, .slice ab (List.length (by8 x.bytes)) cb] 45 :: Sh 5 1 (by8 bs) a c :: Sh 5 1 (by8 x.bytes) ab cb :: Sh 63 4 (ch4 x.chs) ac cc :: Sh 2 1 (i64s x.keys) ak ck :: L) w := hS
          refine WL.nil ?_
          refine WC.seq ?_
          refine WC.region ?_
          refine WL.run 3 [.slice ac (List.length (ch4 x.chs)) cc] rfl (by exact hS.ld 3 rfl rfl) ?_
          refine WL.call rfl rfl (wchanges_spec (q := b2) (xs := Y12) (a := a12) (c := c12) (l := x.chs) (la := ac) (lc := cc) (hx := (by first | omega | (simp <;> omega))) (hl := (by omega)) (hx2 := (by first | omega | (simp <;> omega))) (hw := (by assumption)) (hS := (hS.sel 8 [0, 0, 4, 0, 0, 0, 0, 0] rfl))) rfl ?_
          generalize hY13 : Y12 ++ eChs x.chs = Y13
          rintro _ w ⟨a13, c13, rfl, hS⟩
          have hY13f0 : (List.length Y13) ≤ (List.length Y12) + (10 + 31 * (List.length x.chs)) := by rw [← hY13, List.length_append]; exact Nat.add_le_add_left (eChs_len (by assumption) (by omega)) _
          replace hS : St g (cel b2 #[.slice a13 (List.length (by8 Y13)) c13] 68 :: Own 5 1 (by8 Y13) a13 c13 :: Sh 63 4 (ch4 x.chs) ac cc :: Sh 40 2 (en2 x.ents) ae ce :: cel b1 #[.int .i64 x.err, .int .u64 x.handle, .int .i64 x.value, .bool x.found, .int .i64 x.n, .int .i64 x.ekey, .int .i64 x.eval, .int .i64 x.count, .int .i64 x.sum, .int .i64 x.mn, .int .i64 x.mx, .slice ae (List.length (en2 x.ents)) ce, .slice ac (List.length (ch4 x.chs)) cc, .slice ak (List.length (i64s x.keys)) ck, .slice ab (List.length (by8 x.bytes)) cb] 45 :: Sh 5 1 (by8 bs) a c :: Sh 5 1 (by8 x.bytes) ab cb :: Sh 2 1 (i64s x.keys) ak ck :: L) w := hS
          refine WL.nil ?_
          as_aux_lemma =>
            refine WC.seq ?_
            refine WC.region ?_
            refine WL.run 5 [.slice ak (List.length (i64s x.keys)) ck] rfl (by exact hS.ld 4 rfl rfl) ?_
            refine WL.nw 73 rfl (wu64 (by omega)) ?_
            refine WL.call rfl rfl (wvarint_spec (q := b2) (xs := Y13) (a := a13) (c := c13) (u := (List.length (i64s x.keys) : Int)) (hx := (by first | omega | (simp <;> omega))) (hu := (by omega)) (hS := hS)) rfl ?_
            generalize hY14 : Y13 ++ eU (List.length (i64s x.keys) : Int) = Y14
            rintro _ w ⟨a14, c14, rfl, hS⟩
            have hY14f0 : (List.length Y14) ≤ (List.length Y13) + 10 := by rw [← hY14, List.length_append]; exact Nat.add_le_add_left (eU_len (by omega)) _
            replace hS : St g (cel b2 #[.slice a14 (List.length (by8 Y14)) c14] 68 :: Own 5 1 (by8 Y14) a14 c14 :: Sh 63 4 (ch4 x.chs) ac cc :: Sh 40 2 (en2 x.ents) ae ce :: cel b1 #[.int .i64 x.err, .int .u64 x.handle, .int .i64 x.value, .bool x.found, .int .i64 x.n, .int .i64 x.ekey, .int .i64 x.eval, .int .i64 x.count, .int .i64 x.sum, .int .i64 x.mn, .int .i64 x.mx, .slice ae (List.length (en2 x.ents)) ce, .slice ac (List.length (ch4 x.chs)) cc, .slice ak (List.length (i64s x.keys)) ck, .slice ab (List.length (by8 x.bytes)) cb] 45 :: Sh 5 1 (by8 bs) a c :: Sh 5 1 (by8 x.bytes) ab cb :: Sh 2 1 (i64s x.keys) ak ck :: L) w := hS
            refine WL.nil ?_
            refine WC.seq ?_
            refine WC.seq ?_
            refine WC.region ?_
            refine WL.run 4 [.slice ak (List.length (i64s x.keys)) ck] rfl (by exact hS.ld 4 rfl rfl) ?_
            refine WL.nil ?_
            refine WC.block ?_
            refine WC.loop [0, 3, 4, 5, 76, 77, 78] (fun kM vs w => ∃ (k : Nat) (ys : List Int) (a3 : Option Addr) (c3 : Nat), vs = [.slice a (List.length (by8 bs)) c, .pointer (some ⟨b1, 0, none⟩), .slice none 0 0, .pointer (some ⟨b2, 0, none⟩), .slice ak (List.length (i64s x.keys)) ck, .int .i64 (List.length (i64s x.keys) : Int), .int .i64 (k : Int)] ∧ St g (cel b2 #[.slice a3 (List.length (by8 ys)) c3] 68 :: Own 5 1 (by8 ys) a3 c3 :: Sh 63 4 (ch4 x.chs) ac cc :: Sh 40 2 (en2 x.ents) ae ce :: cel b1 #[.int .i64 x.err, .int .u64 x.handle, .int .i64 x.value, .bool x.found, .int .i64 x.n, .int .i64 x.ekey, .int .i64 x.eval, .int .i64 x.count, .int .i64 x.sum, .int .i64 x.mn, .int .i64 x.mx, .slice ae (List.length (en2 x.ents)) ce, .slice ac (List.length (ch4 x.chs)) cc, .slice ak (List.length (i64s x.keys)) ck, .slice ab (List.length (by8 x.bytes)) cb] 45 :: Sh 5 1 (by8 bs) a c :: Sh 5 1 (by8 x.bytes) ab cb :: Sh 2 1 (i64s x.keys) ak ck :: L) w ∧ (k ≤ x.keys.length) ∧ (ys = Y14 ++ (x.keys.take k).flatMap eZ) ∧ (ys.length ≤ Y14.length + 10 * k) ∧ (x.keys.length - k) = kM) ((List.length x.keys) - 0) ⟨0, Y14, _, _, rfl, hS, (Nat.zero_le _), (by simp), (by omega), rfl⟩ ?_
            clear hS; rintro _ _ w j ⟨k, ys, a3, c3, rfl, hS, hk, hys, hyl, rfl⟩
            refine WC.seq ?_
            refine WC.region ?_
            refine WL.r 1 rfl ?_
            refine WL.nil ?_
            refine WC.seq ?_
            refine WC.ifP rfl (fun cd1 => ?_) (fun cd1 => ?_)
            · refine WC.skip ?_
              as_aux_lemma =>
                refine WC.seq ?_
                refine WC.block ?_
                refine WC.seq ?_
                refine WC.region ?_
                obtain ⟨z, hx2⟩ : ∃ z, x.keys[k]? = some z := ⟨_, List.getElem?_eq_getElem (by omega)⟩; have hz := w14 z (List.mem_of_getElem? hx2)
                refine WL.ix rfl rfl (i := (k : Int)) (k) el_43 rfl rfl (by omega) (len_of (i64s_at hx2)) (hS.rdS 7 rfl (i64s_at hx2)).1 ?_
                refine WL.run 2 [.int .i64 z] rfl (by exact (hS.rdS 7 rfl (i64s_at hx2)).2 0 _ rfl) ?_
                refine WL.nil ?_
                refine WC.region ?_
                refine WL.r 2 rfl ?_
                refine WL.call rfl rfl (wsigned_spec (q := b2) (xs := ys) (a := a3) (c := c3) (n := z) (hx := (by first | omega | (simp <;> omega))) (hn := (by assumption)) (hS := hS)) rfl ?_
                generalize hY15 : ys ++ eZ z = Y15
                rintro _ w ⟨a15, c15, rfl, hS⟩
                have hY15f0 : (List.length Y15) ≤ (List.length ys) + 10 := by rw [← hY15, List.length_append]; exact Nat.add_le_add_left (eZ_len (by assumption)) _
                replace hS : St g (cel b2 #[.slice a15 (List.length (by8 Y15)) c15] 68 :: Own 5 1 (by8 Y15) a15 c15 :: Sh 63 4 (ch4 x.chs) ac cc :: Sh 40 2 (en2 x.ents) ae ce :: cel b1 #[.int .i64 x.err, .int .u64 x.handle, .int .i64 x.value, .bool x.found, .int .i64 x.n, .int .i64 x.ekey, .int .i64 x.eval, .int .i64 x.count, .int .i64 x.sum, .int .i64 x.mn, .int .i64 x.mx, .slice ae (List.length (en2 x.ents)) ce, .slice ac (List.length (ch4 x.chs)) cc, .slice ak (List.length (i64s x.keys)) ck, .slice ab (List.length (by8 x.bytes)) cb] 45 :: Sh 5 1 (by8 bs) a c :: Sh 5 1 (by8 x.bytes) ab cb :: Sh 2 1 (i64s x.keys) ak ck :: L) w := hS
                refine WL.nil ?_
                refine WC.region ?_
                refine WL.r 1 rfl ?_
                refine WL.nw 85 rfl (w64 (by omega)) ?_
                refine WL.r 1 rfl ?_
                refine WL.nil ?_
                exact ⟨_, by omega, k + 1, Y15, _, _, rfl, hS, (by omega), (by rw [fm_take eZ hx2, ← hY15, hys]; simp only [List.append_assoc]), (by omega), rfl⟩
            · refine WC.exit ?_
              as_aux_lemma =>
                refine WC.seq ?_
                refine WC.region ?_
                refine WL.run 3 [.slice ab (List.length (by8 x.bytes)) cb] rfl (by exact hS.ld 4 rfl rfl) ?_
                refine WL.call rfl rfl (wbytes_spec (q := b2) (xs := ys) (a := a3) (c := c3) (l := x.bytes) (la := ab) (lc := cb) (hx := (by first | omega | (simp <;> omega))) (hl := (by omega)) (hS := (hS.sel 8 [0, 0, 4, 0, 0, 0, 0, 0] rfl))) rfl ?_
                generalize hY15 : ys ++ eBytes x.bytes = Y15
                rintro _ w ⟨a15, c15, rfl, hS⟩
                have hY15f0 : (List.length Y15) ≤ (List.length ys) + (10 + (List.length x.bytes)) := by rw [← hY15, List.length_append]; exact Nat.add_le_add_left (eBytes_len (by omega)) _
                replace hS : St g (cel b2 #[.slice a15 (List.length (by8 Y15)) c15] 68 :: Own 5 1 (by8 Y15) a15 c15 :: Sh 5 1 (by8 x.bytes) ab cb :: Sh 63 4 (ch4 x.chs) ac cc :: Sh 40 2 (en2 x.ents) ae ce :: cel b1 #[.int .i64 x.err, .int .u64 x.handle, .int .i64 x.value, .bool x.found, .int .i64 x.n, .int .i64 x.ekey, .int .i64 x.eval, .int .i64 x.count, .int .i64 x.sum, .int .i64 x.mn, .int .i64 x.mx, .slice ae (List.length (en2 x.ents)) ce, .slice ac (List.length (ch4 x.chs)) cc, .slice ak (List.length (i64s x.keys)) ck, .slice ab (List.length (by8 x.bytes)) cb] 45 :: Sh 5 1 (by8 bs) a c :: Sh 2 1 (i64s x.keys) ak ck :: L) w := hS
                refine WL.nil ?_
                refine WC.seq ?_
                refine WC.region ?_
                refine WL.run 5 [.slice a15 (List.length (by8 Y15)) c15] rfl (by exact hS.ld 0 rfl rfl) ?_
                replace hS := (hS.at_ 1 rfl).share
                replace hS : St g (Sh 5 1 (by8 Y15) a15 c15 :: cel b2 #[.slice a15 (List.length (by8 Y15)) c15] 68 :: Sh 5 1 (by8 x.bytes) ab cb :: Sh 63 4 (ch4 x.chs) ac cc :: Sh 40 2 (en2 x.ents) ae ce :: cel b1 #[.int .i64 x.err, .int .u64 x.handle, .int .i64 x.value, .bool x.found, .int .i64 x.n, .int .i64 x.ekey, .int .i64 x.eval, .int .i64 x.count, .int .i64 x.sum, .int .i64 x.mn, .int .i64 x.mx, .slice ae (List.length (en2 x.ents)) ce, .slice ac (List.length (ch4 x.chs)) cc, .slice ak (List.length (i64s x.keys)) ck, .slice ab (List.length (by8 x.bytes)) cb] 45 :: Sh 5 1 (by8 bs) a c :: Sh 2 1 (i64s x.keys) ak ck :: L) w := hS
                refine WL.call rfl rfl (join_spec (xs := bs) (ys := Y15) (a := a) (b := a15) (c := c) (d := c15) (hx := (by omega)) (hS := (hS.sel 8 [6, 0, 0, 0, 0, 0, 0, 0] rfl))) rfl ?_
                rintro _ w ⟨a16, c16, rfl, hS⟩
                replace hS : St g (Own 5 1 (by8 (bs ++ Y15)) a16 c16 :: Sh 5 1 (by8 bs) a c :: Sh 5 1 (by8 Y15) a15 c15 :: cel b2 #[.slice a15 (List.length (by8 Y15)) c15] 68 :: Sh 5 1 (by8 x.bytes) ab cb :: Sh 63 4 (ch4 x.chs) ac cc :: Sh 40 2 (en2 x.ents) ae ce :: cel b1 #[.int .i64 x.err, .int .u64 x.handle, .int .i64 x.value, .bool x.found, .int .i64 x.n, .int .i64 x.ekey, .int .i64 x.eval, .int .i64 x.count, .int .i64 x.sum, .int .i64 x.mn, .int .i64 x.mx, .slice ae (List.length (en2 x.ents)) ce, .slice ac (List.length (ch4 x.chs)) cc, .slice ak (List.length (i64s x.keys)) ck, .slice ab (List.length (by8 x.bytes)) cb] 45 :: Sh 2 1 (i64s x.keys) ak ck :: L) w := hS
                refine WL.r 1 rfl ?_
                refine WL.nil ?_
                refine WC.ret ?_
                refine ⟨[.slice a16 (List.length (by8 (bs ++ Y15))) c16], rfl, ?_⟩
                replace hS := (hS.sel 9 [0, 0, 2, 3, 2, 3] rfl)
                have hy : Y15 = eAn x := by
                  rw [← hY15, hys, fm_all eZ (by omega), ← hY14, ← hY13, ← hY12, ← hY11, ← hY10, ← hY9, ← hY8, ← hY7, ← hY6, ← hY5, ← hY4, ← hY3, ← hY2, ← hY1, eAn]; simp only [List.nil_append, List.append_assoc, i64s_len]
                rw [← hy]; exact ⟨_, _, rfl, hS⟩
end Go.Proofs.Ytofnoopjlmdelaa
