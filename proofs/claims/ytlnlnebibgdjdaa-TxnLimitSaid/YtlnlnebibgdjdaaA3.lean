/-
  The graph: New and Add.
  Conditions: the graph is one.
-/
import Derived.Test.YtlnlnebibgdjdaaA2
import Derived.Test.YtlnlnebibgdjdaaAga
namespace Go.Proofs.Ytlnlnebibgdjdaa
open Go Go.V

theorem new_bad {g w : World} {L : List HP} (cap : Int) (hc : ¬ (1 ≤ cap ∧ cap ≤ 4096)) (hS : St g (L) w) :
    Sp Try.prog 44 [.int .i64 cap] w (fun v w' => v = .tuple #[.pointer none, .int .i64 1] ∧ St g (L) w') := by
  refine Sp.enter Try.func44 rfl (by kernel_rfl) (by kernel_rfl) ?_
  have _ := hc
  refine WC.seq ?_
  refine WC.region ?_
  refine WL.r 2 rfl ?_
  refine WL.nil ?_
  refine WC.seq ?_
  refine WC.seq ?_
  refine WC.region ?_
  refine WL.r 2 rfl ?_
  refine WL.rG 4 rfl (fun j => ?_)
  refine WL.prop 9 rfl (bor (dd _) (dd _)) ?_
  refine WL.nil ?_
  refine WC.ifT rfl (decide_eq_true ((by omega))) ?_
  refine WC.seq ?_
  refine WC.region ?_
  refine WL.r 2 rfl ?_
  refine WL.nil ?_
  refine WC.ret ?_
  refine ⟨[.pointer none, .int .i64 1], ⟨rfl, rfl⟩, ?_⟩
  exact ⟨rfl, hS⟩
theorem new_ok {g w : World} {L : List HP} (cap : Int) (hc : 1 ≤ cap ∧ cap ≤ 4096) (hS : St g (L) w) :
    Sp Try.prog 44 [.int .i64 cap] w (fun v w' => ∃ (p m : Nat), v = .tuple #[.pointer (some ⟨p, 0, none⟩), .int .i64 0] ∧ St g (cel p #[.int .i64 cap, .int .i64 0, .map (some m)] 161 :: blk m (.map (mE (List.map vK [])) 0) :: Shs vF [] :: L) w') := by
  refine Sp.enter Try.func44 rfl (by kernel_rfl) (by kernel_rfl) ?_
  have _ := hc
  refine WC.seq ?_
  refine WC.region ?_
  refine WL.r 2 rfl ?_
  refine WL.nil ?_
  refine WC.seq ?_
  refine WC.seq ?_
  refine WC.region ?_
  refine WL.r 2 rfl ?_
  refine WL.rG 4 rfl (fun j => ?_)
  refine WL.prop 9 rfl (bor (dd _) (dd _)) ?_
  refine WL.nil ?_
  refine WC.ifF rfl (decide_eq_false ((by omega))) ?_
  refine WC.skip ?_
  refine WC.seq ?_
  refine WC.region ?_
  refine WL.r 1 rfl ?_
  refine WL.mkM rfl rfl hS (fun b1 w hS => ?_)
  refine WL.build rfl rfl (cs := [.int .i64 cap, .int .i64 0, .map (some b1)]) zv_161 rfl rfl ?_
  refine WL.box rfl rfl #[.int .i64 cap, .int .i64 0, .map (some b1)] hS rfl rfl (fun b2 w hS => ?_)
  refine WL.r 2 rfl ?_
  refine WL.nil ?_
  refine WC.ret ?_
  replace hS := (hS.shsNil vF).sel 3 [1, 1, 0] rfl
  replace hS : St g (cel b2 #[.int .i64 cap, .int .i64 0, .map (some b1)] 161 :: blk b1 (.map (mE (List.map vK [])) 0) :: Shs vF [] :: L) w := hS
  refine ⟨[.pointer (some ⟨b2, 0, none⟩), .int .i64 0], ⟨rfl, rfl⟩, ?_⟩
  exact ⟨_, _, rfl, hS⟩
theorem add_inv1 {g w : World} {L : List HP} (p m : Nat) (cap last : Int) (xs : List VN) (q : Nat) (ps : List Int) (a : Option Addr) (c : Nat) (hl : 2 < ps.length) (hS : St g (Sh 3 1 (i64s ps) a c :: cel p #[.int .i64 cap, .int .i64 last, .map (some m)] 161 :: blk m (.map (mE (List.map vK xs)) q) :: Shs vF xs :: L) w) :
    Sp Try.prog 60 [.pointer (some ⟨p, 0, none⟩), .slice a (List.length (i64s ps)) c] w (fun v w' => v = .tuple #[.int .i64 0, .int .i64 1] ∧ St g (Sh 3 1 (i64s ps) a c :: cel p #[.int .i64 cap, .int .i64 last, .map (some m)] 161 :: blk m (.map (mE (List.map vK xs)) q) :: Shs vF xs :: L) w') := by
  refine Sp.enter Try.func60 rfl (by kernel_rfl) (by kernel_rfl) ?_
  have _ := hl
  refine WC.seq ?_
  refine WC.region ?_
  refine WL.r 2 rfl ?_
  refine WL.nil ?_
  refine WC.seq ?_
  refine WC.seq ?_
  refine WC.plan [([0, 1, 2, 3, 4, 5, 6, 7, 8, 11, 9, 12, 10, 13, 14, 15, 16], none)] (by kernel_rfl) (by kernel_rfl) ?_
  have hpl := i64s_len ps
  refine WQ.r 4 rfl ?_
  refine WQ.reb 14 (.bool true) (congrArg Value.bool (decide_eq_true ((by omega)))) ?_
  refine WQ.skp rfl rfl rfl rfl ?_
  refine WQ.skp rfl rfl rfl rfl ?_
  refine WQ.skp rfl rfl rfl rfl ?_
  refine WQ.skp rfl rfl rfl rfl ?_
  refine WQ.skU rfl rfl rfl ?_
  refine WQ.skU rfl rfl rfl ?_
  refine WQ.skU rfl rfl rfl ?_
  refine WQ.skU rfl rfl rfl ?_
  refine WQ.skU rfl rfl rfl ?_
  refine WQ.skU rfl rfl rfl ?_
  refine WQ.skU rfl rfl rfl ?_
  refine WQ.skp rfl rfl rfl rfl ?_
  refine WQ.r 1 rfl ?_
  refine WQ.nil ?_
  intro m1
  replace hS := hS.drewN m1; generalize hwm1 : World.drewN _ _ = w at *; clear hwm1
  as_aux_lemma =>
    refine WC.ifT rfl rfl ?_
    refine WC.seq ?_
    refine WC.region ?_
    refine WL.r 2 rfl ?_
    refine WL.nil ?_
    refine WC.ret ?_
    refine ⟨[.int .i64 0, .int .i64 1], ⟨rfl, rfl⟩, ?_⟩
    exact ⟨rfl, hS⟩
theorem add_inv2 {g w : World} {L : List HP} (p m : Nat) (cap last : Int) (xs : List VN) (q : Nat) (x : Int) (a : Option Addr) (c : Nat) (hS : St g (Sh 3 1 (i64s [x, x]) a c :: cel p #[.int .i64 cap, .int .i64 last, .map (some m)] 161 :: blk m (.map (mE (List.map vK xs)) q) :: Shs vF xs :: L) w) :
    Sp Try.prog 60 [.pointer (some ⟨p, 0, none⟩), .slice a (List.length (i64s [x, x])) c] w (fun v w' => v = .tuple #[.int .i64 0, .int .i64 1] ∧ St g (Sh 3 1 (i64s [x, x]) a c :: cel p #[.int .i64 cap, .int .i64 last, .map (some m)] 161 :: blk m (.map (mE (List.map vK xs)) q) :: Shs vF xs :: L) w') := by
  refine Sp.enter Try.func60 rfl (by kernel_rfl) (by kernel_rfl) ?_
  refine WC.seq ?_
  refine WC.region ?_
  refine WL.r 2 rfl ?_
  refine WL.nil ?_
  refine WC.seq ?_
  refine WC.seq ?_
  refine WC.plan [([0, 1, 2, 3, 4, 5, 6, 7, 8, 11, 9, 12, 10, 13, 14, 15, 16], none)] (by kernel_rfl) (by kernel_rfl) ?_
  have hpl : (i64s [x, x]).length = 2 := rfl
  refine WQ.r 4 rfl ?_
  refine WQ.reb 14 (.bool false) (congrArg Value.bool (decide_eq_false ((by omega)))) ?_
  refine WQ.ung rfl rfl rfl ?_
  refine WQ.r 1 rfl ?_
  refine WQ.ung rfl rfl rfl ?_
  refine WQ.r 1 rfl ?_
  refine WQ.ung rfl rfl rfl ?_
  refine WQ.r 1 rfl ?_
  refine WQ.ung rfl rfl rfl ?_
  refine WQ.r 1 rfl ?_
  refine WQ.reb 18 (.bool true) (congrArg Value.bool (decide_eq_true ((by omega)))) ?_
  refine WQ.ung rfl rfl rfl ?_
  refine WQ.r 1 rfl ?_
  refine WQ.ung rfl rfl rfl ?_
  refine WQ.r 1 rfl ?_
  refine WQ.ung rfl rfl rfl ?_
  refine WQ.ix rfl rfl (i := 0) (0) el_33 rfl rfl (by omega) (by omega) (hS.rdS 0 rfl (i64s_at (k := 0) (x := x) rfl)).1 ?_
  refine WQ.ung rfl rfl rfl ?_
  refine WQ.ix rfl rfl (i := 1) (1) el_33 rfl rfl (by omega) (by omega) (hS.rdS 0 rfl (i64s_at (k := 1) (x := x) rfl)).1 ?_
  refine WQ.ung rfl rfl rfl ?_
  refine WQ.run 1 [.int .i64 x] rfl (by exact (hS.rdS 0 rfl (i64s_at (k := 0) (x := x) rfl)).2 0 _ rfl) ?_
  refine WQ.ung rfl rfl rfl ?_
  refine WQ.run 1 [.int .i64 x] rfl (by exact (hS.rdS 0 rfl (i64s_at (k := 1) (x := x) rfl)).2 0 _ rfl) ?_
  refine WQ.ung rfl rfl rfl ?_
  refine WQ.r 1 rfl ?_
  refine WQ.ung rfl rfl rfl ?_
  refine WQ.r 2 rfl ?_
  refine WQ.nil ?_
  intro m1
  replace hS := hS.drewN m1; generalize hwm1 : World.drewN _ _ = w at *; clear hwm1
  as_aux_lemma =>
    refine WC.ifT rfl (decide_eq_true (rfl)) ?_
    refine WC.seq ?_
    refine WC.region ?_
    refine WL.r 2 rfl ?_
    refine WL.nil ?_
    refine WC.ret ?_
    refine ⟨[.int .i64 0, .int .i64 1], ⟨rfl, rfl⟩, ?_⟩
    exact ⟨rfl, hS⟩
theorem add_nf {g w : World} {L : List HP} (p m : Nat) (cap last : Int) (xs : List VN) (q : Nat) (ps : List Int) (a : Option Addr) (c : Nat) (i : Nat) (b : Int) (hu : VUq xs) (hps : okPs ps) (hi : ps[i]? = some b) (hb : liveG xs b = false) (hlt : ∀ j, j < i → ∀ y, ps[j]? = some y → liveG xs y = true) (hS : St g (Sh 3 1 (i64s ps) a c :: cel p #[.int .i64 cap, .int .i64 last, .map (some m)] 161 :: blk m (.map (mE (List.map vK xs)) q) :: Shs vF xs :: L) w) :
    Sp Try.prog 60 [.pointer (some ⟨p, 0, none⟩), .slice a (List.length (i64s ps)) c] w (fun v w' => v = .tuple #[.int .i64 0, .int .i64 4] ∧ St g (Sh 3 1 (i64s ps) a c :: cel p #[.int .i64 cap, .int .i64 last, .map (some m)] 161 :: blk m (.map (mE (List.map vK xs)) q) :: Shs vF xs :: L) w') := by
  refine Sp.enter Try.func60 rfl (by kernel_rfl) (by kernel_rfl) ?_
  have _ := hlt
  have _ := hu
  refine WC.seq ?_
  refine WC.region ?_
  have hpl := i64s_len ps
  have hp2 := hps.1
  refine WL.r 2 rfl ?_
  refine WL.nil ?_
  refine WC.seq ?_
  refine WC.seq ?_
  refine WC.cut [0, 1, 4, 5, 27] (fun vs w => ∃ (t27 : Bool), vs = [.pointer (some ⟨p, 0, none⟩), .slice a (List.length (i64s ps)) c, .int .i64 0, .int .i64 0, .bool t27] ∧ St g (Sh 3 1 (i64s ps) a c :: cel p #[.int .i64 cap, .int .i64 last, .map (some m)] 161 :: blk m (.map (mE (List.map vK xs)) q) :: Shs vF xs :: L) w ∧ (t27 = false)) ?_ ?_
  · refine WC.plan [([0, 1, 2, 3, 4, 5, 6, 7, 8, 11, 9, 12, 10, 13, 14, 15, 16], none)] (by kernel_rfl) (by kernel_rfl) ?_
    refine WQ.r 4 rfl ?_
    refine WQ.reb 14 (.bool false) (congrArg Value.bool (decide_eq_false ((by omega)))) ?_
    refine WQ.ung rfl rfl rfl ?_
    refine WQ.r 1 rfl ?_
    refine WQ.ung rfl rfl rfl ?_
    refine WQ.r 1 rfl ?_
    refine WQ.ung rfl rfl rfl ?_
    refine WQ.r 1 rfl ?_
    refine WQ.ung rfl rfl rfl ?_
    refine WQ.r 1 rfl ?_
    by_cases cg1 : (List.length (i64s ps) : Int) = 2
    · refine WQ.reb 18 (.bool true) (congrArg Value.bool (decide_eq_true cg1)) ?_
      refine WQ.ung rfl rfl rfl ?_
      refine WQ.r 1 rfl ?_
      refine WQ.ung rfl rfl rfl ?_
      refine WQ.r 1 rfl ?_
      refine WQ.ung rfl rfl rfl ?_
      obtain ⟨p0, h0⟩ : ∃ u, ps[0]? = some u := ⟨_, List.getElem?_eq_getElem (by omega)⟩; obtain ⟨p1, h1⟩ : ∃ u, ps[1]? = some u := ⟨_, List.getElem?_eq_getElem (by omega)⟩
      refine WQ.ix rfl rfl (i := 0) (0) el_33 rfl rfl (by omega) (by omega) (hS.rdS 0 rfl (i64s_at h0)).1 ?_
      refine WQ.ung rfl rfl rfl ?_
      refine WQ.ix rfl rfl (i := 1) (1) el_33 rfl rfl (by omega) (by omega) (hS.rdS 0 rfl (i64s_at h1)).1 ?_
      refine WQ.ung rfl rfl rfl ?_
      refine WQ.run 1 [.int .i64 p0] rfl (by exact (hS.rdS 0 rfl (i64s_at h0)).2 0 _ rfl) ?_
      refine WQ.ung rfl rfl rfl ?_
      refine WQ.run 1 [.int .i64 p1] rfl (by exact (hS.rdS 0 rfl (i64s_at h1)).2 0 _ rfl) ?_
      refine WQ.ung rfl rfl rfl ?_
      refine WQ.r 1 rfl ?_
      refine WQ.ung rfl rfl rfl ?_
      refine WQ.r 2 rfl ?_
      refine WQ.nil ?_
      intro m1
      replace hS := hS.drewN m1; generalize hwm1 : World.drewN _ _ = w at *; clear hwm1
      exact ⟨decide (p0 = p1), rfl, hS, (decide_eq_false (okPs_ne hps h0 h1))⟩
    · refine WQ.reb 18 (.bool false) (congrArg Value.bool (decide_eq_false cg1)) ?_
      refine WQ.skp rfl rfl rfl rfl ?_
      refine WQ.skp rfl rfl rfl rfl ?_
      refine WQ.skp rfl rfl rfl rfl ?_
      refine WQ.skp rfl rfl rfl rfl ?_
      refine WQ.skp rfl rfl rfl rfl ?_
      refine WQ.skp rfl rfl rfl rfl ?_
      refine WQ.skp rfl rfl rfl rfl ?_
      refine WQ.ung rfl rfl rfl ?_
      refine WQ.r 2 rfl ?_
      refine WQ.nil ?_
      intro m1
      replace hS := hS.drewN m1; generalize hwm1 : World.drewN _ _ = w at *; clear hwm1
      exact ⟨false, rfl, hS, (rfl)⟩
  clear hS; rintro _ w j ⟨t27, rfl, hS, h27⟩
  refine WC.ifF rfl h27 ?_
  refine WC.skip ?_
  refine WC.seq ?_
  refine WC.seq ?_
  refine WC.region ?_
  have hpl := i64s_len ps; have hil := (List.getElem?_eq_some_iff.1 hi).1
  refine WL.r 3 rfl ?_
  refine WL.nil ?_
  refine WC.block ?_
  refine WC.loop [0, 1, 28, 29, 30] (fun kM vs w => ∃ (k : Nat), vs = [.pointer (some ⟨p, 0, none⟩), .slice a (List.length (i64s ps)) c, .slice a (List.length (i64s ps)) c, .int .i64 (List.length (i64s ps) : Int), .int .i64 (k : Int)] ∧ St g (Sh 3 1 (i64s ps) a c :: cel p #[.int .i64 cap, .int .i64 last, .map (some m)] 161 :: blk m (.map (mE (List.map vK xs)) q) :: Shs vF xs :: L) w ∧ (k ≤ i) ∧ (ps.length - k) = kM) ((List.length ps) - 0) ⟨0, rfl, hS, (Nat.zero_le _), rfl⟩ ?_
  clear hS; rintro _ _ w j ⟨k, rfl, hS, hk, rfl⟩
  refine WC.seq ?_
  refine WC.region ?_
  have hpl := i64s_len ps; have hil := (List.getElem?_eq_some_iff.1 hi).1
  refine WL.r 1 rfl ?_
  refine WL.nil ?_
  as_aux_lemma =>
    refine WC.seq ?_
    refine WC.ifT rfl (decide_eq_true ((by omega))) ?_
    refine WC.skip ?_
    refine WC.seq ?_
    refine WC.block ?_
    refine WC.seq ?_
    refine WC.region ?_
    obtain ⟨z, hz⟩ : ∃ u, ps[k]? = some u := ⟨_, List.getElem?_eq_getElem (by omega)⟩
    refine WL.ix rfl rfl (i := (k : Int)) (k) el_33 rfl rfl (by omega) (by omega) (hS.rdS 0 rfl (i64s_at hz)).1 ?_
    refine WL.run 2 [.int .i64 z] rfl (by exact (hS.rdS 0 rfl (i64s_at hz)).2 0 _ rfl) ?_
    refine WL.nil ?_
    refine WC.seq ?_
    refine WC.region ?_
    refine WL.r 2 rfl ?_
    refine WL.call rfl rfl (live_spec (p := p) (m := m) (cap := cap) (last := last) (xs := xs) (q := q) (n := z) (hu := (by first | assumption | exact (GI.ok (by assumption)).uniq)) (hS := (hS.sel 4 [1, 1, 1, 0] rfl))) rfl ?_
    clear hS; rintro _ w ⟨rfl, hS⟩
    replace hS : St g (cel p #[.int .i64 cap, .int .i64 last, .map (some m)] 161 :: blk m (.map (mE (List.map vK xs)) q) :: Shs vF xs :: Sh 3 1 (i64s ps) a c :: L) w := hS
    refine WL.r 1 rfl ?_
    refine WL.nil ?_
    refine WC.if_ rfl (fun cd1 => ?_) (fun cd1 => ?_)
    · refine WC.seq ?_
      refine WC.region ?_
      refine WL.r 2 rfl ?_
      refine WL.nil ?_
      refine WC.ret ?_
      refine ⟨[.int .i64 0, .int .i64 4], ⟨rfl, rfl⟩, ?_⟩
      replace hS := (hS.sel 4 [3, 0, 0, 0] rfl)
      exact ⟨rfl, hS⟩
    · refine WC.skip ?_
      refine WC.region ?_
      refine WL.r 1 rfl ?_
      refine WL.nw 38 rfl (w64 (by omega)) ?_
      refine WL.r 1 rfl ?_
      refine WL.nil ?_
      exact ⟨_, by omega, k + 1, rfl, (hS.sel 4 [3, 0, 0, 0] rfl), (Nat.lt_of_le_of_ne hk (fun e => by subst e; rw [hi] at hz; cases hz; rw [hb] at cd1; cases cd1)), rfl⟩
theorem add_full {g w : World} {L : List HP} (p m : Nat) (cap last : Int) (xs : List VN) (q : Nat) (ps : List Int) (a : Option Addr) (c : Nat) (hu : VUq xs) (hps : okPs ps) (hlv : ∀ z ∈ ps, liveG xs z = true) (hc : cap ≤ xs.length) (hS : St g (Sh 3 1 (i64s ps) a c :: cel p #[.int .i64 cap, .int .i64 last, .map (some m)] 161 :: blk m (.map (mE (List.map vK xs)) q) :: Shs vF xs :: L) w) :
    Sp Try.prog 60 [.pointer (some ⟨p, 0, none⟩), .slice a (List.length (i64s ps)) c] w (fun v w' => v = .tuple #[.int .i64 0, .int .i64 2] ∧ St g (Sh 3 1 (i64s ps) a c :: cel p #[.int .i64 cap, .int .i64 last, .map (some m)] 161 :: blk m (.map (mE (List.map vK xs)) q) :: Shs vF xs :: L) w') := by
  refine Sp.enter Try.func60 rfl (by kernel_rfl) (by kernel_rfl) ?_
  have _ := hc
  have _ := hu
  refine WC.seq ?_
  refine WC.region ?_
  have hpl := i64s_len ps
  have hp2 := hps.1
  refine WL.r 2 rfl ?_
  refine WL.nil ?_
  refine WC.seq ?_
  refine WC.seq ?_
  refine WC.cut [0, 1, 4, 5, 27] (fun vs w => ∃ (t27 : Bool), vs = [.pointer (some ⟨p, 0, none⟩), .slice a (List.length (i64s ps)) c, .int .i64 0, .int .i64 0, .bool t27] ∧ St g (Sh 3 1 (i64s ps) a c :: cel p #[.int .i64 cap, .int .i64 last, .map (some m)] 161 :: blk m (.map (mE (List.map vK xs)) q) :: Shs vF xs :: L) w ∧ (t27 = false)) ?_ ?_
  · refine WC.plan [([0, 1, 2, 3, 4, 5, 6, 7, 8, 11, 9, 12, 10, 13, 14, 15, 16], none)] (by kernel_rfl) (by kernel_rfl) ?_
    refine WQ.r 4 rfl ?_
    refine WQ.reb 14 (.bool false) (congrArg Value.bool (decide_eq_false ((by omega)))) ?_
    refine WQ.ung rfl rfl rfl ?_
    refine WQ.r 1 rfl ?_
    refine WQ.ung rfl rfl rfl ?_
    refine WQ.r 1 rfl ?_
    refine WQ.ung rfl rfl rfl ?_
    refine WQ.r 1 rfl ?_
    refine WQ.ung rfl rfl rfl ?_
    refine WQ.r 1 rfl ?_
    by_cases cg1 : (List.length (i64s ps) : Int) = 2
    · refine WQ.reb 18 (.bool true) (congrArg Value.bool (decide_eq_true cg1)) ?_
      refine WQ.ung rfl rfl rfl ?_
      refine WQ.r 1 rfl ?_
      refine WQ.ung rfl rfl rfl ?_
      refine WQ.r 1 rfl ?_
      refine WQ.ung rfl rfl rfl ?_
      obtain ⟨p0, h0⟩ : ∃ u, ps[0]? = some u := ⟨_, List.getElem?_eq_getElem (by omega)⟩; obtain ⟨p1, h1⟩ : ∃ u, ps[1]? = some u := ⟨_, List.getElem?_eq_getElem (by omega)⟩
      refine WQ.ix rfl rfl (i := 0) (0) el_33 rfl rfl (by omega) (by omega) (hS.rdS 0 rfl (i64s_at h0)).1 ?_
      refine WQ.ung rfl rfl rfl ?_
      refine WQ.ix rfl rfl (i := 1) (1) el_33 rfl rfl (by omega) (by omega) (hS.rdS 0 rfl (i64s_at h1)).1 ?_
      refine WQ.ung rfl rfl rfl ?_
      refine WQ.run 1 [.int .i64 p0] rfl (by exact (hS.rdS 0 rfl (i64s_at h0)).2 0 _ rfl) ?_
      refine WQ.ung rfl rfl rfl ?_
      refine WQ.run 1 [.int .i64 p1] rfl (by exact (hS.rdS 0 rfl (i64s_at h1)).2 0 _ rfl) ?_
      refine WQ.ung rfl rfl rfl ?_
      refine WQ.r 1 rfl ?_
      refine WQ.ung rfl rfl rfl ?_
      refine WQ.r 2 rfl ?_
      refine WQ.nil ?_
      intro m1
      replace hS := hS.drewN m1; generalize hwm1 : World.drewN _ _ = w at *; clear hwm1
      exact ⟨decide (p0 = p1), rfl, hS, (decide_eq_false (okPs_ne hps h0 h1))⟩
    · refine WQ.reb 18 (.bool false) (congrArg Value.bool (decide_eq_false cg1)) ?_
      refine WQ.skp rfl rfl rfl rfl ?_
      refine WQ.skp rfl rfl rfl rfl ?_
      refine WQ.skp rfl rfl rfl rfl ?_
      refine WQ.skp rfl rfl rfl rfl ?_
      refine WQ.skp rfl rfl rfl rfl ?_
      refine WQ.skp rfl rfl rfl rfl ?_
      refine WQ.skp rfl rfl rfl rfl ?_
      refine WQ.ung rfl rfl rfl ?_
      refine WQ.r 2 rfl ?_
      refine WQ.nil ?_
      intro m1
      replace hS := hS.drewN m1; generalize hwm1 : World.drewN _ _ = w at *; clear hwm1
      exact ⟨false, rfl, hS, (rfl)⟩
  clear hS; rintro _ w j ⟨t27, rfl, hS, h27⟩
  refine WC.ifF rfl h27 ?_
  refine WC.skip ?_
  refine WC.seq ?_
  refine WC.seq ?_
  refine WC.region ?_
  have hpl := i64s_len ps
  refine WL.r 3 rfl ?_
  refine WL.nil ?_
  refine WC.block ?_
  refine WC.loop [0, 1, 28, 29, 30] (fun kM vs w => ∃ (k : Nat), vs = [.pointer (some ⟨p, 0, none⟩), .slice a (List.length (i64s ps)) c, .slice a (List.length (i64s ps)) c, .int .i64 (List.length (i64s ps) : Int), .int .i64 (k : Int)] ∧ St g (Sh 3 1 (i64s ps) a c :: cel p #[.int .i64 cap, .int .i64 last, .map (some m)] 161 :: blk m (.map (mE (List.map vK xs)) q) :: Shs vF xs :: L) w ∧ (k ≤ ps.length) ∧ (ps.length - k) = kM) ((List.length ps) - 0) ⟨0, rfl, hS, (Nat.zero_le _), rfl⟩ ?_
  clear hS; rintro _ _ w j ⟨k, rfl, hS, hk, rfl⟩
  refine WC.seq ?_
  refine WC.region ?_
  have hpl := i64s_len ps
  refine WL.r 1 rfl ?_
  refine WL.nil ?_
  as_aux_lemma =>
    refine WC.seq ?_
    refine WC.ifP rfl (fun cd1 => ?_) (fun cd1 => ?_)
    · refine WC.skip ?_
      refine WC.seq ?_
      refine WC.block ?_
      refine WC.seq ?_
      refine WC.region ?_
      obtain ⟨z, hz⟩ : ∃ u, ps[k]? = some u := ⟨_, List.getElem?_eq_getElem (by omega)⟩
      refine WL.ix rfl rfl (i := (k : Int)) (k) el_33 rfl rfl (by omega) (by omega) (hS.rdS 0 rfl (i64s_at hz)).1 ?_
      refine WL.run 2 [.int .i64 z] rfl (by exact (hS.rdS 0 rfl (i64s_at hz)).2 0 _ rfl) ?_
      refine WL.nil ?_
      refine WC.seq ?_
      refine WC.region ?_
      refine WL.r 2 rfl ?_
      refine WL.call rfl rfl (live_spec (p := p) (m := m) (cap := cap) (last := last) (xs := xs) (q := q) (n := z) (hu := (by first | assumption | exact (GI.ok (by assumption)).uniq)) (hS := (hS.sel 4 [1, 1, 1, 0] rfl))) rfl ?_
      clear hS; rintro _ w ⟨rfl, hS⟩
      replace hS : St g (cel p #[.int .i64 cap, .int .i64 last, .map (some m)] 161 :: blk m (.map (mE (List.map vK xs)) q) :: Shs vF xs :: Sh 3 1 (i64s ps) a c :: L) w := hS
      refine WL.r 1 rfl ?_
      refine WL.nil ?_
      refine WC.ifF rfl (by rw [hlv z (List.mem_of_getElem? hz)]; rfl) ?_
      refine WC.skip ?_
      refine WC.region ?_
      refine WL.r 1 rfl ?_
      refine WL.nw 38 rfl (w64 (by omega)) ?_
      refine WL.r 1 rfl ?_
      refine WL.nil ?_
      exact ⟨_, by omega, k + 1, rfl, (hS.sel 4 [3, 0, 0, 0] rfl), (by omega), rfl⟩
    · refine WC.exit ?_
      refine WC.seq ?_
      refine WC.seq ?_
      refine WC.plan [([0, 5, 1, 6, 2, 7, 3, 8, 4, 9], none)] (by kernel_rfl) (by kernel_rfl) ?_
      have hms := mE_size (List.map vK xs); have hms2 : (List.map vK xs).length = xs.length := List.length_map _
      refine WQ.run 8 [.map (some m), .int .i64 cap] rfl (by exact ⟨hS.ld 1 rfl rfl, hS.ld 1 rfl rfl⟩) ?_
      refine WQ.lenM rfl rfl mt_159 2 hS rfl rfl ?_
      refine WQ.r 1 rfl ?_
      refine WQ.nil ?_
      intro m1
      replace hS := hS.drewN m1; generalize hwm1 : World.drewN _ _ = w at *; clear hwm1
      refine WC.ifT rfl (decide_eq_true ((by omega))) ?_
      refine WC.seq ?_
      refine WC.region ?_
      refine WL.r 2 rfl ?_
      refine WL.nil ?_
      refine WC.ret ?_
      refine ⟨[.int .i64 0, .int .i64 2], ⟨rfl, rfl⟩, ?_⟩
      exact ⟨rfl, hS⟩
set_option maxHeartbeats 1000000 in
set_option maxRecDepth 8192 in
theorem add_ok {g w : World} {L : List HP} (p m : Nat) (cap last : Int) (xs : List VN) (q : Nat) (ps : List Int) (a : Option Addr) (c : Nat) (hG : GOk xs q) (hps : okPs ps) (hlv : ∀ z ∈ ps, liveG xs z = true) (hc : (xs.length : Int) < cap) (hc2 : cap ≤ 4096) (hla : 0 ≤ last ∧ last < 1000000000) (hlt : ∀ x ∈ xs, x.n ≤ last) (hS : St g (Sh 3 1 (i64s ps) a c :: cel p #[.int .i64 cap, .int .i64 last, .map (some m)] 161 :: blk m (.map (mE (List.map vK xs)) q) :: Shs vF xs :: L) w) :
    Sp Try.prog 60 [.pointer (some ⟨p, 0, none⟩), .slice a (List.length (i64s ps)) c] w (fun v w' => ∃ (vn : VN), v = .tuple #[.int .i64 (last + 1), .int .i64 0] ∧ St g (Sh 3 1 (i64s ps) a c :: cel p #[.int .i64 cap, .int .i64 (last + 1), .map (some m)] 161 :: blk m (.map (mE (List.map vK (xs ++ [vn]))) (q + 1)) :: Shs vF (xs ++ [vn]) :: L) w' ∧ (vn.n = last + 1 ∧ vn.live = true ∧ vn.born = q) ∧ (Asc vn.ab ∧ ∀ z, z ∈ vn.ab ↔ z ∈ newAb xs (last + 1) ps)) := by
  refine Sp.enter Try.func60 rfl (by kernel_rfl) (by kernel_rfl) ?_
  have _ := hla
  have _ := hc2
  have _ := hc
  refine WC.seq ?_
  refine WC.region ?_
  have hpl := i64s_len ps
  have hp2 := hps.1
  refine WL.r 2 rfl ?_
  refine WL.nil ?_
  refine WC.seq ?_
  refine WC.seq ?_
  refine WC.cut [0, 1, 4, 5, 27] (fun vs w => ∃ (t27 : Bool), vs = [.pointer (some ⟨p, 0, none⟩), .slice a (List.length (i64s ps)) c, .int .i64 0, .int .i64 0, .bool t27] ∧ St g (Sh 3 1 (i64s ps) a c :: cel p #[.int .i64 cap, .int .i64 last, .map (some m)] 161 :: blk m (.map (mE (List.map vK xs)) q) :: Shs vF xs :: L) w ∧ (t27 = false)) ?_ ?_
  · refine WC.plan [([0, 1, 2, 3, 4, 5, 6, 7, 8, 11, 9, 12, 10, 13, 14, 15, 16], none)] (by kernel_rfl) (by kernel_rfl) ?_
    refine WQ.r 4 rfl ?_
    refine WQ.reb 14 (.bool false) (congrArg Value.bool (decide_eq_false ((by omega)))) ?_
    refine WQ.ung rfl rfl rfl ?_
    refine WQ.r 1 rfl ?_
    refine WQ.ung rfl rfl rfl ?_
    refine WQ.r 1 rfl ?_
    refine WQ.ung rfl rfl rfl ?_
    refine WQ.r 1 rfl ?_
    refine WQ.ung rfl rfl rfl ?_
    refine WQ.r 1 rfl ?_
    by_cases cg1 : (List.length (i64s ps) : Int) = 2
    · refine WQ.reb 18 (.bool true) (congrArg Value.bool (decide_eq_true cg1)) ?_
      refine WQ.ung rfl rfl rfl ?_
      refine WQ.r 1 rfl ?_
      refine WQ.ung rfl rfl rfl ?_
      refine WQ.r 1 rfl ?_
      refine WQ.ung rfl rfl rfl ?_
      obtain ⟨p0, h0⟩ : ∃ u, ps[0]? = some u := ⟨_, List.getElem?_eq_getElem (by omega)⟩; obtain ⟨p1, h1⟩ : ∃ u, ps[1]? = some u := ⟨_, List.getElem?_eq_getElem (by omega)⟩
      refine WQ.ix rfl rfl (i := 0) (0) el_33 rfl rfl (by omega) (by omega) (hS.rdS 0 rfl (i64s_at h0)).1 ?_
      refine WQ.ung rfl rfl rfl ?_
      refine WQ.ix rfl rfl (i := 1) (1) el_33 rfl rfl (by omega) (by omega) (hS.rdS 0 rfl (i64s_at h1)).1 ?_
      refine WQ.ung rfl rfl rfl ?_
      refine WQ.run 1 [.int .i64 p0] rfl (by exact (hS.rdS 0 rfl (i64s_at h0)).2 0 _ rfl) ?_
      refine WQ.ung rfl rfl rfl ?_
      refine WQ.run 1 [.int .i64 p1] rfl (by exact (hS.rdS 0 rfl (i64s_at h1)).2 0 _ rfl) ?_
      refine WQ.ung rfl rfl rfl ?_
      refine WQ.r 1 rfl ?_
      refine WQ.ung rfl rfl rfl ?_
      refine WQ.r 2 rfl ?_
      refine WQ.nil ?_
      intro m1
      replace hS := hS.drewN m1; generalize hwm1 : World.drewN _ _ = w at *; clear hwm1
      exact ⟨decide (p0 = p1), rfl, hS, (decide_eq_false (okPs_ne hps h0 h1))⟩
    · refine WQ.reb 18 (.bool false) (congrArg Value.bool (decide_eq_false cg1)) ?_
      refine WQ.skp rfl rfl rfl rfl ?_
      refine WQ.skp rfl rfl rfl rfl ?_
      refine WQ.skp rfl rfl rfl rfl ?_
      refine WQ.skp rfl rfl rfl rfl ?_
      refine WQ.skp rfl rfl rfl rfl ?_
      refine WQ.skp rfl rfl rfl rfl ?_
      refine WQ.skp rfl rfl rfl rfl ?_
      refine WQ.ung rfl rfl rfl ?_
      refine WQ.r 2 rfl ?_
      refine WQ.nil ?_
      intro m1
      replace hS := hS.drewN m1; generalize hwm1 : World.drewN _ _ = w at *; clear hwm1
      exact ⟨false, rfl, hS, (rfl)⟩
  clear hS; rintro _ w j ⟨t27, rfl, hS, h27⟩
  refine WC.ifF rfl h27 ?_
  refine WC.skip ?_
  refine WC.seq ?_
  refine WC.seq ?_
  refine WC.region ?_
  have hu := hG.uniq
  have hpl := i64s_len ps
  refine WL.r 3 rfl ?_
  refine WL.nil ?_
  refine WC.block ?_
  refine WC.loop [0, 1, 28, 29, 30] (fun kM vs w => ∃ (k : Nat), vs = [.pointer (some ⟨p, 0, none⟩), .slice a (List.length (i64s ps)) c, .slice a (List.length (i64s ps)) c, .int .i64 (List.length (i64s ps) : Int), .int .i64 (k : Int)] ∧ St g (Sh 3 1 (i64s ps) a c :: cel p #[.int .i64 cap, .int .i64 last, .map (some m)] 161 :: blk m (.map (mE (List.map vK xs)) q) :: Shs vF xs :: L) w ∧ (k ≤ ps.length) ∧ (ps.length - k) = kM) ((List.length ps) - 0) ⟨0, rfl, hS, (Nat.zero_le _), rfl⟩ ?_
  clear hS; rintro _ _ w j ⟨k, rfl, hS, hk, rfl⟩
  refine WC.seq ?_
  refine WC.region ?_
  have hu := hG.uniq
  have hpl := i64s_len ps
  refine WL.r 1 rfl ?_
  refine WL.nil ?_
  as_aux_lemma =>
    refine WC.seq ?_
    refine WC.ifP rfl (fun cd1 => ?_) (fun cd1 => ?_)
    · refine WC.skip ?_
      refine WC.seq ?_
      refine WC.block ?_
      refine WC.seq ?_
      refine WC.region ?_
      obtain ⟨z, hz⟩ : ∃ u, ps[k]? = some u := ⟨_, List.getElem?_eq_getElem (by omega)⟩
      refine WL.ix rfl rfl (i := (k : Int)) (k) el_33 rfl rfl (by omega) (by omega) (hS.rdS 0 rfl (i64s_at hz)).1 ?_
      refine WL.run 2 [.int .i64 z] rfl (by exact (hS.rdS 0 rfl (i64s_at hz)).2 0 _ rfl) ?_
      refine WL.nil ?_
      refine WC.seq ?_
      refine WC.region ?_
      refine WL.r 2 rfl ?_
      refine WL.call rfl rfl (live_spec (p := p) (m := m) (cap := cap) (last := last) (xs := xs) (q := q) (n := z) (hu := (by first | assumption | exact (GI.ok (by assumption)).uniq)) (hS := (hS.sel 4 [1, 1, 1, 0] rfl))) rfl ?_
      clear hS; rintro _ w ⟨rfl, hS⟩
      replace hS : St g (cel p #[.int .i64 cap, .int .i64 last, .map (some m)] 161 :: blk m (.map (mE (List.map vK xs)) q) :: Shs vF xs :: Sh 3 1 (i64s ps) a c :: L) w := hS
      refine WL.r 1 rfl ?_
      refine WL.nil ?_
      refine WC.ifF rfl (by rw [hlv z (List.mem_of_getElem? hz)]; rfl) ?_
      refine WC.skip ?_
      refine WC.region ?_
      refine WL.r 1 rfl ?_
      refine WL.nw 38 rfl (w64 (by omega)) ?_
      refine WL.r 1 rfl ?_
      refine WL.nil ?_
      exact ⟨_, by omega, k + 1, rfl, (hS.sel 4 [3, 0, 0, 0] rfl), (by omega), rfl⟩
    · refine WC.exit ?_
      refine WC.seq ?_
      refine WC.seq ?_
      refine WC.plan [([0, 5, 1, 6, 2, 7, 3, 8, 4, 9], none)] (by kernel_rfl) (by kernel_rfl) ?_
      have hms := mE_size (List.map vK xs); have hms2 : (List.map vK xs).length = xs.length := List.length_map _
      refine WQ.run 8 [.map (some m), .int .i64 cap] rfl (by exact ⟨hS.ld 1 rfl rfl, hS.ld 1 rfl rfl⟩) ?_
      refine WQ.lenM rfl rfl mt_159 2 hS rfl rfl ?_
      refine WQ.r 1 rfl ?_
      refine WQ.nil ?_
      intro m1
      replace hS := hS.drewN m1; generalize hwm1 : World.drewN _ _ = w at *; clear hwm1
      refine WC.ifF rfl (decide_eq_false ((by omega))) ?_
      refine WC.skip ?_
      refine WC.seq ?_
      refine WC.region ?_
      refine WL.run 5 [.int .i64 last] rfl (by exact hS.ld 1 rfl rfl) ?_
      refine WL.nw 53 rfl (w64 (by omega)) ?_
      refine WL.r 2 rfl ?_
      refine WL.st rfl rfl rfl 1 hS rfl rfl rfl rfl rfl rfl (fun w hS => ?_)
      replace hS : St g (Sh 3 1 (i64s ps) a c :: cel p #[.int .i64 cap, .int .i64 (last + 1), .map (some m)] 161 :: blk m (.map (mE (List.map vK xs)) q) :: Shs vF xs :: L) w := hS
      refine WL.nil ?_
      refine WC.seq ?_
      refine WC.region ?_
      refine WL.run 4 [.int .i64 (last + 1)] rfl (by exact hS.ld 1 rfl rfl) ?_
      refine WL.lit rfl rfl (i64s [last + 1]) el_33 hS (by exact ⟨rfl, rfl⟩) (i64s_ok _) rfl (by decide) (fun b1 w hS => ?_)
      refine WL.r 1 rfl ?_
      refine WL.nil ?_
      as_aux_lemma =>
        refine WC.seq ?_
        refine WC.seq ?_
        refine WC.region ?_
        refine WL.r 3 rfl ?_
        refine WL.nil ?_
        refine WC.block ?_
        refine WC.loop [0, 8, 61, 62, 63] (fun kM vs w => ∃ (k : Nat) (acc : List Int) (u : Option Addr) (d : Nat), vs = [.pointer (some ⟨p, 0, none⟩), .slice u (List.length (i64s acc)) d, .slice a (List.length (i64s ps)) c, .int .i64 (List.length (i64s ps) : Int), .int .i64 (k : Int)] ∧ St g (Own 3 1 (i64s acc) u d :: Sh 3 1 (i64s ps) a c :: cel p #[.int .i64 cap, .int .i64 (last + 1), .map (some m)] 161 :: blk m (.map (mE (List.map vK xs)) q) :: Shs vF xs :: L) w ∧ (k ≤ ps.length) ∧ (acc = newAb xs (last + 1) (List.take k ps)) ∧ (acc.length ≤ 1 + 4096 * k) ∧ (ps.length - k) = kM) ((List.length ps) - 0) ⟨0, [last + 1], some ⟨b1, 0, none⟩, 1, rfl, hS, (Nat.zero_le _), (rfl), (Nat.le_refl _), rfl⟩ ?_
        clear hS; rintro _ _ w j ⟨k, acc, u, d, rfl, hS, hk, ha, hal, rfl⟩
        refine WC.seq ?_
        refine WC.region ?_
        refine WL.r 1 rfl ?_
        refine WL.nil ?_
        refine WC.seq ?_
        refine WC.ifP rfl (fun cd2 => ?_) (fun cd2 => ?_)
        · refine WC.skip ?_
          refine WC.seq ?_
          refine WC.block ?_
          refine WC.seq ?_
          refine WC.region ?_
          obtain ⟨z, hz⟩ : ∃ u, ps[k]? = some u := ⟨_, List.getElem?_eq_getElem (by omega)⟩; obtain ⟨j, x, hx, hn, _, habx⟩ := live_ix (hlv z (List.mem_of_getElem? hz)); have hxl := hG.len (List.mem_of_getElem? hx); have hnum := hG.num; have hacl := i64s_len acc; have hxal := i64s_len x.ab
          refine WL.ix rfl rfl (i := (k : Int)) (k) el_33 rfl rfl (by omega) (by omega) (hS.rdS 1 rfl (i64s_at hz)).1 ?_
          refine WL.run 2 [.int .i64 z] rfl (by exact (hS.rdS 1 rfl (i64s_at hz)).2 0 _ rfl) ?_
          refine WL.nil ?_
          refine WC.region ?_
          replace hS : St g (Sh 3 1 (i64s x.ab) x.a x.c :: Own 3 1 (i64s acc) u d :: Sh 3 1 (i64s ps) a c :: cel p #[.int .i64 cap, .int .i64 (last + 1), .map (some m)] 161 :: blk m (.map (mE (List.map vK xs)) q) :: Shs vF xs :: L) w := hS.shsGet 4 rfl (List.mem_of_getElem? hx)
          refine WL.run 6 [.map (some m)] rfl (by exact hS.ld 3 rfl rfl) ?_
          refine WL.lk rfl rfl mt_159 4 hS rfl rfl rfl (by first | trivial | rfl) (r := some (j, .agg #[.bool x.live, .slice x.a (i64s x.ab).length x.c])) (hn ▸ v_in hx hG.uniq) rfl ?_
          refine WL.r 1 rfl ?_
          refine WL.app rfl rfl 1 (i64s (acc ++ x.ab)) el_33 hS rfl (hS.srcS 0 rfl) (i64s_app _ _).symm (Rm.of (by first | omega | (simp <;> omega)) (by decide)) rfl rfl (fun a1 c1 w hS => ?_)
          replace hS : St g (Sh 3 1 (i64s x.ab) x.a x.c :: Own 3 1 (i64s (acc ++ x.ab)) a1 c1 :: Sh 3 1 (i64s ps) a c :: cel p #[.int .i64 cap, .int .i64 (last + 1), .map (some m)] 161 :: blk m (.map (mE (List.map vK xs)) q) :: Shs vF xs :: L) w := hS
          refine WL.r 1 rfl ?_
          refine WL.nil ?_
          as_aux_lemma =>
            refine WC.region ?_
            refine WL.r 1 rfl ?_
            refine WL.nw 76 rfl (w64 (by omega)) ?_
            refine WL.r 1 rfl ?_
            refine WL.nil ?_
            exact ⟨_, by omega, k + 1, acc ++ x.ab, a1, c1, rfl, (hS.sel 1 [] rfl), (by omega), (by rw [ha, ← habx]; exact newAb_snoc hz), (by rw [List.length_append]; omega), rfl⟩
        · refine WC.exit ?_
          refine WC.seq ?_
          refine WC.region ?_
          refine WL.r 1 rfl ?_
          refine WL.call rfl rfl (sort_spec (ls := acc) (ss := srtI acc) (a := u) (c := d) (hne := (by rw [ha]; simp [newAb])) (hl := (by omega)) (hp := (srtI_perm acc)) (hs := (srtI_le acc)) (hS := hS)) rfl ?_
          clear hS; rintro _ w ⟨rfl, hS⟩
          replace hS : St g (Own 3 1 (i64s (srtI acc)) u d :: Sh 3 1 (i64s ps) a c :: cel p #[.int .i64 cap, .int .i64 (last + 1), .map (some m)] 161 :: blk m (.map (mE (List.map vK xs)) q) :: Shs vF xs :: L) w := hS
          refine WL.nil ?_
          refine WC.seq ?_
          refine WC.plan [([0, 4, 8, 1, 5, 2, 6, 3, 7], some (9, [0, 1, 2, 3, 4, 5, 6, 7])), ([], some (10, [0, 1, 2, 3, 4, 5, 6, 7])), ([], some (11, []))] (by kernel_rfl) (by kernel_rfl) ?_
          refine WQ.reb 8 (.slice u (i64s (srtI acc)).length d) (congrArg (fun m => Value.slice u m d) (by rw [i64s_len, i64s_len]; exact (srtI_perm acc).length_eq.symm)) ?_
          refine WQ.run 9 [.map (some m), .int .i64 (last + 1)] rfl (by exact ⟨hS.ld 2 rfl rfl, hS.ld 2 rfl rfl⟩) ?_
          refine WQ.nil ?_
          intro m2
          replace hS := hS.drewN m2; generalize hwm2 : World.drewN _ _ = w at *; clear hwm2
          refine WL.call rfl rfl (compact_spec (ls := srtI acc) (a := u) (c := d) (hne := (fun e => by have h9 := (srtI_perm acc).length_eq; rw [e, ha] at h9; simp [newAb] at h9)) (hl := (by rw [(srtI_perm acc).length_eq]; omega)) (hS := hS)) rfl ?_
          clear hS; rintro _ w ⟨rfl, hS⟩
          replace hS : St g (Own 3 1 (i64s (Lib.compact (srtI acc))) u d :: Sh 3 1 (i64s ps) a c :: cel p #[.int .i64 cap, .int .i64 (last + 1), .map (some m)] 161 :: blk m (.map (mE (List.map vK xs)) q) :: Shs vF xs :: L) w := hS
          refine WL.nil ?_
          refine ⟨by exact ⟨RQ.pure rfl rfl rfl rfl, RQ.pure rfl rfl rfl rfl, RQ.pure rfl rfl rfl rfl, RQ.load rfl rfl rfl rfl (hS.ld 2 rfl rfl), RQ.pure rfl rfl rfl rfl, RQ.pure rfl rfl rfl rfl, RQ.pure rfl rfl rfl rfl, RQ.load rfl rfl rfl rfl (hS.ld 2 rfl rfl)⟩, ?_⟩
          refine WQ.nil ?_
          intro m3
          replace hS := hS.drewN m3; generalize hwm3 : World.drewN _ _ = w at *; clear hwm3
          refine WL.build rfl rfl (cs := [.bool true, .slice u (List.length (i64s (Lib.compact (srtI acc)))) d]) zv_167 rfl rfl ?_
          refine WL.nil ?_
          refine ⟨by exact ⟨RQ.pure rfl rfl rfl rfl, RQ.pure rfl rfl rfl rfl, RQ.pure rfl rfl rfl rfl, RQ.load rfl rfl rfl rfl (hS.ld 2 rfl rfl), RQ.pure rfl rfl rfl rfl, RQ.pure rfl rfl rfl rfl, RQ.pure rfl rfl rfl rfl, RQ.load rfl rfl rfl rfl (hS.ld 2 rfl rfl)⟩, ?_⟩
          refine WQ.nil ?_
          intro m4
          replace hS := hS.drewN m4; generalize hwm4 : World.drewN _ _ = w at *; clear hwm4
          refine WL.muN rfl rfl rfl mt_159 3 hS rfl rfl rfl rfl (by first | trivial | rfl) (v_out (fun x hx e => by have h9 := hlt x hx; omega)) (fun w hS => ?_)
          replace hS : St g (Own 3 1 (i64s (Lib.compact (srtI acc))) u d :: Sh 3 1 (i64s ps) a c :: cel p #[.int .i64 cap, .int .i64 (last + 1), .map (some m)] 161 :: blk m (.map (mE ((List.map vK xs) ++ [⟨.int .i64 (last + 1), .agg #[.bool true, .slice u (List.length (i64s (Lib.compact (srtI acc)))) d], q⟩])) (q + 1)) :: Shs vF xs :: L) w := hS
          refine WL.nil ?_
          refine ⟨by exact trivial, ?_⟩
          intro m5
          replace hS := hS.drewN m5; generalize hwm5 : World.drewN _ _ = w at *; clear hwm5
          as_aux_lemma =>
            refine WC.seq ?_
            refine WC.region ?_
            refine WL.run 6 [.int .i64 (last + 1)] rfl (by exact hS.ld 2 rfl rfl) ?_
            refine WL.nil ?_
            refine WC.ret ?_
            have hm : List.map vK xs ++ [(.int .i64 (last + 1), .agg #[.bool true, .slice u (i64s (Lib.compact (srtI acc))).length d], q)] = List.map vK (xs ++ [(VN.mk (last + 1) true (Lib.compact (srtI acc)) u d q)]) := by simp [vK, vV]
            rw [hm] at hS
            replace hS := (St.shsSub (zs' := xs ++ [(VN.mk (last + 1) true (Lib.compact (srtI acc)) u d q)]) (St.shsCons (hS.share.sel 5 [4, 0, 0, 0, 0] rfl) (z := (VN.mk (last + 1) true (Lib.compact (srtI acc)) u d q)) (vF_sh _) [0] rfl) (fun z hz => snoc_mem hz)).sel 5 [2, 2, 2, 0] rfl
            replace hS : St g (Sh 3 1 (i64s ps) a c :: cel p #[.int .i64 cap, .int .i64 (last + 1), .map (some m)] 161 :: blk m (.map (mE (List.map vK (xs ++ [VN.mk (last + 1) true (Lib.compact (srtI acc)) u d q]))) (q + 1)) :: Shs vF (xs ++ [VN.mk (last + 1) true (Lib.compact (srtI acc)) u d q]) :: L) w := hS
            refine ⟨[.int .i64 (last + 1), .int .i64 0], ⟨rfl, rfl⟩, ?_⟩
            exact ⟨_, rfl, hS, ⟨rfl, rfl, rfl⟩, absr_asc acc, fun z => by
            have h9 := absr_mem acc z
            rw [ha, List.take_of_length_le (by omega)] at h9
            rw [ha, List.take_of_length_le (by omega)]; exact h9⟩
end Go.Proofs.Ytlnlnebibgdjdaa
