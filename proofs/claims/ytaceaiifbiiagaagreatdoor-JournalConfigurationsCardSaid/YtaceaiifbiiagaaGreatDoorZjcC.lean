/-
  What the proof of Jjc stands on, part 3.
  Conditions: none.
-/
import Derived.Test.YtaceaiifbiiagaaGreatDoorZjcB
/-! ## A3 -/
namespace Go.Proofs.YtaceaiifbiiagaaGreatDoor
open Go Go.V
set_option maxRecDepth 8192 in
theorem new_ok {g w : World} {L : List HP} (cap : Int) (hc : 1 ≤ cap ∧ cap ≤ 4096) (hS : St g (L) w) :
    Sp Tryz.prog 43 [.int .i64 cap] w (fun v w' => ∃ (p m : Nat), v = .tuple #[.pointer (some ⟨p, 0, none⟩), .int .i64 0] ∧ St g (cel p #[.int .i64 cap, .int .i64 0, .map (some m)] 207 :: blk m (.map (mE (List.map vK [])) 0) :: Shs vF [] :: L) w') := by
  refine Sp.enter Tryz.func43 rfl (by kernel_rfl) (by kernel_rfl) ?_
  have _ := hc
  refine WC.seq <| WC.region <| WL.r 2 rfl <| WL.nil <| WC.seq <| WC.seq <| WC.region <| WL.r 2 rfl <| WL.rG 4 rfl (fun j => ?_)
  refine WL.prop 9 rfl (bor (dd _) (dd _)) <| WL.nil <| WC.ifF rfl (decide_eq_false ((by omega))) ?_
  refine WC.skip <| WC.seq <| WC.region <| WL.r 1 rfl <| WL.mkM rfl rfl hS (fun b1 w hS => ?_)
  refine WL.build rfl rfl (cs := [.int .i64 cap, .int .i64 0, .map (some b1)]) zv_207 rfl rfl <| WL.box rfl rfl #[.int .i64 cap, .int .i64 0, .map (some b1)] hS rfl rfl (fun b2 w hS => ?_)
  refine WL.r 2 rfl <| WL.nil <| WC.ret ?_
  replace hS := (hS.shsNil vF).sel 3 [1, 1, 0] rfl
  replace hS : St g (cel b2 #[.int .i64 cap, .int .i64 0, .map (some b1)] 207 :: blk b1 (.map (mE (List.map vK [])) 0) :: Shs vF [] :: L) w := hS
  refine ⟨[.pointer (some ⟨b2, 0, none⟩), .int .i64 0], ⟨rfl, rfl⟩, ?_⟩
  exact ⟨_, _, rfl, hS⟩
set_option maxRecDepth 8192 in
theorem add_inv1 {g w : World} {L : List HP} (p m : Nat) (cap last : Int) (xs : List VN) (q : Nat) (ps : List Int) (a : Option Addr) (c : Nat) (hl : 2 < ps.length) (hS : St g (Sh 3 1 (i64s ps) a c :: cel p #[.int .i64 cap, .int .i64 last, .map (some m)] 207 :: blk m (.map (mE (List.map vK xs)) q) :: Shs vF xs :: L) w) :
    Sp Tryz.prog 152 [.pointer (some ⟨p, 0, none⟩), .slice a (List.length (i64s ps)) c] w (fun v w' => v = .tuple #[.int .i64 0, .int .i64 1] ∧ St g (Sh 3 1 (i64s ps) a c :: cel p #[.int .i64 cap, .int .i64 last, .map (some m)] 207 :: blk m (.map (mE (List.map vK xs)) q) :: Shs vF xs :: L) w') := by
  refine Sp.enter Tryz.func152 rfl (by kernel_rfl) (by kernel_rfl) ?_
  have _ := hl
  refine WC.seq <| WC.region <| WL.r 2 rfl <| WL.nil <| WC.seq <| WC.seq <| WC.plan [([0, 1, 2, 3, 4, 5, 6, 7, 8, 11, 9, 12, 10, 13, 14, 15, 16], none)] (by kernel_rfl) (by kernel_rfl) ?_
  have hpl := i64s_len ps
  refine WQ.r 4 rfl <| WQ.reb 14 (.bool true) (congrArg Value.bool (decide_eq_true ((by omega)))) ?_
  refine WQ.skp rfl rfl rfl rfl <| WQ.skp rfl rfl rfl rfl <| WQ.skp rfl rfl rfl rfl <| WQ.skp rfl rfl rfl rfl <| WQ.skU rfl rfl rfl <| WQ.skU rfl rfl rfl <| WQ.skU rfl rfl rfl <| WQ.skU rfl rfl rfl <| WQ.skU rfl rfl rfl <| WQ.skU rfl rfl rfl <| WQ.skU rfl rfl rfl <| WQ.skp rfl rfl rfl rfl ?_
  refine WQ.r 1 rfl <| WQ.nil ?_
  intro m1
  replace hS := hS.drewN m1; generalize hwm1 : World.drewN _ _ = w at *; clear hwm1
  as_aux_lemma =>
  refine WC.ifT rfl rfl <| WC.seq <| WC.region <| WL.r 2 rfl <| WL.nil <| WC.ret ?_
  refine ⟨[.int .i64 0, .int .i64 1], ⟨rfl, rfl⟩, ?_⟩
  exact ⟨rfl, hS⟩
set_option maxRecDepth 8192 in
theorem add_inv2 {g w : World} {L : List HP} (p m : Nat) (cap last : Int) (xs : List VN) (q : Nat) (x : Int) (a : Option Addr) (c : Nat) (hS : St g (Sh 3 1 (i64s [x, x]) a c :: cel p #[.int .i64 cap, .int .i64 last, .map (some m)] 207 :: blk m (.map (mE (List.map vK xs)) q) :: Shs vF xs :: L) w) :
    Sp Tryz.prog 152 [.pointer (some ⟨p, 0, none⟩), .slice a (List.length (i64s [x, x])) c] w (fun v w' => v = .tuple #[.int .i64 0, .int .i64 1] ∧ St g (Sh 3 1 (i64s [x, x]) a c :: cel p #[.int .i64 cap, .int .i64 last, .map (some m)] 207 :: blk m (.map (mE (List.map vK xs)) q) :: Shs vF xs :: L) w') := by
  refine Sp.enter Tryz.func152 rfl (by kernel_rfl) (by kernel_rfl) ?_
  refine WC.seq <| WC.region <| WL.r 2 rfl <| WL.nil <| WC.seq <| WC.seq <| WC.plan [([0, 1, 2, 3, 4, 5, 6, 7, 8, 11, 9, 12, 10, 13, 14, 15, 16], none)] (by kernel_rfl) (by kernel_rfl) ?_
  have hpl : (i64s [x, x]).length = 2 := rfl
  refine WQ.r 4 rfl <| WQ.reb 14 (.bool false) (congrArg Value.bool (decide_eq_false ((by omega)))) ?_
  refine WQ.ung rfl rfl rfl <| WQ.r 1 rfl <| WQ.ung rfl rfl rfl <| WQ.r 1 rfl <| WQ.ung rfl rfl rfl <| WQ.r 1 rfl <| WQ.ung rfl rfl rfl <| WQ.r 1 rfl <| WQ.reb 18 (.bool true) (congrArg Value.bool (decide_eq_true ((by omega)))) ?_
  refine WQ.ung rfl rfl rfl <| WQ.r 1 rfl <| WQ.ung rfl rfl rfl <| WQ.r 1 rfl <| WQ.ung rfl rfl rfl <| WQ.ix rfl rfl (i := 0) (0) el_126 rfl rfl (by omega) (by omega) (hS.rdS 0 rfl (i64s_at (k := 0) (x := x) rfl)).1 ?_
  refine WQ.ung rfl rfl rfl <| WQ.ix rfl rfl (i := 1) (1) el_126 rfl rfl (by omega) (by omega) (hS.rdS 0 rfl (i64s_at (k := 1) (x := x) rfl)).1 ?_
  refine WQ.ung rfl rfl rfl <| WQ.run 1 [.int .i64 x] rfl (by exact (hS.rdS 0 rfl (i64s_at (k := 0) (x := x) rfl)).2 0 _ rfl) ?_
  refine WQ.ung rfl rfl rfl <| WQ.run 1 [.int .i64 x] rfl (by exact (hS.rdS 0 rfl (i64s_at (k := 1) (x := x) rfl)).2 0 _ rfl) ?_
  refine WQ.ung rfl rfl rfl <| WQ.r 1 rfl <| WQ.ung rfl rfl rfl <| WQ.r 2 rfl <| WQ.nil ?_
  intro m1
  replace hS := hS.drewN m1; generalize hwm1 : World.drewN _ _ = w at *; clear hwm1
  as_aux_lemma =>
  refine WC.ifT rfl (decide_eq_true (rfl)) <| WC.seq <| WC.region <| WL.r 2 rfl <| WL.nil <| WC.ret ?_
  refine ⟨[.int .i64 0, .int .i64 1], ⟨rfl, rfl⟩, ?_⟩
  exact ⟨rfl, hS⟩
set_option maxRecDepth 8192 in
theorem add_nf {g w : World} {L : List HP} (p m : Nat) (cap last : Int) (xs : List VN) (q : Nat) (ps : List Int) (a : Option Addr) (c : Nat) (i : Nat) (b : Int) (hu : VUq xs) (hps : okPs ps) (hi : ps[i]? = some b) (hb : liveG xs b = false) (hlt : ∀ j, j < i → ∀ y, ps[j]? = some y → liveG xs y = true) (hS : St g (Sh 3 1 (i64s ps) a c :: cel p #[.int .i64 cap, .int .i64 last, .map (some m)] 207 :: blk m (.map (mE (List.map vK xs)) q) :: Shs vF xs :: L) w) :
    Sp Tryz.prog 152 [.pointer (some ⟨p, 0, none⟩), .slice a (List.length (i64s ps)) c] w (fun v w' => v = .tuple #[.int .i64 0, .int .i64 4] ∧ St g (Sh 3 1 (i64s ps) a c :: cel p #[.int .i64 cap, .int .i64 last, .map (some m)] 207 :: blk m (.map (mE (List.map vK xs)) q) :: Shs vF xs :: L) w') := by
  refine Sp.enter Tryz.func152 rfl (by kernel_rfl) (by kernel_rfl) ?_
  have _ := hlt
  have _ := hu
  refine WC.seq <| WC.region ?_
  have hpl := i64s_len ps
  have hp2 := hps.1
  refine WL.r 2 rfl <| WL.nil <| WC.seq <| WC.seq <| WC.cut [0, 1, 4, 5, 27] (fun vs w => ∃ (t27 : Bool), vs = [.pointer (some ⟨p, 0, none⟩), .slice a (List.length (i64s ps)) c, .int .i64 0, .int .i64 0, .bool t27] ∧ St g (Sh 3 1 (i64s ps) a c :: cel p #[.int .i64 cap, .int .i64 last, .map (some m)] 207 :: blk m (.map (mE (List.map vK xs)) q) :: Shs vF xs :: L) w ∧ (t27 = false)) ?_ ?_
  · refine WC.plan [([0, 1, 2, 3, 4, 5, 6, 7, 8, 11, 9, 12, 10, 13, 14, 15, 16], none)] (by kernel_rfl) (by kernel_rfl) ?_
    refine WQ.r 4 rfl <| WQ.reb 14 (.bool false) (congrArg Value.bool (decide_eq_false ((by omega)))) ?_
    refine WQ.ung rfl rfl rfl <| WQ.r 1 rfl <| WQ.ung rfl rfl rfl <| WQ.r 1 rfl <| WQ.ung rfl rfl rfl <| WQ.r 1 rfl <| WQ.ung rfl rfl rfl <| WQ.r 1 rfl ?_
    by_cases cg1 : (List.length (i64s ps) : Int) = 2
    · refine WQ.reb 18 (.bool true) (congrArg Value.bool (decide_eq_true cg1)) <| WQ.ung rfl rfl rfl <| WQ.r 1 rfl <| WQ.ung rfl rfl rfl <| WQ.r 1 rfl <| WQ.ung rfl rfl rfl ?_
      obtain ⟨p0, h0⟩ : ∃ u, ps[0]? = some u := ⟨_, List.getElem?_eq_getElem (by omega)⟩; obtain ⟨p1, h1⟩ : ∃ u, ps[1]? = some u := ⟨_, List.getElem?_eq_getElem (by omega)⟩
      refine WQ.ix rfl rfl (i := 0) (0) el_126 rfl rfl (by omega) (by omega) (hS.rdS 0 rfl (i64s_at h0)).1 ?_
      refine WQ.ung rfl rfl rfl <| WQ.ix rfl rfl (i := 1) (1) el_126 rfl rfl (by omega) (by omega) (hS.rdS 0 rfl (i64s_at h1)).1 ?_
      refine WQ.ung rfl rfl rfl <| WQ.run 1 [.int .i64 p0] rfl (by exact (hS.rdS 0 rfl (i64s_at h0)).2 0 _ rfl) ?_
      refine WQ.ung rfl rfl rfl <| WQ.run 1 [.int .i64 p1] rfl (by exact (hS.rdS 0 rfl (i64s_at h1)).2 0 _ rfl) ?_
      refine WQ.ung rfl rfl rfl <| WQ.r 1 rfl <| WQ.ung rfl rfl rfl <| WQ.r 2 rfl <| WQ.nil ?_
      intro m1
      replace hS := hS.drewN m1; generalize hwm1 : World.drewN _ _ = w at *; clear hwm1
      exact ⟨decide (p0 = p1), rfl, hS, (decide_eq_false (okPs_ne hps h0 h1))⟩
    · refine WQ.reb 18 (.bool false) (congrArg Value.bool (decide_eq_false cg1)) <| WQ.skp rfl rfl rfl rfl <| WQ.skp rfl rfl rfl rfl <| WQ.skp rfl rfl rfl rfl <| WQ.skp rfl rfl rfl rfl <| WQ.skp rfl rfl rfl rfl <| WQ.skp rfl rfl rfl rfl <| WQ.skp rfl rfl rfl rfl <| WQ.ung rfl rfl rfl <| WQ.r 2 rfl <| WQ.nil ?_
      intro m1
      replace hS := hS.drewN m1; generalize hwm1 : World.drewN _ _ = w at *; clear hwm1
      exact ⟨false, rfl, hS, (rfl)⟩
  clear hS; rintro _ w j ⟨t27, rfl, hS, h27⟩
  refine WC.ifF rfl h27 <| WC.skip <| WC.seq <| WC.seq <| WC.region ?_
  have hpl := i64s_len ps; have hil := (List.getElem?_eq_some_iff.1 hi).1
  refine WL.r 3 rfl <| WL.nil <| WC.block <| WC.loop [0, 1, 28, 29, 30] (fun kM vs w => ∃ (k : Nat), vs = [.pointer (some ⟨p, 0, none⟩), .slice a (List.length (i64s ps)) c, .slice a (List.length (i64s ps)) c, .int .i64 (List.length (i64s ps) : Int), .int .i64 (k : Int)] ∧ St g (Sh 3 1 (i64s ps) a c :: cel p #[.int .i64 cap, .int .i64 last, .map (some m)] 207 :: blk m (.map (mE (List.map vK xs)) q) :: Shs vF xs :: L) w ∧ (k ≤ i) ∧ (ps.length - k) = kM) ((List.length ps) - 0) ⟨0, rfl, hS, (Nat.zero_le _), rfl⟩ ?_
  clear hS; rintro _ _ w j ⟨k, rfl, hS, hk, rfl⟩
  refine WC.seq <| WC.region ?_
  have hpl := i64s_len ps; have hil := (List.getElem?_eq_some_iff.1 hi).1
  refine WL.r 1 rfl <| WL.nil ?_
  as_aux_lemma =>
  refine WC.seq <| WC.ifT rfl (decide_eq_true ((by omega))) ?_
  refine WC.skip <| WC.seq <| WC.block <| WC.seq <| WC.region ?_
  obtain ⟨z, hz⟩ : ∃ u, ps[k]? = some u := ⟨_, List.getElem?_eq_getElem (by omega)⟩
  refine WL.ix rfl rfl (i := (k : Int)) (k) el_126 rfl rfl (by omega) (by omega) (hS.rdS 0 rfl (i64s_at hz)).1 ?_
  refine WL.run 2 [.int .i64 z] rfl (by exact (hS.rdS 0 rfl (i64s_at hz)).2 0 _ rfl) ?_
  refine WL.nil <| WC.seq <| WC.region <| WL.r 2 rfl <| WL.call rfl rfl (live_spec (cap := cap) (last := last) (q := q) (n := z) (hu := (by first | assumption | exact (GI.ok (by assumption)).uniq)) (hS := (hS.sel 4 [1, 1, 1, 0] rfl))) rfl ?_
  clear hS; rintro _ w ⟨rfl, hS⟩
  replace hS := hS.n4 L rfl
  refine WL.r 1 rfl <| WL.nil <| WC.if_ rfl (fun cd1 => ?_) (fun cd1 => ?_)
  · refine WC.seq <| WC.region <| WL.r 2 rfl <| WL.nil <| WC.ret ?_
    refine ⟨[.int .i64 0, .int .i64 4], ⟨rfl, rfl⟩, ?_⟩
    replace hS := (hS.sel 4 [3, 0, 0, 0] rfl)
    exact ⟨rfl, hS⟩
  · refine WC.skip <| WC.region <| WL.r 1 rfl <| WL.nw 38 rfl (w64 (by omega)) ?_
    refine WL.r 1 rfl <| WL.nil ?_
    exact ⟨_, by omega, k + 1, rfl, (hS.sel 4 [3, 0, 0, 0] rfl), (Nat.lt_of_le_of_ne hk (fun e => by subst e; rw [hi] at hz; cases hz; rw [hb] at cd1; cases cd1)), rfl⟩
set_option maxRecDepth 8192 in
theorem add_full {g w : World} {L : List HP} (p m : Nat) (cap last : Int) (xs : List VN) (q : Nat) (ps : List Int) (a : Option Addr) (c : Nat) (hu : VUq xs) (hps : okPs ps) (hlv : ∀ z ∈ ps, liveG xs z = true) (hc : cap ≤ xs.length) (hS : St g (Sh 3 1 (i64s ps) a c :: cel p #[.int .i64 cap, .int .i64 last, .map (some m)] 207 :: blk m (.map (mE (List.map vK xs)) q) :: Shs vF xs :: L) w) :
    Sp Tryz.prog 152 [.pointer (some ⟨p, 0, none⟩), .slice a (List.length (i64s ps)) c] w (fun v w' => v = .tuple #[.int .i64 0, .int .i64 2] ∧ St g (Sh 3 1 (i64s ps) a c :: cel p #[.int .i64 cap, .int .i64 last, .map (some m)] 207 :: blk m (.map (mE (List.map vK xs)) q) :: Shs vF xs :: L) w') := by
  refine Sp.enter Tryz.func152 rfl (by kernel_rfl) (by kernel_rfl) ?_
  have _ := hc
  have _ := hu
  refine WC.seq <| WC.region ?_
  have hpl := i64s_len ps
  have hp2 := hps.1
  refine WL.r 2 rfl <| WL.nil <| WC.seq <| WC.seq <| WC.cut [0, 1, 4, 5, 27] (fun vs w => ∃ (t27 : Bool), vs = [.pointer (some ⟨p, 0, none⟩), .slice a (List.length (i64s ps)) c, .int .i64 0, .int .i64 0, .bool t27] ∧ St g (Sh 3 1 (i64s ps) a c :: cel p #[.int .i64 cap, .int .i64 last, .map (some m)] 207 :: blk m (.map (mE (List.map vK xs)) q) :: Shs vF xs :: L) w ∧ (t27 = false)) ?_ ?_
  · refine WC.plan [([0, 1, 2, 3, 4, 5, 6, 7, 8, 11, 9, 12, 10, 13, 14, 15, 16], none)] (by kernel_rfl) (by kernel_rfl) ?_
    refine WQ.r 4 rfl <| WQ.reb 14 (.bool false) (congrArg Value.bool (decide_eq_false ((by omega)))) ?_
    refine WQ.ung rfl rfl rfl <| WQ.r 1 rfl <| WQ.ung rfl rfl rfl <| WQ.r 1 rfl <| WQ.ung rfl rfl rfl <| WQ.r 1 rfl <| WQ.ung rfl rfl rfl <| WQ.r 1 rfl ?_
    by_cases cg1 : (List.length (i64s ps) : Int) = 2
    · refine WQ.reb 18 (.bool true) (congrArg Value.bool (decide_eq_true cg1)) <| WQ.ung rfl rfl rfl <| WQ.r 1 rfl <| WQ.ung rfl rfl rfl <| WQ.r 1 rfl <| WQ.ung rfl rfl rfl ?_
      obtain ⟨p0, h0⟩ : ∃ u, ps[0]? = some u := ⟨_, List.getElem?_eq_getElem (by omega)⟩; obtain ⟨p1, h1⟩ : ∃ u, ps[1]? = some u := ⟨_, List.getElem?_eq_getElem (by omega)⟩
      refine WQ.ix rfl rfl (i := 0) (0) el_126 rfl rfl (by omega) (by omega) (hS.rdS 0 rfl (i64s_at h0)).1 ?_
      refine WQ.ung rfl rfl rfl <| WQ.ix rfl rfl (i := 1) (1) el_126 rfl rfl (by omega) (by omega) (hS.rdS 0 rfl (i64s_at h1)).1 ?_
      refine WQ.ung rfl rfl rfl <| WQ.run 1 [.int .i64 p0] rfl (by exact (hS.rdS 0 rfl (i64s_at h0)).2 0 _ rfl) ?_
      refine WQ.ung rfl rfl rfl <| WQ.run 1 [.int .i64 p1] rfl (by exact (hS.rdS 0 rfl (i64s_at h1)).2 0 _ rfl) ?_
      refine WQ.ung rfl rfl rfl <| WQ.r 1 rfl <| WQ.ung rfl rfl rfl <| WQ.r 2 rfl <| WQ.nil ?_
      intro m1
      replace hS := hS.drewN m1; generalize hwm1 : World.drewN _ _ = w at *; clear hwm1
      exact ⟨decide (p0 = p1), rfl, hS, (decide_eq_false (okPs_ne hps h0 h1))⟩
    · refine WQ.reb 18 (.bool false) (congrArg Value.bool (decide_eq_false cg1)) <| WQ.skp rfl rfl rfl rfl <| WQ.skp rfl rfl rfl rfl <| WQ.skp rfl rfl rfl rfl <| WQ.skp rfl rfl rfl rfl <| WQ.skp rfl rfl rfl rfl <| WQ.skp rfl rfl rfl rfl <| WQ.skp rfl rfl rfl rfl <| WQ.ung rfl rfl rfl <| WQ.r 2 rfl <| WQ.nil ?_
      intro m1
      replace hS := hS.drewN m1; generalize hwm1 : World.drewN _ _ = w at *; clear hwm1
      exact ⟨false, rfl, hS, (rfl)⟩
  clear hS; rintro _ w j ⟨t27, rfl, hS, h27⟩
  refine WC.ifF rfl h27 <| WC.skip <| WC.seq <| WC.seq <| WC.region ?_
  have hpl := i64s_len ps
  refine WL.r 3 rfl <| WL.nil <| WC.block <| WC.loop [0, 1, 28, 29, 30] (fun kM vs w => ∃ (k : Nat), vs = [.pointer (some ⟨p, 0, none⟩), .slice a (List.length (i64s ps)) c, .slice a (List.length (i64s ps)) c, .int .i64 (List.length (i64s ps) : Int), .int .i64 (k : Int)] ∧ St g (Sh 3 1 (i64s ps) a c :: cel p #[.int .i64 cap, .int .i64 last, .map (some m)] 207 :: blk m (.map (mE (List.map vK xs)) q) :: Shs vF xs :: L) w ∧ (k ≤ ps.length) ∧ (ps.length - k) = kM) ((List.length ps) - 0) ⟨0, rfl, hS, (Nat.zero_le _), rfl⟩ ?_
  clear hS; rintro _ _ w j ⟨k, rfl, hS, hk, rfl⟩
  refine WC.seq <| WC.region ?_
  have hpl := i64s_len ps
  refine WL.r 1 rfl <| WL.nil ?_
  as_aux_lemma =>
  refine WC.seq <| WC.ifP rfl (fun cd1 => ?_) (fun cd1 => ?_)
  · refine WC.skip <| WC.seq <| WC.block <| WC.seq <| WC.region ?_
    obtain ⟨z, hz⟩ : ∃ u, ps[k]? = some u := ⟨_, List.getElem?_eq_getElem (by omega)⟩
    refine WL.ix rfl rfl (i := (k : Int)) (k) el_126 rfl rfl (by omega) (by omega) (hS.rdS 0 rfl (i64s_at hz)).1 ?_
    refine WL.run 2 [.int .i64 z] rfl (by exact (hS.rdS 0 rfl (i64s_at hz)).2 0 _ rfl) ?_
    refine WL.nil <| WC.seq <| WC.region <| WL.r 2 rfl <| WL.call rfl rfl (live_spec (cap := cap) (last := last) (q := q) (n := z) (hu := (by first | assumption | exact (GI.ok (by assumption)).uniq)) (hS := (hS.sel 4 [1, 1, 1, 0] rfl))) rfl ?_
    clear hS; rintro _ w ⟨rfl, hS⟩
    replace hS := hS.n4 L rfl
    refine WL.r 1 rfl <| WL.nil <| WC.ifF rfl (by rw [hlv z (List.mem_of_getElem? hz)]; rfl) ?_
    refine WC.skip <| WC.region <| WL.r 1 rfl <| WL.nw 38 rfl (w64 (by omega)) ?_
    refine WL.r 1 rfl <| WL.nil ?_
    exact ⟨_, by omega, k + 1, rfl, (hS.sel 4 [3, 0, 0, 0] rfl), (by omega), rfl⟩
  · refine WC.exit <| WC.seq <| WC.seq <| WC.plan [([0, 5, 1, 6, 2, 7, 3, 8, 4, 9], none)] (by kernel_rfl) (by kernel_rfl) ?_
    have hms := mE_size (List.map vK xs); have hms2 : (List.map vK xs).length = xs.length := List.length_map _
    refine WQ.run 8 [.map (some m), .int .i64 cap] rfl (by exact ⟨hS.ld 1 rfl rfl, hS.ld 1 rfl rfl⟩) ?_
    refine WQ.lenM rfl rfl mt_205 2 hS rfl rfl <| WQ.r 1 rfl <| WQ.nil ?_
    intro m1
    replace hS := hS.drewN m1; generalize hwm1 : World.drewN _ _ = w at *; clear hwm1
    refine WC.ifT rfl (decide_eq_true ((by omega))) ?_
    refine WC.seq <| WC.region <| WL.r 2 rfl <| WL.nil <| WC.ret ?_
    refine ⟨[.int .i64 0, .int .i64 2], ⟨rfl, rfl⟩, ?_⟩
    exact ⟨rfl, hS⟩
set_option maxHeartbeats 1000000 in
set_option maxRecDepth 8192 in
theorem add_ok {g w : World} {L : List HP} (p m : Nat) (cap last : Int) (xs : List VN) (q : Nat) (ps : List Int) (a : Option Addr) (c : Nat) (hG : GOk xs q) (hps : okPs ps) (hlv : ∀ z ∈ ps, liveG xs z = true) (hc : (xs.length : Int) < cap) (hc2 : cap ≤ 4096) (hla : 0 ≤ last ∧ last < 1000000000) (hlt : ∀ x ∈ xs, x.n ≤ last) (hS : St g (Sh 3 1 (i64s ps) a c :: cel p #[.int .i64 cap, .int .i64 last, .map (some m)] 207 :: blk m (.map (mE (List.map vK xs)) q) :: Shs vF xs :: L) w) :
    Sp Tryz.prog 152 [.pointer (some ⟨p, 0, none⟩), .slice a (List.length (i64s ps)) c] w (fun v w' => ∃ (vn : VN), v = .tuple #[.int .i64 (last + 1), .int .i64 0] ∧ St g (Sh 3 1 (i64s ps) a c :: cel p #[.int .i64 cap, .int .i64 (last + 1), .map (some m)] 207 :: blk m (.map (mE (List.map vK (xs ++ [vn]))) (q + 1)) :: Shs vF (xs ++ [vn]) :: L) w' ∧ (vn.n = last + 1 ∧ vn.live = true ∧ vn.born = q) ∧ (Asc vn.ab ∧ ∀ z, z ∈ vn.ab ↔ z ∈ newAb xs (last + 1) ps)) := by
  refine Sp.enter Tryz.func152 rfl (by kernel_rfl) (by kernel_rfl) ?_
  have _ := hla
  have _ := hc2
  have _ := hc
  refine WC.seq <| WC.region ?_
  have hpl := i64s_len ps
  have hp2 := hps.1
  refine WL.r 2 rfl <| WL.nil <| WC.seq <| WC.seq <| WC.cut [0, 1, 4, 5, 27] (fun vs w => ∃ (t27 : Bool), vs = [.pointer (some ⟨p, 0, none⟩), .slice a (List.length (i64s ps)) c, .int .i64 0, .int .i64 0, .bool t27] ∧ St g (Sh 3 1 (i64s ps) a c :: cel p #[.int .i64 cap, .int .i64 last, .map (some m)] 207 :: blk m (.map (mE (List.map vK xs)) q) :: Shs vF xs :: L) w ∧ (t27 = false)) ?_ ?_
  · refine WC.plan [([0, 1, 2, 3, 4, 5, 6, 7, 8, 11, 9, 12, 10, 13, 14, 15, 16], none)] (by kernel_rfl) (by kernel_rfl) ?_
    refine WQ.r 4 rfl <| WQ.reb 14 (.bool false) (congrArg Value.bool (decide_eq_false ((by omega)))) ?_
    refine WQ.ung rfl rfl rfl <| WQ.r 1 rfl <| WQ.ung rfl rfl rfl <| WQ.r 1 rfl <| WQ.ung rfl rfl rfl <| WQ.r 1 rfl <| WQ.ung rfl rfl rfl <| WQ.r 1 rfl ?_
    by_cases cg1 : (List.length (i64s ps) : Int) = 2
    · refine WQ.reb 18 (.bool true) (congrArg Value.bool (decide_eq_true cg1)) <| WQ.ung rfl rfl rfl <| WQ.r 1 rfl <| WQ.ung rfl rfl rfl <| WQ.r 1 rfl <| WQ.ung rfl rfl rfl ?_
      obtain ⟨p0, h0⟩ : ∃ u, ps[0]? = some u := ⟨_, List.getElem?_eq_getElem (by omega)⟩; obtain ⟨p1, h1⟩ : ∃ u, ps[1]? = some u := ⟨_, List.getElem?_eq_getElem (by omega)⟩
      refine WQ.ix rfl rfl (i := 0) (0) el_126 rfl rfl (by omega) (by omega) (hS.rdS 0 rfl (i64s_at h0)).1 ?_
      refine WQ.ung rfl rfl rfl <| WQ.ix rfl rfl (i := 1) (1) el_126 rfl rfl (by omega) (by omega) (hS.rdS 0 rfl (i64s_at h1)).1 ?_
      refine WQ.ung rfl rfl rfl <| WQ.run 1 [.int .i64 p0] rfl (by exact (hS.rdS 0 rfl (i64s_at h0)).2 0 _ rfl) ?_
      refine WQ.ung rfl rfl rfl <| WQ.run 1 [.int .i64 p1] rfl (by exact (hS.rdS 0 rfl (i64s_at h1)).2 0 _ rfl) ?_
      refine WQ.ung rfl rfl rfl <| WQ.r 1 rfl <| WQ.ung rfl rfl rfl <| WQ.r 2 rfl <| WQ.nil ?_
      intro m1
      replace hS := hS.drewN m1; generalize hwm1 : World.drewN _ _ = w at *; clear hwm1
      exact ⟨decide (p0 = p1), rfl, hS, (decide_eq_false (okPs_ne hps h0 h1))⟩
    · refine WQ.reb 18 (.bool false) (congrArg Value.bool (decide_eq_false cg1)) <| WQ.skp rfl rfl rfl rfl <| WQ.skp rfl rfl rfl rfl <| WQ.skp rfl rfl rfl rfl <| WQ.skp rfl rfl rfl rfl <| WQ.skp rfl rfl rfl rfl <| WQ.skp rfl rfl rfl rfl <| WQ.skp rfl rfl rfl rfl <| WQ.ung rfl rfl rfl <| WQ.r 2 rfl <| WQ.nil ?_
      intro m1
      replace hS := hS.drewN m1; generalize hwm1 : World.drewN _ _ = w at *; clear hwm1
      exact ⟨false, rfl, hS, (rfl)⟩
  clear hS; rintro _ w j ⟨t27, rfl, hS, h27⟩
  refine WC.ifF rfl h27 <| WC.skip <| WC.seq <| WC.seq <| WC.region ?_
  have hu := hG.uniq
  have hpl := i64s_len ps
  refine WL.r 3 rfl <| WL.nil <| WC.block <| WC.loop [0, 1, 28, 29, 30] (fun kM vs w => ∃ (k : Nat), vs = [.pointer (some ⟨p, 0, none⟩), .slice a (List.length (i64s ps)) c, .slice a (List.length (i64s ps)) c, .int .i64 (List.length (i64s ps) : Int), .int .i64 (k : Int)] ∧ St g (Sh 3 1 (i64s ps) a c :: cel p #[.int .i64 cap, .int .i64 last, .map (some m)] 207 :: blk m (.map (mE (List.map vK xs)) q) :: Shs vF xs :: L) w ∧ (k ≤ ps.length) ∧ (ps.length - k) = kM) ((List.length ps) - 0) ⟨0, rfl, hS, (Nat.zero_le _), rfl⟩ ?_
  clear hS; rintro _ _ w j ⟨k, rfl, hS, hk, rfl⟩
  refine WC.seq <| WC.region ?_
  have hu := hG.uniq
  have hpl := i64s_len ps
  refine WL.r 1 rfl <| WL.nil ?_
  as_aux_lemma =>
  refine WC.seq <| WC.ifP rfl (fun cd1 => ?_) (fun cd1 => ?_)
  · refine WC.skip <| WC.seq <| WC.block <| WC.seq <| WC.region ?_
    obtain ⟨z, hz⟩ : ∃ u, ps[k]? = some u := ⟨_, List.getElem?_eq_getElem (by omega)⟩
    refine WL.ix rfl rfl (i := (k : Int)) (k) el_126 rfl rfl (by omega) (by omega) (hS.rdS 0 rfl (i64s_at hz)).1 ?_
    refine WL.run 2 [.int .i64 z] rfl (by exact (hS.rdS 0 rfl (i64s_at hz)).2 0 _ rfl) ?_
    refine WL.nil <| WC.seq <| WC.region <| WL.r 2 rfl <| WL.call rfl rfl (live_spec (cap := cap) (last := last) (q := q) (n := z) (hu := (by first | assumption | exact (GI.ok (by assumption)).uniq)) (hS := (hS.sel 4 [1, 1, 1, 0] rfl))) rfl ?_
    clear hS; rintro _ w ⟨rfl, hS⟩
    replace hS := hS.n4 L rfl
    refine WL.r 1 rfl <| WL.nil <| WC.ifF rfl (by rw [hlv z (List.mem_of_getElem? hz)]; rfl) ?_
    refine WC.skip <| WC.region <| WL.r 1 rfl <| WL.nw 38 rfl (w64 (by omega)) ?_
    refine WL.r 1 rfl <| WL.nil ?_
    exact ⟨_, by omega, k + 1, rfl, (hS.sel 4 [3, 0, 0, 0] rfl), (by omega), rfl⟩
  · refine WC.exit <| WC.seq <| WC.seq <| WC.plan [([0, 5, 1, 6, 2, 7, 3, 8, 4, 9], none)] (by kernel_rfl) (by kernel_rfl) ?_
    have hms := mE_size (List.map vK xs); have hms2 : (List.map vK xs).length = xs.length := List.length_map _
    refine WQ.run 8 [.map (some m), .int .i64 cap] rfl (by exact ⟨hS.ld 1 rfl rfl, hS.ld 1 rfl rfl⟩) ?_
    refine WQ.lenM rfl rfl mt_205 2 hS rfl rfl <| WQ.r 1 rfl <| WQ.nil ?_
    intro m1
    replace hS := hS.drewN m1; generalize hwm1 : World.drewN _ _ = w at *; clear hwm1
    refine WC.ifF rfl (decide_eq_false ((by omega))) ?_
    refine WC.skip <| WC.seq <| WC.region <| WL.run 5 [.int .i64 last] rfl (by exact hS.ld 1 rfl rfl) ?_
    refine WL.nw 53 rfl (w64 (by omega)) ?_
    refine WL.r 2 rfl <| WL.st rfl rfl rfl 1 hS rfl rfl rfl rfl rfl rfl (fun w hS => ?_)
    replace hS := hS.n4 L (a1 := cel p #[.int .i64 cap, .int .i64 (last + 1), .map (some m)] 207) rfl
    refine WL.nil <| WC.seq <| WC.region <| WL.run 4 [.int .i64 (last + 1)] rfl (by exact hS.ld 1 rfl rfl) ?_
    refine WL.lit rfl rfl (i64s [last + 1]) el_126 hS (by exact ⟨rfl, rfl⟩) (i64s_ok _) rfl (Nat.le_of_ble_eq_true rfl) (fun b1 w hS => ?_)
    refine WL.r 1 rfl <| WL.nil ?_
    as_aux_lemma =>
    refine WC.seq <| WC.seq <| WC.region <| WL.r 3 rfl <| WL.nil <| WC.block <| WC.loop [0, 8, 61, 62, 63] (fun kM vs w => ∃ (k : Nat) (acc : List Int) (u : Option Addr) (d : Nat), vs = [.pointer (some ⟨p, 0, none⟩), .slice u (List.length (i64s acc)) d, .slice a (List.length (i64s ps)) c, .int .i64 (List.length (i64s ps) : Int), .int .i64 (k : Int)] ∧ St g (Own 3 1 (i64s acc) u d :: Sh 3 1 (i64s ps) a c :: cel p #[.int .i64 cap, .int .i64 (last + 1), .map (some m)] 207 :: blk m (.map (mE (List.map vK xs)) q) :: Shs vF xs :: L) w ∧ (k ≤ ps.length) ∧ (acc = newAb xs (last + 1) (List.take k ps)) ∧ (acc.length ≤ 1 + 4096 * k) ∧ (ps.length - k) = kM) ((List.length ps) - 0) ⟨0, [last + 1], some ⟨b1, 0, none⟩, 1, rfl, hS, (Nat.zero_le _), (rfl), (Nat.le_refl _), rfl⟩ ?_
    clear hS; rintro _ _ w j ⟨k, acc, u, d, rfl, hS, hk, ha, hal, rfl⟩
    refine WC.seq <| WC.region <| WL.r 1 rfl <| WL.nil <| WC.seq <| WC.ifP rfl (fun cd2 => ?_) (fun cd2 => ?_)
    · refine WC.skip <| WC.seq <| WC.block <| WC.seq <| WC.region ?_
      obtain ⟨z, hz⟩ : ∃ u, ps[k]? = some u := ⟨_, List.getElem?_eq_getElem (by omega)⟩; obtain ⟨j, x, hx, hn, _, habx⟩ := live_ix (hlv z (List.mem_of_getElem? hz)); have hxl := hG.len (List.mem_of_getElem? hx); have hnum := hG.num; have hacl := i64s_len acc; have hxal := i64s_len x.ab
      refine WL.ix rfl rfl (i := (k : Int)) (k) el_126 rfl rfl (by omega) (by omega) (hS.rdS 1 rfl (i64s_at hz)).1 ?_
      refine WL.run 2 [.int .i64 z] rfl (by exact (hS.rdS 1 rfl (i64s_at hz)).2 0 _ rfl) ?_
      refine WL.nil <| WC.region ?_
      replace hS : St g (Sh 3 1 (i64s x.ab) x.a x.c :: Own 3 1 (i64s acc) u d :: Sh 3 1 (i64s ps) a c :: cel p #[.int .i64 cap, .int .i64 (last + 1), .map (some m)] 207 :: blk m (.map (mE (List.map vK xs)) q) :: Shs vF xs :: L) w := hS.shsGet 4 rfl (List.mem_of_getElem? hx)
      refine WL.run 6 [.map (some m)] rfl (by exact hS.ld 3 rfl rfl) ?_
      refine WL.lk rfl rfl mt_205 4 hS rfl rfl rfl (by first | trivial | rfl) (r := some (j, .agg #[.bool x.live, .slice x.a (i64s x.ab).length x.c])) (hn ▸ v_in hx hG.uniq) rfl ?_
      refine WL.r 1 rfl <| WL.app rfl rfl 1 (i64s (acc ++ x.ab)) el_126 hS rfl (hS.srcS 0 rfl) (i64s_app _ _).symm (Rm.of (by first | omega | (simp <;> omega)) (by decide)) rfl rfl (fun a1 c1 w hS => ?_)
      replace hS := hS.n6 L (a0 := Sh 3 1 (i64s x.ab) x.a x.c) (a1 := Own 3 1 (i64s (acc ++ x.ab)) a1 c1) rfl
      refine WL.r 1 rfl <| WL.nil ?_
      as_aux_lemma =>
      refine WC.region <| WL.r 1 rfl <| WL.nw 76 rfl (w64 (by omega)) ?_
      refine WL.r 1 rfl <| WL.nil ?_
      exact ⟨_, by omega, k + 1, acc ++ x.ab, a1, c1, rfl, (hS.sel 1 [] rfl), (by omega), (by rw [ha, ← habx]; exact newAb_snoc hz), (by rw [List.length_append]; omega), rfl⟩
    · refine WC.exit <| WC.seq <| WC.region <| WL.r 1 rfl <| WL.call rfl rfl (sort_spec (ss := srtI acc) (hne := (by rw [ha]; simp [newAb])) (hl := (by omega)) (hp := (srtI_perm acc)) (hs := (srtI_le acc)) (hS := hS)) rfl ?_
      clear hS; rintro _ w ⟨rfl, hS⟩
      replace hS := hS.n5 L (a0 := Own 3 1 (i64s (srtI acc)) u d) rfl
      refine WL.nil <| WC.seq <| WC.plan [([0, 4, 8, 1, 5, 2, 6, 3, 7], some (9, [0, 1, 2, 3, 4, 5, 6, 7])), ([], some (10, [0, 1, 2, 3, 4, 5, 6, 7])), ([], some (11, []))] (by kernel_rfl) (by kernel_rfl) ?_
      refine WQ.reb 8 (.slice u (i64s (srtI acc)).length d) (congrArg (fun m => Value.slice u m d) (by rw [i64s_len, i64s_len]; exact (srtI_perm acc).length_eq.symm)) ?_
      refine WQ.run 9 [.map (some m), .int .i64 (last + 1)] rfl (by exact ⟨hS.ld 2 rfl rfl, hS.ld 2 rfl rfl⟩) ?_
      refine WQ.nil ?_
      intro m2
      replace hS := hS.drewN m2; generalize hwm2 : World.drewN _ _ = w at *; clear hwm2
      refine WL.call rfl rfl (compact_spec (ls := srtI acc) (hne := (fun e => by have h9 := (srtI_perm acc).length_eq; rw [e, ha] at h9; simp [newAb] at h9)) (hl := (by rw [(srtI_perm acc).length_eq]; omega)) (hS := hS)) rfl ?_
      clear hS; rintro _ w ⟨rfl, hS⟩
      replace hS := hS.n5 L (a0 := Own 3 1 (i64s (Lib.compact (srtI acc))) u d) rfl
      refine WL.nil ?_
      refine ⟨by exact ⟨RQ.pure rfl rfl rfl rfl, RQ.pure rfl rfl rfl rfl, RQ.pure rfl rfl rfl rfl, RQ.load rfl rfl rfl rfl (hS.ld 2 rfl rfl), RQ.pure rfl rfl rfl rfl, RQ.pure rfl rfl rfl rfl, RQ.pure rfl rfl rfl rfl, RQ.load rfl rfl rfl rfl (hS.ld 2 rfl rfl)⟩, ?_⟩
      refine WQ.nil ?_
      intro m3
      replace hS := hS.drewN m3; generalize hwm3 : World.drewN _ _ = w at *; clear hwm3
      refine WL.build rfl rfl (cs := [.bool true, .slice u (List.length (i64s (Lib.compact (srtI acc)))) d]) zv_228 rfl rfl <| WL.nil ?_
      refine ⟨by exact ⟨RQ.pure rfl rfl rfl rfl, RQ.pure rfl rfl rfl rfl, RQ.pure rfl rfl rfl rfl, RQ.load rfl rfl rfl rfl (hS.ld 2 rfl rfl), RQ.pure rfl rfl rfl rfl, RQ.pure rfl rfl rfl rfl, RQ.pure rfl rfl rfl rfl, RQ.load rfl rfl rfl rfl (hS.ld 2 rfl rfl)⟩, ?_⟩
      refine WQ.nil ?_
      intro m4
      replace hS := hS.drewN m4; generalize hwm4 : World.drewN _ _ = w at *; clear hwm4
      refine WL.muN rfl rfl rfl mt_205 3 hS rfl rfl rfl rfl (by first | trivial | rfl) (v_out (fun x hx e => by have h9 := hlt x hx; omega)) (fun w hS => ?_)
      replace hS := hS.n5 L (a3 := blk m (.map (mE ((List.map vK xs) ++ [⟨.int .i64 (last + 1), .agg #[.bool true, .slice u (List.length (i64s (Lib.compact (srtI acc)))) d], q⟩])) (q + 1))) rfl
      refine WL.nil ?_
      refine ⟨by exact trivial, ?_⟩
      intro m5
      replace hS := hS.drewN m5; generalize hwm5 : World.drewN _ _ = w at *; clear hwm5
      as_aux_lemma =>
      refine WC.seq <| WC.region <| WL.run 6 [.int .i64 (last + 1)] rfl (by exact hS.ld 2 rfl rfl) ?_
      refine WL.nil <| WC.ret ?_
      have hm : List.map vK xs ++ [(.int .i64 (last + 1), .agg #[.bool true, .slice u (i64s (Lib.compact (srtI acc))).length d], q)] = List.map vK (xs ++ [(VN.mk (last + 1) true (Lib.compact (srtI acc)) u d q)]) := by simp [vK, vV]
      rw [hm] at hS
      replace hS := (St.shsSub (zs' := xs ++ [(VN.mk (last + 1) true (Lib.compact (srtI acc)) u d q)]) (St.shsCons (hS.share.sel 5 [4, 0, 0, 0, 0] rfl) (z := (VN.mk (last + 1) true (Lib.compact (srtI acc)) u d q)) (vF_sh _) [0] rfl) (fun z hz => snoc_mem hz)).sel 5 [2, 2, 2, 0] rfl
      replace hS := hS.n4 L (a2 := blk m (.map (mE (List.map vK (xs ++ [VN.mk (last + 1) true (Lib.compact (srtI acc)) u d q]))) (q + 1))) (a3 := Shs vF (xs ++ [VN.mk (last + 1) true (Lib.compact (srtI acc)) u d q])) rfl
      refine ⟨[.int .i64 (last + 1), .int .i64 0], ⟨rfl, rfl⟩, ?_⟩
      exact ⟨_, rfl, hS, ⟨rfl, rfl, rfl⟩, absr_asc acc, fun z => by
      have h9 := absr_mem acc z
      rw [ha, List.take_of_length_le (by omega)] at h9
      rw [ha, List.take_of_length_le (by omega)]; exact h9⟩
end Go.Proofs.YtaceaiifbiiagaaGreatDoor
/-! ## A6 -/
namespace Go.Proofs.YtaceaiifbiiagaaGreatDoor
open Go Go.V Go.RowKit
set_option maxRecDepth 8192 in
theorem add_spec {g w : World} {L : List HP} (p m : Nat) (cap last : Int) (xs : List VN) (q : Nat) (ps : List Int) (a : Option Addr) (c : Nat) (hI : GI xs q cap last) (hla : last < 1000000000) (hS : St g (Sh 3 1 (i64s ps) a c :: cel p #[.int .i64 cap, .int .i64 last, .map (some m)] 207 :: blk m (.map (mE (List.map vK xs)) q) :: Shs vF xs :: L) w) :
    Sp Tryz.prog 152 [.pointer (some ⟨p, 0, none⟩), .slice a (List.length (i64s ps)) c] w (fun v w' => ∃ (xs2 : List VN) (q2 : Nat) (last2 : Int), v = .tuple #[.int .i64 (addV xs cap last ps), .int .i64 (addE xs cap ps)] ∧ St g (Sh 3 1 (i64s ps) a c :: cel p #[.int .i64 cap, .int .i64 last2, .map (some m)] 207 :: blk m (.map (mE (List.map vK xs2)) q2) :: Shs vF xs2 :: L) w' ∧ (GI xs2 q2 cap last2) ∧ (AddP xs cap last ps xs2 last2)) := by
  by_cases h1 : okPs ps
  · by_cases h2 : ∀ z ∈ ps, liveG xs z = true
    · by_cases h3 : cap ≤ xs.length
      · have he : addE xs cap ps = 2 := by unfold addE; rw [if_neg (fun h => h h1), if_neg (fun h => h h2), if_pos h3]
        rw [addV, he, if_neg (by decide)]
        exact (add_full p m cap last xs q ps a c hI.ok.uniq h1 h2 h3 hS).mono fun v w' ⟨hv, hS'⟩ => ⟨xs, q, last, hv, hS', hI, .inl ⟨by rw [he]; decide, rfl, rfl⟩⟩
      · have he : addE xs cap ps = 0 := addE_ok h1 h2 h3
        rw [addV, he, if_pos rfl]
        have hcp := hI.cp
        refine (add_ok p m cap last xs q ps a c hI.ok h1 h2 (by omega) (by omega) ⟨hI.la, hla⟩ hI.le hS).mono fun v w' ⟨vn, hv, hS', ⟨e1, e2, e3⟩, e4, e5⟩ => ⟨xs ++ [vn], q + 1, last + 1, hv, hS', ⟨?_, fun x hx => ?_, by have := hI.la; omega, hcp⟩, .inr ⟨he, rfl, vn, rfl, e1, e2, e4, e5⟩⟩
        · have hla0 := hI.la
          exact hI.ok.add (ps := ps) (fun x hx => by have := hI.le x hx; omega) (by omega) e3 (by omega) e4 (by rw [e1]; exact e5)
        · rcases List.mem_append.1 hx with hx | hx
          · have := hI.le x hx; omega
          · rw [List.mem_singleton.1 hx, e1]; exact Int.le_refl _
    · have he : addE xs cap ps = 4 := by unfold addE; rw [if_neg (fun h => h h1), if_pos h2]
      rw [addV, he, if_neg (by decide)]
      obtain ⟨i, b, hi, hb, hlt⟩ := first_dead h2
      exact (add_nf p m cap last xs q ps a c i b hI.ok.uniq h1 hi hb hlt hS).mono fun v w' ⟨hv, hS'⟩ => ⟨xs, q, last, hv, hS', hI, .inl ⟨by rw [he]; decide, rfl, rfl⟩⟩
  · have he : addE xs cap ps = 1 := by unfold addE; rw [if_pos h1]
    rw [addV, he, if_neg (by decide)]
    rcases okPs_no h1 with h2 | ⟨x, rfl⟩
    · exact (add_inv1 p m cap last xs q ps a c h2 hS).mono fun v w' ⟨hv, hS'⟩ => ⟨xs, q, last, hv, hS', hI, .inl ⟨by rw [he]; decide, rfl, rfl⟩⟩
    · exact (add_inv2 p m cap last xs q x a c hS).mono fun v w' ⟨hv, hS'⟩ => ⟨xs, q, last, hv, hS', hI, .inl ⟨by rw [he]; decide, rfl, rfl⟩⟩
end Go.Proofs.YtaceaiifbiiagaaGreatDoor
/-! ## S1 -/
namespace Go.Proofs.YtaceaiifbiiagaaGreatDoor
open Go Go.V
set_option maxRecDepth 8192 in
theorem sl_cap0 {g w : World} {L : List HP} (s : Nat) (ua ga ra : Option Addr) (n ng nr uc gc rc : Nat) (fr : Int) (hn : n ≤ 65537) (hS : St g (cel s #[.slice ua n uc, .slice ga ng gc, .slice ra nr rc, .int .u32 fr] 210 :: L) w) :
    Sp Tryz.prog 121 [.pointer (some ⟨s, 0, none⟩)] w (fun v w' => v = .int .i64 (n - 1) ∧ St g (cel s #[.slice ua n uc, .slice ga ng gc, .slice ra nr rc, .int .u32 fr] 210 :: L) w') := by
  refine Sp.enter Tryz.func121 rfl (by kernel_rfl) (by kernel_rfl) ?_
  have _ := hn
  refine WC.seq <| WC.region <| WL.r 1 rfl <| WL.nil <| WC.seq <| WC.region <| WL.run 6 [.slice ua n uc] rfl (by exact hS.ld 0 rfl rfl) ?_
  refine WL.nw 8 rfl (w64 (by omega)) ?_
  refine WL.r 1 rfl <| WL.nil <| WC.ret ?_
  refine ⟨[.int .i64 ((n : Int) - 1)], rfl, ?_⟩
  exact ⟨rfl, hS⟩
set_option maxRecDepth 8192 in
theorem sl_cap {g w : World} {L : List HP} (s : Nat) (S : SM) (hl : S.used.length ≤ 65537) (hS : St g (Slt s S :: L) w) :
    Sp Tryz.prog 121 [.pointer (some ⟨s, 0, none⟩)] w (fun v w' => v = .int .i64 S.cap ∧ St g (Slt s S :: L) w') := by
  refine Sp.enter Tryz.func121 rfl (by kernel_rfl) (by kernel_rfl) ?_
  have _ := hl
  refine WC.seq <| WC.region ?_
  obtain ⟨⟨ua, uc, ga, gc, ra, rc⟩, hS⟩ := St.exOpen (f := sltF s S) hS; have hbu := bos_len S.used; have hbg := u32s_len S.gen; have hbr := u32s_len S.rel
  replace hS : St g (cel s #[.slice ua (List.length (bos S.used)) uc, .slice ga (List.length (u32s S.gen)) gc, .slice ra (List.length (u32s S.rel)) rc, .int .u32 S.fresh] 210 :: Own 4 1 (bos S.used) ua uc :: Own 91 1 (u32s S.gen) ga gc :: Own 91 1 (u32s S.rel) ra rc :: L) w := hS
  refine WL.r 1 rfl <| WL.nil <| WC.seq <| WC.region <| WL.run 6 [.slice ua (List.length (bos S.used)) uc] rfl (by exact hS.ld 0 rfl rfl) ?_
  refine WL.nw 8 rfl (w64 (by omega)) ?_
  refine WL.r 1 rfl <| WL.nil <| WC.ret ?_
  replace hS := St.exClose (f := sltF s S) ⟨ua, uc, ga, gc, ra, rc⟩ hS
  replace hS : St g (Slt s S :: L) w := hS
  refine ⟨[.int .i64 ((List.length (bos S.used) : Int) - 1)], rfl, ?_⟩
  exact ⟨congrArg (Value.int .i64) (by rw [bos_len]; rfl), hS⟩
set_option maxRecDepth 8192 in
theorem sl_free {g w : World} {L : List HP} (s : Nat) (S : SM) (hO : SOk S) (hS : St g (Slt s S :: L) w) :
    Sp Tryz.prog 122 [.pointer (some ⟨s, 0, none⟩)] w (fun v w' => v = .int .i64 S.free ∧ St g (Slt s S :: L) w') := by
  refine Sp.enter Tryz.func122 rfl (by kernel_rfl) (by kernel_rfl) ?_
  refine WC.seq <| WC.region ?_
  have hfr := hO.fr; have hcp : S.cap = (S.used.length : Int) - 1 := rfl; have hle := hO.le; have hrl := hO.rle
  obtain ⟨⟨ua, uc, ga, gc, ra, rc⟩, hS⟩ := St.exOpen (f := sltF s S) hS; have hbu := bos_len S.used; have hbg := u32s_len S.gen; have hbr := u32s_len S.rel
  replace hS : St g (cel s #[.slice ua (List.length (bos S.used)) uc, .slice ga (List.length (u32s S.gen)) gc, .slice ra (List.length (u32s S.rel)) rc, .int .u32 S.fresh] 210 :: Own 4 1 (bos S.used) ua uc :: Own 91 1 (u32s S.gen) ga gc :: Own 91 1 (u32s S.rel) ra rc :: L) w := hS
  refine WL.r 1 rfl <| WL.nil <| WC.seq <| WC.plan [([0, 5, 8, 1, 9, 2, 10, 3, 11, 4, 12], some (6, [0, 1, 2, 3, 4, 8, 9, 10, 11, 12])), ([7, 13, 14], none)] (by kernel_rfl) (by kernel_rfl) ?_
  refine WQ.run 11 [.slice ra (List.length (u32s S.rel)) rc, .int .u32 S.fresh] rfl (by exact ⟨hS.ld 0 rfl rfl, hS.ld 0 rfl rfl⟩) ?_
  refine WQ.nw 15 rfl (w64 (by omega)) ?_
  refine WQ.nil ?_
  intro m1
  replace hS := hS.drewN m1; generalize hwm1 : World.drewN _ _ = w at *; clear hwm1
  refine WL.call rfl rfl (sl_cap0 (ua := ua) (ga := ga) (ra := ra) (n := List.length (bos S.used)) (ng := List.length (u32s S.gen)) (nr := List.length (u32s S.rel)) (uc := uc) (gc := gc) (rc := rc) (fr := S.fresh) (hn := (by omega)) (hS := hS)) rfl ?_
  clear hS; rintro _ w ⟨rfl, hS⟩
  replace hS := hS.n4 L rfl
  refine WL.nil ?_
  refine ⟨by exact ⟨RQ.pure rfl rfl rfl rfl, RQ.pure rfl rfl rfl rfl, RQ.pure rfl rfl rfl rfl, RQ.load rfl rfl rfl rfl (hS.ld 0 rfl rfl), RQ.pure rfl rfl rfl rfl, RQ.pure rfl rfl rfl rfl, RQ.pure rfl rfl rfl rfl, RQ.pure rfl rfl rfl rfl, RQ.load rfl rfl rfl rfl (hS.ld 0 rfl rfl), RQ.pure rfl rfl rfl (congrArg (Value.int .i64) (Eq.symm (w64 (by omega))))⟩, ?_⟩
  refine WQ.r 1 rfl <| WQ.nw 10 rfl (w64 (by omega)) ?_
  refine WQ.r 1 rfl <| WQ.nw 16 rfl (w64 (by omega)) ?_
  refine WQ.r 1 rfl <| WQ.nil ?_
  intro m2
  replace hS := hS.drewN m2; generalize hwm2 : World.drewN _ _ = w at *; clear hwm2
  as_aux_lemma =>
  refine WC.ret ?_
  replace hS := St.exClose (f := sltF s S) ⟨ua, uc, ga, gc, ra, rc⟩ hS
  replace hS : St g (Slt s S :: L) w := hS
  refine ⟨[.int .i64 (((List.length (u32s S.rel) : Int) + ((List.length (bos S.used)) - 1)) - S.fresh)], rfl, ?_⟩
  exact ⟨congrArg (Value.int .i64) (by unfold SM.free; omega), hS⟩
set_option maxRecDepth 8192 in
theorem sl_ok {g w : World} {L : List HP} (s : Nat) (S : SM) (i : Int) (hl : S.used.length ≤ 65537) (hi : 0 ≤ i ∧ i < 4294967296) (hS : St g (Slt s S :: L) w) :
    Sp Tryz.prog 126 [.pointer (some ⟨s, 0, none⟩), .int .u32 i] w (fun v w' => v = .bool (S.ok i) ∧ St g (Slt s S :: L) w') := by
  refine Sp.enter Tryz.func126 rfl (by kernel_rfl) (by kernel_rfl) ?_
  have _ := hi
  have _ := hl
  refine WC.seq <| WC.region ?_
  obtain ⟨⟨ua, uc, ga, gc, ra, rc⟩, hS⟩ := St.exOpen (f := sltF s S) hS; have hbu := bos_len S.used; have hbg := u32s_len S.gen; have hbr := u32s_len S.rel
  replace hS : St g (cel s #[.slice ua (List.length (bos S.used)) uc, .slice ga (List.length (u32s S.gen)) gc, .slice ra (List.length (u32s S.rel)) rc, .int .u32 S.fresh] 210 :: Own 4 1 (bos S.used) ua uc :: Own 91 1 (u32s S.gen) ga gc :: Own 91 1 (u32s S.rel) ra rc :: L) w := hS
  refine WL.r 1 rfl <| WL.nil <| WC.seq <| WC.region <| WL.r 2 rfl <| WL.nw 6 rfl (w64 (by omega)) ?_
  refine WL.run 7 [.slice ua (List.length (bos S.used)) uc] rfl (by exact hS.ld 0 rfl rfl) ?_
  by_cases cg1 : i < (List.length (bos S.used) : Int)
  · refine WL.reb 13 (.bool true) (congrArg Value.bool (decide_eq_true cg1)) <| WL.ung rfl rfl rfl <| WL.r 1 rfl <| WL.ung rfl rfl rfl <| WL.r 1 rfl <| WL.ung rfl rfl rfl <| WL.r 1 rfl <| WL.ung rfl rfl rfl <| WL.run 1 [.slice ua (List.length (bos S.used)) uc] rfl (by exact hS.ld 0 rfl rfl) ?_
    refine WL.ung rfl rfl rfl <| WL.r 1 rfl <| WL.ung rfl rfl rfl ?_
    obtain ⟨x, hx⟩ : ∃ x, S.used[i.toNat]? = some x := ⟨_, List.getElem?_eq_getElem (by omega)⟩
    refine WL.ix rfl rfl (i := i) (i.toNat) el_208 rfl rfl (by omega) (by omega) (hS.rdO 1 rfl (bos_at hx)).1 ?_
    refine WL.ung rfl rfl rfl <| WL.run 3 [.bool x] rfl (by exact (hS.rdO 1 rfl (bos_at hx)).2 0 _ rfl) ?_
    refine WL.nil ?_
    as_aux_lemma =>
    refine WC.ret ?_
    replace hS := St.exClose (f := sltF s S) ⟨ua, uc, ga, gc, ra, rc⟩ hS
    replace hS : St g (Slt s S :: L) w := hS
    refine ⟨[.bool x], rfl, ?_⟩
    first | exact ⟨congrArg Value.bool (by unfold SM.ok; rw [hx]; rfl), hS⟩ | exact ⟨congrArg Value.bool (by unfold SM.ok; rw [List.getElem?_eq_none (by omega)]; rfl), hS⟩
  · refine WL.reb 13 (.bool false) (congrArg Value.bool (decide_eq_false cg1)) <| WL.skp rfl rfl rfl rfl <| WL.skp rfl rfl rfl rfl <| WL.skp rfl rfl rfl rfl <| WL.skp rfl rfl rfl rfl <| WL.skp rfl rfl rfl rfl <| WL.skp rfl rfl rfl rfl <| WL.skp rfl rfl rfl rfl <| WL.r 2 rfl <| WL.nil <| WC.ret ?_
    replace hS := St.exClose (f := sltF s S) ⟨ua, uc, ga, gc, ra, rc⟩ hS
    replace hS : St g (Slt s S :: L) w := hS
    refine ⟨[.bool false], rfl, ?_⟩
    first | exact ⟨congrArg Value.bool (by unfold SM.ok; rw [hx]; rfl), hS⟩ | exact ⟨congrArg Value.bool (by unfold SM.ok; rw [List.getElem?_eq_none (by omega)]; rfl), hS⟩
set_option maxRecDepth 8192 in
theorem sl_gen {g w : World} {L : List HP} (s : Nat) (S : SM) (i : Int) (hl : S.gen.length ≤ 65537) (hi : 0 ≤ i ∧ i < 4294967296) (hS : St g (Slt s S :: L) w) :
    Sp Tryz.prog 248 [.pointer (some ⟨s, 0, none⟩), .int .u32 i] w (fun v w' => v = .int .u32 (S.genOf i) ∧ St g (Slt s S :: L) w') := by
  refine Sp.enter Tryz.func248 rfl (by kernel_rfl) (by kernel_rfl) ?_
  have _ := hi
  have _ := hl
  refine WC.seq <| WC.region <| WL.r 1 rfl <| WL.nil <| WC.seq <| WC.seq <| WC.region ?_
  obtain ⟨⟨ua, uc, ga, gc, ra, rc⟩, hS⟩ := St.exOpen (f := sltF s S) hS; have hbu := bos_len S.used; have hbg := u32s_len S.gen; have hbr := u32s_len S.rel
  replace hS : St g (cel s #[.slice ua (List.length (bos S.used)) uc, .slice ga (List.length (u32s S.gen)) gc, .slice ra (List.length (u32s S.rel)) rc, .int .u32 S.fresh] 210 :: Own 4 1 (bos S.used) ua uc :: Own 91 1 (u32s S.gen) ga gc :: Own 91 1 (u32s S.rel) ra rc :: L) w := hS
  refine WL.r 2 rfl <| WL.nw 6 rfl (w64 (by omega)) ?_
  refine WL.run 6 [.slice ga (List.length (u32s S.gen)) gc] rfl (by exact hS.ld 0 rfl rfl) ?_
  refine WL.nil <| WC.ifP rfl (fun cd1 => ?_) (fun cd1 => ?_)
  · refine WC.seq <| WC.region <| WL.r 1 rfl <| WL.nil <| WC.ret ?_
    replace hS := St.exClose (f := sltF s S) ⟨ua, uc, ga, gc, ra, rc⟩ hS
    replace hS : St g (Slt s S :: L) w := hS
    refine ⟨[.int .u32 0], rfl, ?_⟩
    exact ⟨congrArg (Value.int .u32) (by unfold SM.genOf; rw [List.getElem?_eq_none (by omega)]; rfl), hS⟩
  · refine WC.skip <| WC.seq <| WC.region <| WL.run 5 [.slice ga (List.length (u32s S.gen)) gc] rfl (by exact hS.ld 0 rfl rfl) ?_
    obtain ⟨x, hx⟩ : ∃ x, S.gen[i.toNat]? = some x := ⟨_, List.getElem?_eq_getElem (by omega)⟩
    refine WL.ix rfl rfl (i := i) (i.toNat) el_110 rfl rfl (by omega) (by omega) (hS.rdO 2 rfl (u32s_at hx)).1 ?_
    refine WL.run 2 [.int .u32 x] rfl (by exact (hS.rdO 2 rfl (u32s_at hx)).2 0 _ rfl) ?_
    refine WL.nil <| WC.ret ?_
    replace hS := St.exClose (f := sltF s S) ⟨ua, uc, ga, gc, ra, rc⟩ hS
    replace hS : St g (Slt s S :: L) w := hS
    refine ⟨[.int .u32 x], rfl, ?_⟩
    exact ⟨congrArg (Value.int .u32) (by unfold SM.genOf; rw [hx]; rfl), hS⟩
end Go.Proofs.YtaceaiifbiiagaaGreatDoor
/-! ## S2 -/
namespace Go.Proofs.YtaceaiifbiiagaaGreatDoor
open Go Go.V
theorem rel_nil {S : SM} (h : ¬ 0 ≤ (List.length (u32s S.rel) : Int) - 1) : S.rel = [] := by
  rw [u32s_len] at h
  exact List.length_eq_zero_iff.1 (by omega)
theorem sl_new_close {g w : World} {L : List HP} {n s : Nat} {ua ga : Option Addr} {uc gc : Nat} (hS : St g (cel s #[.slice ua (n + 1) uc, .slice ga (n + 1) gc, .slice none 0 0, .int .u32 0] 210 :: Own 4 1 (bos (List.replicate (n + 1) false)) ua uc :: Own 91 1 (u32s (List.replicate (n + 1) 0)) ga gc :: Own 91 1 [] none 0 :: L) w) : St g (sltF s (SM.new n) ⟨ua, uc, ga, gc, none, 0⟩ ++ L) w := by
  have e1 : (bos (SM.new n).used).length = n + 1 := by simp [SM.new]
  have e2 : (u32s (SM.new n).gen).length = n + 1 := by simp [SM.new]
  unfold sltF
  rw [e1, e2]
  exact hS
set_option maxRecDepth 8192 in
theorem sl_new_bad {g w : World} {L : List HP} (cap : Int) (hc : ¬ (1 ≤ cap ∧ cap ≤ 65536)) (hS : St g (L) w) :
    Sp Tryz.prog 44 [.int .i64 cap] w (fun v w' => v = .tuple #[.pointer none, .int .i64 1] ∧ St g (L) w') := by
  refine Sp.enter Tryz.func44 rfl (by kernel_rfl) (by kernel_rfl) ?_
  have _ := hc
  refine WC.seq <| WC.region <| WL.r 2 rfl <| WL.nil <| WC.seq <| WC.seq <| WC.region <| WL.r 2 rfl <| WL.rG 4 rfl (fun j => ?_)
  refine WL.prop 9 rfl (bor (dd _) (dd _)) <| WL.nil <| WC.ifT rfl (decide_eq_true ((by omega))) ?_
  refine WC.seq <| WC.region <| WL.r 2 rfl <| WL.nil <| WC.ret ?_
  refine ⟨[.pointer none, .int .i64 1], ⟨rfl, rfl⟩, ?_⟩
  exact ⟨rfl, hS⟩
set_option maxRecDepth 8192 in
theorem sl_new_ok {g w : World} {L : List HP} (cap : Int) (hc : 1 ≤ cap ∧ cap ≤ 65536) (hS : St g (L) w) :
    Sp Tryz.prog 44 [.int .i64 cap] w (fun v w' => ∃ (s : Nat), v = .tuple #[.pointer (some ⟨s, 0, none⟩), .int .i64 0] ∧ St g (Slt s (SM.new cap.toNat) :: L) w') := by
  refine Sp.enter Tryz.func44 rfl (by kernel_rfl) (by kernel_rfl) ?_
  have _ := hc
  refine WC.seq <| WC.region <| WL.r 2 rfl <| WL.nil <| WC.seq <| WC.seq <| WC.region <| WL.r 2 rfl <| WL.rG 4 rfl (fun j => ?_)
  refine WL.prop 9 rfl (bor (dd _) (dd _)) <| WL.nil <| WC.ifF rfl (decide_eq_false ((by omega))) ?_
  refine WC.skip <| WC.seq <| WC.tree (.two [0, 3, 1, 4] 2 [3, 4] (.one [] 5 [0, 1] (.one [6] 7 [] (.seg [8, 9] .nil))) 5 [0, 1] (.one [] 2 [3, 4] (.one [6] 7 [] (.seg [8, 9] .nil)))) (by kernel_rfl) (by kernel_rfl) ?_
  refine WQ.r 3 rfl <| WQ.nw 11 rfl (w64 (by omega)) ?_
  refine WQ.r 1 rfl <| WQ.nw 14 rfl (w64 (by omega)) ?_
  refine WQ.nil ?_
  intro m1
  replace hS := hS.drewN m1; generalize hwm1 : World.drewN _ _ = w at *; clear hwm1
  refine ⟨?_, ?_⟩
  · refine WL.make rfl rfl (v := cap + 1) (v' := cap + 1) (cap.toNat + 1) (cap.toNat + 1) el_208 hS rfl (by omega) rfl (by omega) (by omega) (Rm.of (by omega) (by decide)) (fun b1 w hS => ?_)
    replace hS : St g (Own 4 1 (List.replicate (cap.toNat + 1) [.bool false]) (some ⟨b1, 0, none⟩) (cap.toNat + 1) :: L) w := hS
    refine WL.nil ?_
    refine ⟨by exact ⟨RQ.pure rfl rfl rfl rfl, RQ.pure rfl rfl rfl (congrArg (Value.int .i64) (Eq.symm (w64 (by omega))))⟩, ?_⟩
    refine WQ.nil ?_
    intro m2
    replace hS := hS.drewN m2; generalize hwm2 : World.drewN _ _ = w at *; clear hwm2
    refine WL.make rfl rfl (v := cap + 1) (v' := cap + 1) (cap.toNat + 1) (cap.toNat + 1) el_110 hS rfl (by omega) rfl (by omega) (by omega) (Rm.of (by omega) (by decide)) (fun b2 w hS => ?_)
    replace hS := hS.n2 L (a0 := Own 91 1 (List.replicate (cap.toNat + 1) [.int .u32 0]) (some ⟨b2, 0, none⟩) (cap.toNat + 1)) rfl
    refine WL.nil ?_
    refine ⟨by exact ⟨RQ.pure rfl rfl rfl rfl, RQ.pure rfl rfl rfl (congrArg (Value.int .i64) (Eq.symm (w64 (by omega))))⟩, ?_⟩
    refine WQ.build rfl rfl (cs := [.slice (some ⟨b1, 0, none⟩) (cap.toNat + 1) (cap.toNat + 1), .slice (some ⟨b2, 0, none⟩) (cap.toNat + 1) (cap.toNat + 1), .slice none 0 0, .int .u32 0]) zv_210 rfl rfl <| WQ.nil ?_
    intro m3
    replace hS := hS.drewN m3; generalize hwm3 : World.drewN _ _ = w at *; clear hwm3
    refine WL.box rfl rfl #[.slice (some ⟨b1, 0, none⟩) (cap.toNat + 1) (cap.toNat + 1), .slice (some ⟨b2, 0, none⟩) (cap.toNat + 1) (cap.toNat + 1), .slice none 0 0, .int .u32 0] hS rfl rfl (fun b3 w hS => ?_)
    refine WL.nil ?_
    refine ⟨by exact trivial, ?_⟩
    refine WQ.r 2 rfl <| WQ.nil ?_
    intro m4
    replace hS := hS.drewN m4; generalize hwm4 : World.drewN _ _ = w at *; clear hwm4
    as_aux_lemma =>
    refine WC.ret ?_
    rw [bos_rep, u32s_rep] at hS
    first
    | (replace hS : St g (cel b3 #[.slice (some ⟨b1, 0, none⟩) (cap.toNat + 1) (cap.toNat + 1), .slice (some ⟨b2, 0, none⟩) (cap.toNat + 1) (cap.toNat + 1), .slice none 0 0, .int .u32 0] 210 :: Own 4 1 (bos (List.replicate (cap.toNat + 1) false)) (some ⟨b1, 0, none⟩) (cap.toNat + 1) :: Own 91 1 (u32s (List.replicate (cap.toNat + 1) 0)) (some ⟨b2, 0, none⟩) (cap.toNat + 1) :: Own 91 1 [] none 0 :: L) w := (hS.nil_ 91 1).sel 4 [1, 2, 1, 0] rfl; replace hS := St.exClose (f := sltF b3 (SM.new cap.toNat)) ⟨some ⟨b1, 0, none⟩, cap.toNat + 1, some ⟨b2, 0, none⟩, cap.toNat + 1, none, 0⟩ (sl_new_close hS))
    | (replace hS : St g (cel b3 #[.slice (some ⟨b2, 0, none⟩) (cap.toNat + 1) (cap.toNat + 1), .slice (some ⟨b1, 0, none⟩) (cap.toNat + 1) (cap.toNat + 1), .slice none 0 0, .int .u32 0] 210 :: Own 4 1 (bos (List.replicate (cap.toNat + 1) false)) (some ⟨b2, 0, none⟩) (cap.toNat + 1) :: Own 91 1 (u32s (List.replicate (cap.toNat + 1) 0)) (some ⟨b1, 0, none⟩) (cap.toNat + 1) :: Own 91 1 [] none 0 :: L) w := (hS.nil_ 91 1).sel 4 [1, 1, 1, 0] rfl; replace hS := St.exClose (f := sltF b3 (SM.new cap.toNat)) ⟨some ⟨b2, 0, none⟩, cap.toNat + 1, some ⟨b1, 0, none⟩, cap.toNat + 1, none, 0⟩ (sl_new_close hS))
    replace hS : St g (Slt b3 (SM.new cap.toNat) :: L) w := hS
    refine ⟨[.pointer (some ⟨b3, 0, none⟩), .int .i64 0], ⟨rfl, rfl⟩, ?_⟩
    exact ⟨_, rfl, hS⟩
  · refine WL.make rfl rfl (v := cap + 1) (v' := cap + 1) (cap.toNat + 1) (cap.toNat + 1) el_110 hS rfl (by omega) rfl (by omega) (by omega) (Rm.of (by omega) (by decide)) (fun b1 w hS => ?_)
    replace hS : St g (Own 91 1 (List.replicate (cap.toNat + 1) [.int .u32 0]) (some ⟨b1, 0, none⟩) (cap.toNat + 1) :: L) w := hS
    refine WL.nil ?_
    refine ⟨by exact ⟨RQ.pure rfl rfl rfl rfl, RQ.pure rfl rfl rfl (congrArg (Value.int .i64) (Eq.symm (w64 (by omega))))⟩, ?_⟩
    refine WQ.nil ?_
    intro m2
    replace hS := hS.drewN m2; generalize hwm2 : World.drewN _ _ = w at *; clear hwm2
    refine WL.make rfl rfl (v := cap + 1) (v' := cap + 1) (cap.toNat + 1) (cap.toNat + 1) el_208 hS rfl (by omega) rfl (by omega) (by omega) (Rm.of (by omega) (by decide)) (fun b2 w hS => ?_)
    replace hS := hS.n2 L (a0 := Own 4 1 (List.replicate (cap.toNat + 1) [.bool false]) (some ⟨b2, 0, none⟩) (cap.toNat + 1)) rfl
    refine WL.nil ?_
    refine ⟨by exact ⟨RQ.pure rfl rfl rfl rfl, RQ.pure rfl rfl rfl (congrArg (Value.int .i64) (Eq.symm (w64 (by omega))))⟩, ?_⟩
    refine WQ.build rfl rfl (cs := [.slice (some ⟨b2, 0, none⟩) (cap.toNat + 1) (cap.toNat + 1), .slice (some ⟨b1, 0, none⟩) (cap.toNat + 1) (cap.toNat + 1), .slice none 0 0, .int .u32 0]) zv_210 rfl rfl <| WQ.nil ?_
    intro m3
    replace hS := hS.drewN m3; generalize hwm3 : World.drewN _ _ = w at *; clear hwm3
    refine WL.box rfl rfl #[.slice (some ⟨b2, 0, none⟩) (cap.toNat + 1) (cap.toNat + 1), .slice (some ⟨b1, 0, none⟩) (cap.toNat + 1) (cap.toNat + 1), .slice none 0 0, .int .u32 0] hS rfl rfl (fun b3 w hS => ?_)
    refine WL.nil ?_
    refine ⟨by exact trivial, ?_⟩
    refine WQ.r 2 rfl <| WQ.nil ?_
    intro m4
    replace hS := hS.drewN m4; generalize hwm4 : World.drewN _ _ = w at *; clear hwm4
    as_aux_lemma =>
    refine WC.ret ?_
    rw [bos_rep, u32s_rep] at hS
    first
    | (replace hS : St g (cel b3 #[.slice (some ⟨b1, 0, none⟩) (cap.toNat + 1) (cap.toNat + 1), .slice (some ⟨b2, 0, none⟩) (cap.toNat + 1) (cap.toNat + 1), .slice none 0 0, .int .u32 0] 210 :: Own 4 1 (bos (List.replicate (cap.toNat + 1) false)) (some ⟨b1, 0, none⟩) (cap.toNat + 1) :: Own 91 1 (u32s (List.replicate (cap.toNat + 1) 0)) (some ⟨b2, 0, none⟩) (cap.toNat + 1) :: Own 91 1 [] none 0 :: L) w := (hS.nil_ 91 1).sel 4 [1, 2, 1, 0] rfl; replace hS := St.exClose (f := sltF b3 (SM.new cap.toNat)) ⟨some ⟨b1, 0, none⟩, cap.toNat + 1, some ⟨b2, 0, none⟩, cap.toNat + 1, none, 0⟩ (sl_new_close hS))
    | (replace hS : St g (cel b3 #[.slice (some ⟨b2, 0, none⟩) (cap.toNat + 1) (cap.toNat + 1), .slice (some ⟨b1, 0, none⟩) (cap.toNat + 1) (cap.toNat + 1), .slice none 0 0, .int .u32 0] 210 :: Own 4 1 (bos (List.replicate (cap.toNat + 1) false)) (some ⟨b2, 0, none⟩) (cap.toNat + 1) :: Own 91 1 (u32s (List.replicate (cap.toNat + 1) 0)) (some ⟨b1, 0, none⟩) (cap.toNat + 1) :: Own 91 1 [] none 0 :: L) w := (hS.nil_ 91 1).sel 4 [1, 1, 1, 0] rfl; replace hS := St.exClose (f := sltF b3 (SM.new cap.toNat)) ⟨some ⟨b2, 0, none⟩, cap.toNat + 1, some ⟨b1, 0, none⟩, cap.toNat + 1, none, 0⟩ (sl_new_close hS))
    replace hS : St g (Slt b3 (SM.new cap.toNat) :: L) w := hS
    refine ⟨[.pointer (some ⟨b3, 0, none⟩), .int .i64 0], ⟨rfl, rfl⟩, ?_⟩
    exact ⟨_, rfl, hS⟩
set_option maxRecDepth 8192 in
theorem sl_alloc_ok {g w : World} {L : List HP} (s : Nat) (S : SM) (hO : SOk S) (hf : 0 < S.free) (hS : St g (Slt s S :: L) w) :
    Sp Tryz.prog 161 [.pointer (some ⟨s, 0, none⟩)] w (fun v w' => v = .tuple #[.int .u32 S.next, .int .i64 0] ∧ St g (Slt s S.alloc :: L) w') := by
  refine Sp.enter Tryz.func161 rfl (by kernel_rfl) (by kernel_rfl) ?_
  refine WC.seq <| WC.region <| WL.r 2 rfl <| WL.nil <| WC.seq <| WC.seq <| WC.region <| WL.r 1 rfl <| WL.call rfl rfl (sl_free  (hO := (by assumption)) (hS := hS)) rfl ?_
  clear hS; rintro _ w ⟨rfl, hS⟩
  replace hS := hS.n1 L rfl
  refine WL.r 1 rfl <| WL.nil <| WC.ifF rfl (decide_eq_false ((by omega))) ?_
  refine WC.skip <| WC.seq <| WC.region <| WL.r 1 rfl <| WL.nil <| WC.seq <| WC.seq <| WC.region ?_
  have hfr := hO.fr; have hcp : S.cap = (S.used.length : Int) - 1 := rfl; have hle := hO.cap; have hrl := hO.rle; have hnx := S.next_rng hO hf; have hgl := hO.gl
  obtain ⟨⟨ua, uc, ga, gc, ra, rc⟩, hS⟩ := St.exOpen (f := sltF s S) hS; have hbu := bos_len S.used; have hbg := u32s_len S.gen; have hbr := u32s_len S.rel
  replace hS : St g (cel s #[.slice ua (List.length (bos S.used)) uc, .slice ga (List.length (u32s S.gen)) gc, .slice ra (List.length (u32s S.rel)) rc, .int .u32 S.fresh] 210 :: Own 4 1 (bos S.used) ua uc :: Own 91 1 (u32s S.gen) ga gc :: Own 91 1 (u32s S.rel) ra rc :: L) w := hS
  refine WL.run 6 [.slice ra (List.length (u32s S.rel)) rc] rfl (by exact hS.ld 0 rfl rfl) ?_
  refine WL.nw 14 rfl (w64 (by omega)) ?_
  refine WL.r 1 rfl <| WL.nil ?_
  as_aux_lemma =>
  refine WC.seq <| WC.region <| WL.r 2 rfl <| WL.nil <| WC.cut [0, 2, 3, 4] (fun vs w => ∃ (nx : Int) (rl : List Int) (fr : Int) (ra2 : Option Addr) (rc2 : Nat), vs = [.pointer (some ⟨s, 0, none⟩), .int .u32 0, .int .i64 0, .int .u32 nx] ∧ St g (cel s #[.slice ua (List.length (bos S.used)) uc, .slice ga (List.length (u32s S.gen)) gc, .slice ra2 (List.length (u32s rl)) rc2, .int .u32 fr] 210 :: Own 4 1 (bos S.used) ua uc :: Own 91 1 (u32s S.gen) ga gc :: Own 91 1 (u32s rl) ra2 rc2 :: L) w ∧ (nx = S.next) ∧ (rl = S.alloc.rel) ∧ (fr = S.alloc.fresh)) ?_ ?_
  · refine WC.ifP rfl (fun cd1 => ?_) (fun cd1 => ?_)
    · refine WC.seq <| WC.region <| WL.run 5 [.slice ra (List.length (u32s S.rel)) rc] rfl (by exact hS.ld 0 rfl rfl) ?_
      have hne : S.rel ≠ [] := (fun e => by have h9 := congrArg List.length e; rw [List.length_nil] at h9; omega); have hx : S.rel[S.rel.length - 1]? = some S.next := by rw [rel_split hne]; simp
      refine WL.ix rfl rfl (i := (List.length (u32s S.rel) : Int) - 1) (S.rel.length - 1) el_110 rfl rfl (by omega) (by omega) (hS.rdO 3 rfl (u32s_at hx)).1 ?_
      refine WL.run 2 [.int .u32 S.next] rfl (by exact (hS.rdO 3 rfl (u32s_at hx)).2 0 _ rfl) ?_
      refine WL.nil <| WC.region <| WL.run 6 [.slice ra (List.length (u32s S.rel)) rc] rfl (by exact hS.ld 0 rfl rfl) ?_
      refine WL.slOwn rfl rfl (v := (List.length (u32s S.rel) : Int) - 1) 3 (S.rel.length - 1) (u32s (S.rel.take (S.rel.length - 1))) el_110 hS rfl rfl rfl (by omega) (by omega) (u32s_take _ _) (fun hS => ?_)
      replace hS := hS.n4 L (a3 := Own 91 1 (u32s (S.rel.take ((List.length S.rel) - 1))) ra rc) rfl
      refine WL.r 2 rfl <| WL.st rfl rfl rfl 0 hS rfl rfl rfl rfl rfl rfl (fun w hS => ?_)
      replace hS := hS.n4 L (a0 := cel s #[.slice ua (List.length (bos S.used)) uc, .slice ga (List.length (u32s S.gen)) gc, .slice ra (List.length (u32s (S.rel.take ((List.length S.rel) - 1)))) rc, .int .u32 S.fresh] 210) rfl
      refine WL.nil ?_
      exact ⟨S.next, S.rel.take (S.rel.length - 1), S.fresh, ra, rc, rfl, hS, (rfl), (List.dropLast_eq_take (l := S.rel)).symm, (if_neg hne).symm⟩
    · refine WC.seq <| WC.region <| WL.run 5 [.int .u32 S.fresh] rfl (by exact hS.ld 0 rfl rfl) ?_
      refine WL.nw 37 rfl (wu32 (by omega)) ?_
      refine WL.r 2 rfl <| WL.st rfl rfl rfl 0 hS rfl rfl rfl rfl rfl rfl (fun w hS => ?_)
      replace hS := hS.n4 L (a0 := cel s #[.slice ua (List.length (bos S.used)) uc, .slice ga (List.length (u32s S.gen)) gc, .slice ra (List.length (u32s S.rel)) rc, .int .u32 (S.fresh + 1)] 210) rfl
      refine WL.nil <| WC.region <| WL.run 5 [.int .u32 (S.fresh + 1)] rfl (by exact hS.ld 0 rfl rfl) ?_
      refine WL.nil ?_
      exact ⟨S.fresh + 1, S.rel, S.fresh + 1, ra, rc, rfl, hS, (SM.next_nil (rel_nil cd1)).symm, (by show S.rel = S.rel.dropLast; rw [rel_nil cd1]; rfl), (if_pos (rel_nil cd1)).symm⟩
  clear hS; rintro _ w j ⟨nx, rl, fr, ra2, rc2, rfl, hS, hnx, hrl, hfr⟩
  refine WC.seq <| WC.region <| WL.run 5 [.slice ua (List.length (bos S.used)) uc] rfl (by exact hS.ld 0 rfl rfl) ?_
  obtain ⟨u, hu⟩ : ∃ u, S.used[nx.toNat]? = some u := ⟨_, List.getElem?_eq_getElem (by omega)⟩
  refine WL.ix rfl rfl (i := nx) (nx.toNat) el_208 rfl rfl (by omega) (by omega) (hS.rdO 1 rfl (bos_at hu)).1 ?_
  refine WL.stE rfl rfl rfl 1 (nx.toNat) 0 [.bool u] (bos (S.used.set nx.toNat true)) hS rfl (bos_at hu) rfl rfl rfl rfl rfl (bos_set _ _ _) (fun w hS => ?_)
  replace hS := hS.n4 L (a1 := Own 4 1 (bos (S.used.set nx.toNat true)) ua uc) rfl
  refine WL.nil <| WC.seq <| WC.region <| WL.run 5 [.slice ga (List.length (u32s S.gen)) gc] rfl (by exact hS.ld 0 rfl rfl) ?_
  obtain ⟨v, hv⟩ : ∃ v, S.gen[nx.toNat]? = some v := ⟨_, List.getElem?_eq_getElem (by omega)⟩
  refine WL.ix rfl rfl (i := nx) (nx.toNat) el_110 rfl rfl (by omega) (by omega) (hS.rdO 2 rfl (u32s_at hv)).1 ?_
  refine WL.run 2 [.int .u32 v] rfl (by exact (hS.rdO 2 rfl (u32s_at hv)).2 0 _ rfl) ?_
  refine WL.reb 57 (.int .u32 ((v + 1) % 4294967296)) (congrArg (Value.int .u32) (by rfl)) ?_
  refine WL.ix rfl rfl (i := nx) (nx.toNat) el_110 rfl rfl (by omega) (by omega) (hS.rdO 2 rfl (u32s_at hv)).1 ?_
  refine WL.stE rfl rfl rfl 2 (nx.toNat) 0 [.int .u32 v] (u32s (S.gen.set nx.toNat ((v + 1) % 4294967296))) hS rfl (u32s_at hv) rfl rfl rfl rfl rfl (u32s_set _ _ _) (fun w hS => ?_)
  replace hS := hS.n4 L (a2 := Own 91 1 (u32s (S.gen.set nx.toNat ((v + 1) % 4294967296))) ga gc) rfl
  refine WL.nil ?_
  as_aux_lemma =>
  refine WC.seq <| WC.region <| WL.r 3 rfl <| WL.nil <| WC.ret ?_
  replace hS := St.exClose (f := sltF s S.alloc) ⟨ua, uc, ga, gc, ra2, rc2⟩ (by
    subst hnx; subst hrl; subst hfr
    have hge : S.genOf S.next = v := by unfold SM.genOf; rw [hv]; rfl
    have e1 : (bos S.alloc.used).length = (bos S.used).length := by simp [SM.alloc]
    have e2 : (u32s S.alloc.gen).length = (u32s S.gen).length := by simp [SM.alloc]
    have e3 : S.alloc.gen = S.gen.set S.next.toNat ((v + 1) % 4294967296) := by rw [← hge]; rfl
    unfold sltF
    rw [e1, e2, e3]
    exact hS)
  replace hS : St g (Slt s S.alloc :: L) w := hS
  refine ⟨[.int .u32 nx, .int .i64 0], ⟨rfl, rfl⟩, ?_⟩
  exact ⟨by rw [hnx]; rfl, hS⟩
end Go.Proofs.YtaceaiifbiiagaaGreatDoor
/-! ## T1 -/
namespace Go.Proofs.YtaceaiifbiiagaaGreatDoor
open Go Go.V
set_option maxRecDepth 8192 in
theorem pack_spec {g w : World} {L : List HP} (i n : Int) (hi : 0 ≤ i ∧ i < 4294967296) (hn : 0 ≤ n ∧ n < 4294967296) (hS : St g (L) w) :
    Sp Tryz.prog 247 [.int .u32 i, .int .u32 n] w (fun v w' => v = .int .u64 (n * 4294967296 + i) ∧ St g (L) w') := by
  refine Sp.enter Tryz.func247 rfl (by kernel_rfl) (by kernel_rfl) ?_
  refine WC.seq <| WC.region <| WL.r 1 rfl <| WL.nil <| WC.seq <| WC.region <| WL.r 2 rfl <| WL.nw 6 rfl (wu64 (by omega)) ?_
  refine WL.r 1 rfl <| WL.r 2 rfl <| WL.nw 9 rfl (wu64 (by omega)) ?_
  refine WL.r 1 rfl <| WL.reb 10 (.int .u64 (n * 4294967296 + i)) (congrArg (Value.int .u64) (by exact pack_or hi hn)) ?_
  refine WL.r 1 rfl <| WL.nil <| WC.ret ?_
  refine ⟨[.int .u64 (n * 4294967296 + i)], rfl, ?_⟩
  exact ⟨rfl, hS⟩
set_option maxRecDepth 8192 in
theorem unpack_spec {g w : World} {L : List HP} (h : Int) (hh : 0 ≤ h ∧ h ≤ 18446744073709551615) (hS : St g (L) w) :
    Sp Tryz.prog 244 [.int .u64 h] w (fun v w' => v = .tuple #[.int .u32 (h % 4294967296), .int .u32 (h / 4294967296)] ∧ St g (L) w') := by
  refine Sp.enter Tryz.func244 rfl (by kernel_rfl) (by kernel_rfl) ?_
  have _ := hh
  refine WC.seq <| WC.region <| WL.r 2 rfl <| WL.nil <| WC.seq <| WC.region <| WL.r 2 rfl <| WL.reb 5 (.int .u32 (h % 4294967296)) (congrArg (Value.int .u32) (by rfl)) ?_
  refine WL.r 2 rfl <| WL.reb 7 (.int .u64 (h / 4294967296)) (congrArg (Value.int .u64) (by rfl)) ?_
  refine WL.r 1 rfl <| WL.reb 8 (.int .u32 (h / 4294967296)) (congrArg (Value.int .u32) (by show (h / 4294967296) % 4294967296 = h / 4294967296; omega)) ?_
  refine WL.r 2 rfl <| WL.nil <| WC.ret ?_
  refine ⟨[.int .u32 (h % 4294967296), .int .u32 (h / 4294967296)], ⟨rfl, rfl⟩, ?_⟩
  exact ⟨rfl, hS⟩
set_option maxRecDepth 8192 in
theorem hd0 {g w : World} {L : List HP} (t p : Nat) (S : SM) (va : Option Addr) (n vc : Nat) (i : Int) (hO : SOk S) (hi : 0 ≤ i ∧ i < 4294967296) (hS : St g (cel t #[.pointer (some ⟨p, 0, none⟩), .slice va n vc] 112 :: Slt p S :: L) w) :
    Sp Tryz.prog 162 [.pointer (some ⟨t, 0, none⟩), .int .u32 i] w (fun v w' => v = .int .u64 (S.hd i) ∧ St g (cel t #[.pointer (some ⟨p, 0, none⟩), .slice va n vc] 112 :: Slt p S :: L) w') := by
  refine Sp.enter Tryz.func162 rfl (by kernel_rfl) (by kernel_rfl) ?_
  have _ := hi
  refine WC.seq <| WC.region ?_
  have hg := hO.gen_rng i
  refine WL.r 1 rfl <| WL.nil <| WC.seq <| WC.region <| WL.run 6 [.pointer (some ⟨p, 0, none⟩)] rfl (by exact hS.ld 0 rfl rfl) ?_
  refine WL.call rfl rfl (sl_gen (i := i) (hl := (by first | assumption | exact SOk.gle (by assumption))) (hi := (by omega)) (hS := (hS.sel 2 [1, 0] rfl))) rfl ?_
  clear hS; rintro _ w ⟨rfl, hS⟩
  replace hS := hS.n2 L rfl
  refine WL.call rfl rfl (pack_spec (i := i) (n := S.genOf i) (hi := (by omega)) (hn := (by first | omega | exact SOk.gen_rng (by assumption) _)) (hS := hS)) rfl ?_
  clear hS; rintro _ w ⟨rfl, hS⟩
  replace hS := hS.n2 L rfl
  refine WL.r 1 rfl <| WL.nil <| WC.ret ?_
  refine ⟨[.int .u64 ((S.genOf i) * 4294967296 + i)], rfl, ?_⟩
  replace hS := (hS.sel 2 [1, 0] rfl)
  exact ⟨rfl, hS⟩
set_option maxRecDepth 8192 in
theorem ent0 {g w : World} {L : List HP} (t p : Nat) (S : SM) (va : Option Addr) (n vc : Nat) (h : Int) (hO : SOk S) (hh : 0 ≤ h ∧ h ≤ 18446744073709551615) (hS : St g (cel t #[.pointer (some ⟨p, 0, none⟩), .slice va n vc] 112 :: Slt p S :: L) w) :
    Sp Tryz.prog 154 [.pointer (some ⟨t, 0, none⟩), .int .u64 h] w (fun v w' => v = .tuple #[.int .u32 (h % 4294967296), .bool (S.opn h)] ∧ St g (cel t #[.pointer (some ⟨p, 0, none⟩), .slice va n vc] 112 :: Slt p S :: L) w') := by
  refine Sp.enter Tryz.func154 rfl (by kernel_rfl) (by kernel_rfl) ?_
  have _ := hh
  have _ := hO
  refine WC.seq <| WC.region <| WL.r 2 rfl <| WL.nil <| WC.seq <| WC.region <| WL.r 1 rfl <| WL.call rfl rfl (unpack_spec (h := h) (hh := (by omega)) (hS := hS)) rfl ?_
  clear hS; rintro _ w ⟨rfl, hS⟩
  replace hS := hS.n2 L rfl
  refine WL.r 5 rfl <| WL.nil <| WC.seq <| WC.region <| WL.run 6 [.pointer (some ⟨p, 0, none⟩)] rfl (by exact hS.ld 0 rfl rfl) ?_
  refine WL.call rfl rfl (sl_ok (i := h % 4294967296) (hl := (by first | assumption | exact SOk.le (by assumption))) (hi := (by omega)) (hS := (hS.sel 2 [1, 0] rfl))) rfl ?_
  clear hS; rintro _ w ⟨rfl, hS⟩
  replace hS := hS.n2 L rfl
  refine WL.r 1 rfl ?_
  by_cases cg1 : (S.ok (h % 4294967296)) = true
  · refine WL.reb 20 (.bool true) (congrArg Value.bool cg1) <| WL.ung rfl rfl rfl <| WL.r 1 rfl <| WL.ung rfl rfl rfl <| WL.r 1 rfl <| WL.ung rfl rfl rfl <| WL.call rfl rfl (hd0 (va := va) (n := n) (vc := vc) (i := h % 4294967296) (hO := (by assumption)) (hi := (by omega)) (hS := (hS.sel 2 [1, 0] rfl))) rfl ?_
    clear hS; rintro _ w ⟨rfl, hS⟩
    replace hS := hS.n2 L rfl
    refine WL.ung rfl rfl rfl <| WL.r 1 rfl <| WL.ung rfl rfl rfl <| WL.r 4 rfl <| WL.nil ?_
    as_aux_lemma =>
    refine WC.ret ?_
    refine ⟨[.int .u32 (h % 4294967296), .bool (decide ((S.hd (h % 4294967296)) = h))], ⟨rfl, rfl⟩, ?_⟩
    first | exact ⟨congrArg (fun b => Value.tuple #[.int .u32 (h % 4294967296), .bool b]) (by unfold SM.opn; rw [show S.ok (h % 4294967296) = true from cg1]; rfl), hS⟩ | exact ⟨congrArg (fun b => Value.tuple #[.int .u32 (h % 4294967296), .bool b]) (by unfold SM.opn; rw [Bool.eq_false_iff.2 cg1]; rfl), hS⟩
  · refine WL.reb 20 (.bool false) (congrArg Value.bool (Bool.eq_false_iff.2 cg1)) <| WL.skp rfl rfl rfl rfl <| WL.skp rfl rfl rfl rfl <| WL.skp rfl rfl rfl rfl <| WL.skp rfl rfl rfl rfl <| WL.skp rfl rfl rfl rfl <| WL.r 3 rfl <| WL.nil ?_
    as_aux_lemma =>
    refine WC.ret ?_
    refine ⟨[.int .u32 (h % 4294967296), .bool false], ⟨rfl, rfl⟩, ?_⟩
    replace hS := (hS.sel 2 [1, 0] rfl)
    first | exact ⟨congrArg (fun b => Value.tuple #[.int .u32 (h % 4294967296), .bool b]) (by unfold SM.opn; rw [show S.ok (h % 4294967296) = true from cg1]; rfl), hS⟩ | exact ⟨congrArg (fun b => Value.tuple #[.int .u32 (h % 4294967296), .bool b]) (by unfold SM.opn; rw [Bool.eq_false_iff.2 cg1]; rfl), hS⟩
set_option maxRecDepth 8192 in
theorem tb_lookup_bad {g w : World} {L : List HP} (t : Nat) (T : TM) (h : Int) (hT : TOk T) (hh : 0 ≤ h ∧ h ≤ 18446744073709551615) (hn : T.s.opn h = false) (hS : St g (Tbl t T :: L) w) :
    Sp Tryz.prog 117 [.pointer (some ⟨t, 0, none⟩), .int .u64 h] w (fun v w' => v = .tuple #[.int .u32 0, .int .i64 5] ∧ St g (Tbl t T :: L) w') := by
  refine Sp.enter Tryz.func117 rfl (by kernel_rfl) (by kernel_rfl) ?_
  refine WC.seq <| WC.region <| WL.r 2 rfl <| WL.nil <| WC.seq <| WC.region ?_
  obtain ⟨⟨p, va, vc⟩, hS⟩ := St.exOpen (f := tblF t T) hS; have hbv := u32s_len T.vals; have hTs := hT.s; have hvl := hT.vl; have hcp := hTs.cap
  replace hS : St g (cel t #[.pointer (some ⟨p, 0, none⟩), .slice va (List.length (u32s T.vals)) vc] 112 :: Slt p T.s :: Own 91 1 (u32s T.vals) va vc :: L) w := hS
  refine WL.r 2 rfl <| WL.call rfl rfl (ent0 (S := T.s) (va := va) (n := List.length (u32s T.vals)) (vc := vc) (h := h) (hO := (by assumption)) (hh := hh) (hS := hS)) rfl ?_
  clear hS; rintro _ w ⟨rfl, hS⟩
  replace hS := hS.n3 L rfl
  refine WL.r 5 rfl <| WL.nil <| WC.seq <| WC.seq <| WC.region <| WL.r 2 rfl <| WL.nil <| WC.ifT rfl (by rw [hn]; rfl) ?_
  refine WC.seq <| WC.region <| WL.r 2 rfl <| WL.nil ?_
  as_aux_lemma =>
  refine WC.ret ?_
  replace hS := St.exClose (f := tblF t T) ⟨p, va, vc⟩ hS
  replace hS : St g (Tbl t T :: L) w := hS
  refine ⟨[.int .u32 0, .int .i64 5], ⟨rfl, rfl⟩, ?_⟩
  exact ⟨rfl, hS⟩
set_option maxRecDepth 8192 in
theorem tb_lookup_ok {g w : World} {L : List HP} (t : Nat) (T : TM) (h : Int) (hT : TOk T) (hh : 0 ≤ h ∧ h ≤ 18446744073709551615) (hn : T.s.opn h = true) (hS : St g (Tbl t T :: L) w) :
    Sp Tryz.prog 117 [.pointer (some ⟨t, 0, none⟩), .int .u64 h] w (fun v w' => v = .tuple #[.int .u32 (T.val h), .int .i64 0] ∧ St g (Tbl t T :: L) w') := by
  refine Sp.enter Tryz.func117 rfl (by kernel_rfl) (by kernel_rfl) ?_
  refine WC.seq <| WC.region <| WL.r 2 rfl <| WL.nil <| WC.seq <| WC.region ?_
  obtain ⟨⟨p, va, vc⟩, hS⟩ := St.exOpen (f := tblF t T) hS; have hbv := u32s_len T.vals; have hTs := hT.s; have hvl := hT.vl; have hcp := hTs.cap
  replace hS : St g (cel t #[.pointer (some ⟨p, 0, none⟩), .slice va (List.length (u32s T.vals)) vc] 112 :: Slt p T.s :: Own 91 1 (u32s T.vals) va vc :: L) w := hS
  refine WL.r 2 rfl <| WL.call rfl rfl (ent0 (S := T.s) (va := va) (n := List.length (u32s T.vals)) (vc := vc) (h := h) (hO := (by assumption)) (hh := hh) (hS := hS)) rfl ?_
  clear hS; rintro _ w ⟨rfl, hS⟩
  replace hS := hS.n3 L rfl
  refine WL.r 5 rfl <| WL.nil <| WC.seq <| WC.seq <| WC.region <| WL.r 2 rfl <| WL.nil <| WC.ifF rfl (by rw [hn]; decide) ?_
  refine WC.skip <| WC.seq <| WC.region ?_
  have hrg := SM.ok_rng hTs (by omega) (SM.opn_ok hn).1
  refine WL.run 5 [.slice va (List.length (u32s T.vals)) vc] rfl (by exact hS.ld 0 rfl rfl) ?_
  obtain ⟨v, hv⟩ : ∃ v, T.vals[(h % 4294967296).toNat]? = some v := ⟨_, List.getElem?_eq_getElem (by omega)⟩
  refine WL.ix rfl rfl (i := h % 4294967296) ((h % 4294967296).toNat) el_110 rfl rfl (by omega) (by omega) (hS.rdO 2 rfl (u32s_at hv)).1 ?_
  refine WL.run 3 [.int .u32 v] rfl (by exact (hS.rdO 2 rfl (u32s_at hv)).2 0 _ rfl) ?_
  refine WL.nil ?_
  as_aux_lemma =>
  refine WC.ret ?_
  replace hS := St.exClose (f := tblF t T) ⟨p, va, vc⟩ hS
  replace hS : St g (Tbl t T :: L) w := hS
  refine ⟨[.int .u32 v, .int .i64 0], ⟨rfl, rfl⟩, ?_⟩
  exact ⟨by rw [TM.val, hv]; rfl, hS⟩
set_option maxRecDepth 8192 in
theorem tb_len {g w : World} {L : List HP} (t : Nat) (T : TM) (hT : TOk T) (hS : St g (Tbl t T :: L) w) :
    Sp Tryz.prog 52 [.pointer (some ⟨t, 0, none⟩)] w (fun v w' => v = .int .i64 (T.s.cap - T.s.free) ∧ St g (Tbl t T :: L) w') := by
  refine Sp.enter Tryz.func52 rfl (by kernel_rfl) (by kernel_rfl) ?_
  refine WC.seq <| WC.region ?_
  have hfr := hT.s.fr; have hrl := hT.s.rle; have hcp0 := hT.s.cap; have e1 : T.s.cap = (T.s.used.length : Int) - 1 := rfl; have e2 : T.s.free = (T.s.rel.length : Int) + T.s.cap - T.s.fresh := rfl
  obtain ⟨⟨p, va, vc⟩, hS⟩ := St.exOpen (f := tblF t T) hS; have hbv := u32s_len T.vals; have hTs := hT.s; have hvl := hT.vl; have hcp := hTs.cap
  replace hS : St g (cel t #[.pointer (some ⟨p, 0, none⟩), .slice va (List.length (u32s T.vals)) vc] 112 :: Slt p T.s :: Own 91 1 (u32s T.vals) va vc :: L) w := hS
  refine WL.r 1 rfl <| WL.nil <| WC.seq <| WC.plan [([0, 5, 1, 6, 2, 7, 3, 8], some (4, [5, 6, 7, 8])), ([], some (9, [])), ([10, 11], none)] (by kernel_rfl) (by kernel_rfl) ?_
  refine WQ.run 8 [.pointer (some ⟨p, 0, none⟩), .pointer (some ⟨p, 0, none⟩)] rfl (by exact ⟨hS.ld 0 rfl rfl, hS.ld 0 rfl rfl⟩) ?_
  refine WQ.nil ?_
  intro m1
  replace hS := hS.drewN m1; generalize hwm1 : World.drewN _ _ = w at *; clear hwm1
  refine WL.call rfl rfl (sl_cap (S := T.s) (hl := (by first | assumption | exact SOk.le (by assumption))) (hS := (hS.sel 2 [1, 0] rfl))) rfl ?_
  clear hS; rintro _ w ⟨rfl, hS⟩
  replace hS := hS.n3 L rfl
  refine WL.nil ?_
  refine ⟨by exact ⟨RQ.pure rfl rfl rfl rfl, RQ.pure rfl rfl rfl rfl, RQ.pure rfl rfl rfl rfl, RQ.load rfl rfl rfl rfl (hS.ld 1 rfl rfl)⟩, ?_⟩
  refine WQ.nil ?_
  intro m2
  replace hS := hS.drewN m2; generalize hwm2 : World.drewN _ _ = w at *; clear hwm2
  refine WL.call rfl rfl (sl_free (S := T.s) (hO := (by assumption)) (hS := hS)) rfl ?_
  clear hS; rintro _ w ⟨rfl, hS⟩
  replace hS := hS.n3 L rfl
  refine WL.nil ?_
  refine ⟨by exact trivial, ?_⟩
  refine WQ.r 1 rfl <| WQ.nw 13 rfl (w64 (by omega)) ?_
  refine WQ.r 1 rfl <| WQ.nil ?_
  intro m3
  replace hS := hS.drewN m3; generalize hwm3 : World.drewN _ _ = w at *; clear hwm3
  as_aux_lemma =>
  refine WC.ret ?_
  replace hS := St.exClose (f := tblF t T) ⟨p, va, vc⟩ (by first | exact hS | exact hS.sel 3 [1, 0, 0] rfl)
  replace hS : St g (Tbl t T :: L) w := hS
  refine ⟨[.int .i64 (T.s.cap - T.s.free)], rfl, ?_⟩
  exact ⟨rfl, hS⟩
set_option maxRecDepth 8192 in
theorem tb_open_ok {g w : World} {L : List HP} (t : Nat) (T : TM) (y : Int) (hT : TOk T) (hf : 0 < T.s.free) (hS : St g (Tbl t T :: L) w) :
    Sp Tryz.prog 74 [.pointer (some ⟨t, 0, none⟩), .int .u32 y] w (fun v w' => v = .tuple #[.int .u64 T.newH, .int .i64 0] ∧ St g (Tbl t (T.open y) :: L) w') := by
  refine Sp.enter Tryz.func74 rfl (by kernel_rfl) (by kernel_rfl) ?_
  refine WC.seq <| WC.region <| WL.r 2 rfl <| WL.nil <| WC.seq <| WC.region ?_
  obtain ⟨⟨p, va, vc⟩, hS⟩ := St.exOpen (f := tblF t T) hS; have hbv := u32s_len T.vals; have hTs := hT.s; have hvl := hT.vl; have hcp := hTs.cap
  replace hS : St g (cel t #[.pointer (some ⟨p, 0, none⟩), .slice va (List.length (u32s T.vals)) vc] 112 :: Slt p T.s :: Own 91 1 (u32s T.vals) va vc :: L) w := hS
  refine WL.run 4 [.pointer (some ⟨p, 0, none⟩)] rfl (by exact hS.ld 0 rfl rfl) ?_
  refine WL.call rfl rfl (sl_alloc_ok (S := T.s) (hO := (by assumption)) (hf := hf) (hS := (hS.sel 2 [1, 0] rfl))) rfl ?_
  clear hS; rintro _ w ⟨rfl, hS⟩
  replace hS := hS.n3 L (a0 := Slt p T.s.alloc) rfl
  refine WL.r 5 rfl <| WL.nil <| WC.seq <| WC.seq <| WC.region <| WL.r 2 rfl <| WL.nil <| WC.ifF rfl (decide_eq_false ((by decide))) ?_
  refine WC.skip <| WC.seq <| WC.region ?_
  have hnx := T.s.next_rng hTs hf; have hO2 := SM.alloc_sok hTs hf
  refine WL.run 6 [.slice va (List.length (u32s T.vals)) vc] rfl (by exact hS.ld 1 rfl rfl) ?_
  obtain ⟨u, hv⟩ : ∃ u, T.vals[T.s.next.toNat]? = some u := ⟨_, List.getElem?_eq_getElem (by omega)⟩
  refine WL.ix rfl rfl (i := T.s.next) (T.s.next.toNat) el_110 rfl rfl (by omega) (by omega) (hS.rdO 2 rfl (u32s_at hv)).1 ?_
  refine WL.stE rfl rfl rfl 2 (T.s.next.toNat) 0 [.int .u32 u] (u32s (T.vals.set T.s.next.toNat y)) hS rfl (u32s_at hv) rfl rfl rfl rfl rfl (u32s_set _ _ _) (fun w hS => ?_)
  replace hS := hS.n3 L (a2 := Own 91 1 (u32s (T.vals.set T.s.next.toNat y)) va vc) rfl
  refine WL.nil ?_
  as_aux_lemma =>
  refine WC.seq <| WC.region <| WL.r 2 rfl <| WL.call rfl rfl (hd0 (S := T.s.alloc) (va := va) (n := List.length (u32s T.vals)) (vc := vc) (i := T.s.next) (hO := (by assumption)) (hi := (by omega)) (hS := (hS.sel 2 [1, 0] rfl))) rfl ?_
  clear hS; rintro _ w ⟨rfl, hS⟩
  replace hS := hS.n3 L rfl
  refine WL.r 2 rfl <| WL.nil <| WC.ret ?_
  replace hS := St.exClose (f := tblF t (T.open y)) ⟨p, va, vc⟩ (by
    have e1 : (u32s (T.open y).vals).length = (u32s T.vals).length := by simp [TM.open]
    unfold tblF
    rw [e1]
    first | exact hS | exact hS.sel 3 [1, 0, 0] rfl)
  replace hS : St g (Tbl t (T.open y) :: L) w := hS
  refine ⟨[.int .u64 (T.s.alloc.hd T.s.next), .int .i64 0], ⟨rfl, rfl⟩, ?_⟩
  exact ⟨rfl, hS⟩
set_option maxRecDepth 8192 in
theorem tb_new_bad {g w : World} {L : List HP} (cap : Int) (hc : ¬ (1 ≤ cap ∧ cap ≤ 4096)) (hS : St g (L) w) :
    Sp Tryz.prog 18 [.int .i64 cap] w (fun v w' => v = .tuple #[.pointer none, .int .i64 1] ∧ St g (L) w') := by
  refine Sp.enter Tryz.func18 rfl (by kernel_rfl) (by kernel_rfl) ?_
  have _ := hc
  refine WC.seq <| WC.region <| WL.r 2 rfl <| WL.nil <| WC.seq <| WC.seq <| WC.region <| WL.r 2 rfl <| WL.rG 4 rfl (fun j => ?_)
  refine WL.prop 11 rfl (bor (dd _) (dd _)) <| WL.nil <| WC.ifT rfl (decide_eq_true ((by omega))) ?_
  refine WC.seq <| WC.region <| WL.r 2 rfl <| WL.nil <| WC.ret ?_
  refine ⟨[.pointer none, .int .i64 1], ⟨rfl, rfl⟩, ?_⟩
  exact ⟨rfl, hS⟩
set_option maxRecDepth 8192 in
theorem tb_new_ok {g w : World} {L : List HP} (cap : Int) (hc : 1 ≤ cap ∧ cap ≤ 4096) (hS : St g (L) w) :
    Sp Tryz.prog 18 [.int .i64 cap] w (fun v w' => ∃ (t : Nat), v = .tuple #[.pointer (some ⟨t, 0, none⟩), .int .i64 0] ∧ St g (Tbl t (TM.new cap.toNat) :: L) w') := by
  refine Sp.enter Tryz.func18 rfl (by kernel_rfl) (by kernel_rfl) ?_
  have _ := hc
  refine WC.seq <| WC.region <| WL.r 2 rfl <| WL.nil <| WC.seq <| WC.seq <| WC.region <| WL.r 2 rfl <| WL.rG 4 rfl (fun j => ?_)
  refine WL.prop 11 rfl (bor (dd _) (dd _)) <| WL.nil <| WC.ifF rfl (decide_eq_false ((by omega))) ?_
  refine WC.skip <| WC.seq <| WC.region <| WL.r 1 rfl <| WL.call rfl rfl (sl_new_ok (cap := cap) (hc := (by omega)) (hS := hS)) rfl ?_
  clear hS; rintro _ w ⟨s1, rfl, hS⟩
  replace hS : St g (Slt s1 (SM.new cap.toNat) :: L) w := hS
  refine WL.r 5 rfl <| WL.nil <| WC.seq <| WC.seq <| WC.region <| WL.r 2 rfl <| WL.nil ?_
  as_aux_lemma =>
  refine WC.ifF rfl (decide_eq_false ((by decide))) ?_
  refine WC.skip <| WC.seq <| WC.region <| WL.r 3 rfl <| WL.nw 22 rfl (w64 (by omega)) ?_
  refine WL.make rfl rfl (v := cap + 1) (v' := cap + 1) (cap.toNat + 1) (cap.toNat + 1) el_110 hS rfl (by omega) rfl (by omega) (by omega) (Rm.of (by omega) (by decide)) (fun b1 w hS => ?_)
  replace hS := hS.n2 L (a0 := Own 91 1 (List.replicate (cap.toNat + 1) [.int .u32 0]) (some ⟨b1, 0, none⟩) (cap.toNat + 1)) rfl
  refine WL.build rfl rfl (cs := [.pointer (some ⟨s1, 0, none⟩), .slice (some ⟨b1, 0, none⟩) (cap.toNat + 1) (cap.toNat + 1)]) zv_112 rfl rfl <| WL.box rfl rfl #[.pointer (some ⟨s1, 0, none⟩), .slice (some ⟨b1, 0, none⟩) (cap.toNat + 1) (cap.toNat + 1)] hS rfl rfl (fun b2 w hS => ?_)
  refine WL.r 2 rfl <| WL.nil <| WC.ret ?_
  rw [u32s_rep] at hS
  replace hS := St.exClose (f := tblF b2 (TM.new cap.toNat)) ⟨s1, some ⟨b1, 0, none⟩, cap.toNat + 1⟩ (by
    have e1 : (u32s (TM.new cap.toNat).vals).length = cap.toNat + 1 := by simp [TM.new]
    unfold tblF
    rw [e1]
    exact hS.sel 3 [0, 1, 0] rfl)
  replace hS : St g (Tbl b2 (TM.new cap.toNat) :: L) w := hS
  refine ⟨[.pointer (some ⟨b2, 0, none⟩), .int .i64 0], ⟨rfl, rfl⟩, ?_⟩
  exact ⟨_, rfl, hS⟩
end Go.Proofs.YtaceaiifbiiagaaGreatDoor
/-! ## R1 -/
namespace Go.Proofs.YtaceaiifbiiagaaGreatDoor
open Go Go.V
theorem arn_new1 {n : Nat} : (nds (AM.new n).nodes).length = n + 1 := by simp [AM.new]
theorem arn_new2 {n : Nat} : (i64s (AM.new n).cnt).length = n + 1 := by simp [AM.new]
set_option maxRecDepth 8192 in
theorem ar_new_bad {g w : World} {L : List HP} (cap : Int) (hc : ¬ (1 ≤ cap ∧ cap ≤ 65536)) (hS : St g (L) w) :
    Sp Tryz.prog 42 [.int .i64 cap] w (fun v w' => v = .tuple #[.pointer none, .int .i64 1] ∧ St g (L) w') := by
  refine Sp.enter Tryz.func42 rfl (by kernel_rfl) (by kernel_rfl) ?_
  refine WC.seq <| WC.region <| WL.r 2 rfl <| WL.nil <| WC.seq <| WC.region <| WL.r 1 rfl <| WL.call rfl rfl (sl_new_bad (cap := cap) (hc := hc) (hS := hS)) rfl ?_
  clear hS; rintro _ w ⟨rfl, hS⟩
  replace hS : St g (L) w := hS
  refine WL.r 5 rfl <| WL.nil <| WC.seq <| WC.seq <| WC.region <| WL.r 2 rfl <| WL.nil <| WC.ifT rfl (decide_eq_true ((by decide))) ?_
  refine WC.seq <| WC.region <| WL.r 3 rfl <| WL.nil <| WC.ret ?_
  refine ⟨[.pointer none, .int .i64 1], ⟨rfl, rfl⟩, ?_⟩
  exact ⟨rfl, hS⟩
set_option maxRecDepth 8192 in
theorem ar_new_ok {g w : World} {L : List HP} (cap : Int) (hc : 1 ≤ cap ∧ cap ≤ 65536) (hS : St g (L) w) :
    Sp Tryz.prog 42 [.int .i64 cap] w (fun v w' => ∃ (a : Nat), v = .tuple #[.pointer (some ⟨a, 0, none⟩), .int .i64 0] ∧ St g (Arn a (AM.new cap.toNat) :: L) w') := by
  refine Sp.enter Tryz.func42 rfl (by kernel_rfl) (by kernel_rfl) ?_
  refine WC.seq <| WC.region <| WL.r 2 rfl <| WL.nil <| WC.seq <| WC.region <| WL.r 1 rfl <| WL.call rfl rfl (sl_new_ok (cap := cap) (hc := hc) (hS := hS)) rfl ?_
  clear hS; rintro _ w ⟨s1, rfl, hS⟩
  replace hS : St g (Slt s1 (SM.new cap.toNat) :: L) w := hS
  refine WL.r 5 rfl <| WL.nil <| WC.seq <| WC.seq <| WC.region <| WL.r 2 rfl <| WL.nil <| WC.ifF rfl (decide_eq_false ((by decide))) ?_
  refine WC.skip <| WC.seq <| WC.tree (.two [0, 1, 4, 2, 5] 3 [0, 4, 5] (.one [] 6 [0, 1, 2] (.one [7] 8 [] (.seg [9, 10] .nil))) 6 [0, 1, 2] (.one [] 3 [0, 4, 5] (.one [7] 8 [] (.seg [9, 10] .nil)))) (by kernel_rfl) (by kernel_rfl) ?_
  refine WQ.r 4 rfl <| WQ.nw 16 rfl (w64 (by omega)) ?_
  refine WQ.r 1 rfl <| WQ.nw 19 rfl (w64 (by omega)) ?_
  refine WQ.nil ?_
  intro m1
  replace hS := hS.drewN m1; generalize hwm1 : World.drewN _ _ = w at *; clear hwm1
  refine ⟨?_, ?_⟩
  · refine WL.make rfl rfl (v := cap + 1) (v' := cap + 1) (cap.toNat + 1) (cap.toNat + 1) el_202 hS rfl (by omega) rfl (by omega) (by omega) (Rm.of (by omega) (by decide)) (fun b1 w hS => ?_)
    replace hS := hS.n2 L (a0 := Own 265 8 (List.replicate (cap.toNat + 1) [.int .i64 0, .int .i64 0, .int .u32 0, .int .u32 0, .int .i64 0, .int .i64 0, .int .i64 0, .int .i64 0]) (some ⟨b1, 0, none⟩) (cap.toNat + 1)) rfl
    refine WL.nil ?_
    refine ⟨by exact ⟨RQ.pure rfl rfl rfl rfl, RQ.pure rfl rfl rfl rfl, RQ.pure rfl rfl rfl (congrArg (Value.int .i64) (Eq.symm (w64 (by omega))))⟩, ?_⟩
    refine WQ.nil ?_
    intro m2
    replace hS := hS.drewN m2; generalize hwm2 : World.drewN _ _ = w at *; clear hwm2
    refine WL.make rfl rfl (v := cap + 1) (v' := cap + 1) (cap.toNat + 1) (cap.toNat + 1) el_126 hS rfl (by omega) rfl (by omega) (by omega) (Rm.of (by omega) (by decide)) (fun b2 w hS => ?_)
    replace hS := hS.n3 L (a0 := Own 3 1 (List.replicate (cap.toNat + 1) [.int .i64 0]) (some ⟨b2, 0, none⟩) (cap.toNat + 1)) rfl
    refine WL.nil ?_
    refine ⟨by exact ⟨RQ.pure rfl rfl rfl rfl, RQ.pure rfl rfl rfl rfl, RQ.pure rfl rfl rfl (congrArg (Value.int .i64) (Eq.symm (w64 (by omega))))⟩, ?_⟩
    refine WQ.build rfl rfl (cs := [.pointer (some ⟨s1, 0, none⟩), .slice (some ⟨b1, 0, none⟩) (cap.toNat + 1) (cap.toNat + 1), .slice (some ⟨b2, 0, none⟩) (cap.toNat + 1) (cap.toNat + 1), .int .u64 0]) zv_204 rfl rfl <| WQ.nil ?_
    intro m3
    replace hS := hS.drewN m3; generalize hwm3 : World.drewN _ _ = w at *; clear hwm3
    refine WL.box rfl rfl #[.pointer (some ⟨s1, 0, none⟩), .slice (some ⟨b1, 0, none⟩) (cap.toNat + 1) (cap.toNat + 1), .slice (some ⟨b2, 0, none⟩) (cap.toNat + 1) (cap.toNat + 1), .int .u64 0] hS rfl rfl (fun b3 w hS => ?_)
    refine WL.nil ?_
    refine ⟨by exact trivial, ?_⟩
    refine WQ.r 2 rfl <| WQ.nil ?_
    intro m4
    replace hS := hS.drewN m4; generalize hwm4 : World.drewN _ _ = w at *; clear hwm4
    as_aux_lemma =>
    refine WC.ret ?_
    rw [nds_rep, i64s_rep] at hS
    first
    | (replace hS := St.exClose (f := arnF b3 (AM.new cap.toNat)) ⟨s1, some ⟨b1, 0, none⟩, cap.toNat + 1, some ⟨b2, 0, none⟩, cap.toNat + 1, 0⟩ (by
        unfold arnF
        rw [arn_new1, arn_new2]
        exact hS.sel 4 [0, 2, 1, 0] rfl))
    | (replace hS := St.exClose (f := arnF b3 (AM.new cap.toNat)) ⟨s1, some ⟨b2, 0, none⟩, cap.toNat + 1, some ⟨b1, 0, none⟩, cap.toNat + 1, 0⟩ (by
        unfold arnF
        rw [arn_new1, arn_new2]
        exact hS.sel 4 [0, 2, 0, 0] rfl))
    replace hS : St g (Arn b3 (AM.new cap.toNat) :: L) w := hS
    refine ⟨[.pointer (some ⟨b3, 0, none⟩), .int .i64 0], ⟨rfl, rfl⟩, ?_⟩
    exact ⟨_, rfl, hS⟩
  · refine WL.make rfl rfl (v := cap + 1) (v' := cap + 1) (cap.toNat + 1) (cap.toNat + 1) el_126 hS rfl (by omega) rfl (by omega) (by omega) (Rm.of (by omega) (by decide)) (fun b1 w hS => ?_)
    replace hS := hS.n2 L (a0 := Own 3 1 (List.replicate (cap.toNat + 1) [.int .i64 0]) (some ⟨b1, 0, none⟩) (cap.toNat + 1)) rfl
    refine WL.nil ?_
    refine ⟨by exact ⟨RQ.pure rfl rfl rfl rfl, RQ.pure rfl rfl rfl rfl, RQ.pure rfl rfl rfl (congrArg (Value.int .i64) (Eq.symm (w64 (by omega))))⟩, ?_⟩
    refine WQ.nil ?_
    intro m2
    replace hS := hS.drewN m2; generalize hwm2 : World.drewN _ _ = w at *; clear hwm2
    refine WL.make rfl rfl (v := cap + 1) (v' := cap + 1) (cap.toNat + 1) (cap.toNat + 1) el_202 hS rfl (by omega) rfl (by omega) (by omega) (Rm.of (by omega) (by decide)) (fun b2 w hS => ?_)
    replace hS := hS.n3 L (a0 := Own 265 8 (List.replicate (cap.toNat + 1) [.int .i64 0, .int .i64 0, .int .u32 0, .int .u32 0, .int .i64 0, .int .i64 0, .int .i64 0, .int .i64 0]) (some ⟨b2, 0, none⟩) (cap.toNat + 1)) rfl
    refine WL.nil ?_
    refine ⟨by exact ⟨RQ.pure rfl rfl rfl rfl, RQ.pure rfl rfl rfl rfl, RQ.pure rfl rfl rfl (congrArg (Value.int .i64) (Eq.symm (w64 (by omega))))⟩, ?_⟩
    refine WQ.build rfl rfl (cs := [.pointer (some ⟨s1, 0, none⟩), .slice (some ⟨b2, 0, none⟩) (cap.toNat + 1) (cap.toNat + 1), .slice (some ⟨b1, 0, none⟩) (cap.toNat + 1) (cap.toNat + 1), .int .u64 0]) zv_204 rfl rfl <| WQ.nil ?_
    intro m3
    replace hS := hS.drewN m3; generalize hwm3 : World.drewN _ _ = w at *; clear hwm3
    refine WL.box rfl rfl #[.pointer (some ⟨s1, 0, none⟩), .slice (some ⟨b2, 0, none⟩) (cap.toNat + 1) (cap.toNat + 1), .slice (some ⟨b1, 0, none⟩) (cap.toNat + 1) (cap.toNat + 1), .int .u64 0] hS rfl rfl (fun b3 w hS => ?_)
    refine WL.nil ?_
    refine ⟨by exact trivial, ?_⟩
    refine WQ.r 2 rfl <| WQ.nil ?_
    intro m4
    replace hS := hS.drewN m4; generalize hwm4 : World.drewN _ _ = w at *; clear hwm4
    as_aux_lemma =>
    refine WC.ret ?_
    rw [nds_rep, i64s_rep] at hS
    first
    | (replace hS := St.exClose (f := arnF b3 (AM.new cap.toNat)) ⟨s1, some ⟨b1, 0, none⟩, cap.toNat + 1, some ⟨b2, 0, none⟩, cap.toNat + 1, 0⟩ (by
        unfold arnF
        rw [arn_new1, arn_new2]
        exact hS.sel 4 [0, 2, 1, 0] rfl))
    | (replace hS := St.exClose (f := arnF b3 (AM.new cap.toNat)) ⟨s1, some ⟨b2, 0, none⟩, cap.toNat + 1, some ⟨b1, 0, none⟩, cap.toNat + 1, 0⟩ (by
        unfold arnF
        rw [arn_new1, arn_new2]
        exact hS.sel 4 [0, 2, 0, 0] rfl))
    replace hS : St g (Arn b3 (AM.new cap.toNat) :: L) w := hS
    refine ⟨[.pointer (some ⟨b3, 0, none⟩), .int .i64 0], ⟨rfl, rfl⟩, ?_⟩
    exact ⟨_, rfl, hS⟩
set_option maxRecDepth 8192 in
theorem ar_retain {g w : World} {L : List HP} (a : Nat) (A : AM) (i : Int) (hA : AWf A) (hi : 0 ≤ i ∧ i < 4294967296) (hS : St g (Arn a A :: L) w) :
    Sp Tryz.prog 56 [.pointer (some ⟨a, 0, none⟩), .int .u32 i] w (fun v w' => v = .int .i64 (A.retE i) ∧ St g (Arn a (A.ret i) :: L) w') := by
  refine Sp.enter Tryz.func56 rfl (by kernel_rfl) (by kernel_rfl) ?_
  refine WC.seq <| WC.region ?_
  obtain ⟨⟨p, na, nc, ca, cc, rd⟩, hS⟩ := St.exOpen (f := arnF a A) hS; have hAs := hA.s; have hcp := hAs.cap; have hnl := hA.nl; have hcl := hA.cl; have hbn := nds_len A.nodes; have hbc := i64s_len A.cnt
  replace hS : St g (cel a #[.pointer (some ⟨p, 0, none⟩), .slice na (List.length (nds A.nodes)) nc, .slice ca (List.length (i64s A.cnt)) cc, .int .u64 rd] 204 :: Slt p A.s :: Own 265 8 (nds A.nodes) na nc :: Own 3 1 (i64s A.cnt) ca cc :: L) w := hS
  refine WL.r 1 rfl <| WL.nil <| WC.seq <| WC.seq <| WC.region <| WL.r 2 rfl <| WL.nil <| WC.ifP rfl (fun cd1 => ?_) (fun cd1 => ?_)
  · refine WC.seq <| WC.region <| WL.r 1 rfl <| WL.nil <| WC.ret ?_
    replace hS := St.exClose (f := arnF a A) ⟨p, na, nc, ca, cc, rd⟩ hS; replace hS : St g (Arn a (A.ret i) :: L) w := by rw [AM.ret, if_neg (fun h => h.1 cd1)]; exact hS
    replace hS : St g (Arn a (A.ret i) :: L) w := hS
    refine ⟨[.int .i64 0], rfl, ?_⟩
    exact ⟨congrArg (Value.int .i64) (if_pos (.inl cd1)).symm, hS⟩
  · refine WC.skip <| WC.seq <| WC.seq <| WC.region <| WL.run 5 [.pointer (some ⟨p, 0, none⟩)] rfl (by exact hS.ld 0 rfl rfl) ?_
    refine WL.call rfl rfl (sl_ok (S := A.s) (i := i) (hl := (by first | assumption | exact SOk.le (by assumption))) (hi := (by omega)) (hS := (hS.sel 2 [1, 0] rfl))) rfl ?_
    clear hS; rintro _ w ⟨rfl, hS⟩
    replace hS := hS.n4 L rfl
    refine WL.r 1 rfl <| WL.nil <| WC.if_ rfl (fun cd2 => ?_) (fun cd2 => ?_)
    · refine WC.seq <| WC.region <| WL.r 1 rfl <| WL.nil ?_
      as_aux_lemma =>
      refine WC.ret ?_
      replace hS := St.exClose (f := arnF a A) ⟨p, na, nc, ca, cc, rd⟩ (by first | exact hS | exact hS.sel 4 [1, 0, 0, 0] rfl); replace hS : St g (Arn a (A.ret i) :: L) w := by rw [AM.ret, if_neg (fun h => by rw [h.2] at cd2; cases cd2)]; exact hS
      replace hS : St g (Arn a (A.ret i) :: L) w := hS
      refine ⟨[.int .i64 3], rfl, ?_⟩
      exact ⟨congrArg (Value.int .i64) (if_neg (fun h => h.elim cd1 (fun k => by rw [k] at cd2; cases cd2))).symm, hS⟩
    · refine WC.skip ?_
      as_aux_lemma =>
      refine WC.seq <| WC.region ?_
      have hik := SM.ok_rng hAs hi.1 (by simpa using cd2)
      refine WL.run 5 [.slice ca (List.length (i64s A.cnt)) cc] rfl (by exact hS.ld 1 rfl rfl) ?_
      obtain ⟨x, hx⟩ : ∃ x, A.cnt[i.toNat]? = some x := ⟨_, List.getElem?_eq_getElem (by omega)⟩
      refine WL.ix rfl rfl (i := i) (i.toNat) el_126 rfl rfl (by omega) (by omega) (hS.rdO 3 rfl (i64s_at hx)).1 ?_
      refine WL.run 2 [.int .i64 x] rfl (by exact (hS.rdO 3 rfl (i64s_at hx)).2 0 _ rfl) ?_
      refine WL.ix rfl rfl (i := i) (i.toNat) el_126 rfl rfl (by omega) (by omega) (hS.rdO 3 rfl (i64s_at hx)).1 ?_
      refine WL.stE rfl rfl rfl 3 (i.toNat) 0 [.int .i64 x] (i64s (A.cnt.set i.toNat (IntKind.i64.wrap (x + 1)))) hS rfl (i64s_at hx) rfl rfl rfl rfl rfl (i64s_set _ _ _) (fun w hS => ?_)
      replace hS := hS.n4 L (a3 := Own 3 1 (i64s (A.cnt.set i.toNat (IntKind.i64.wrap (x + 1)))) ca cc) rfl
      refine WL.nil <| WC.seq <| WC.region <| WL.r 1 rfl <| WL.nil <| WC.ret ?_
      replace hS := St.exClose (f := arnF a (A.inc i)) ⟨p, na, nc, ca, cc, rd⟩ (by
        have e1 : (i64s (A.inc i).cnt).length = (i64s A.cnt).length := by simp [AM.inc]
        have e2 : (A.inc i).cnt = A.cnt.set i.toNat (IntKind.i64.wrap (x + 1)) := by unfold AM.inc AM.cntOf; rw [hx]; rfl
        unfold arnF
        rw [e1, e2]
        first | exact hS | exact hS.sel 4 [1, 0, 0, 0] rfl)
      replace hS : St g (Arn a (A.ret i) :: L) w := by rw [AM.ret, if_pos ⟨cd1, by simpa using cd2⟩]; exact hS
      replace hS : St g (Arn a (A.ret i) :: L) w := hS
      refine ⟨[.int .i64 0], rfl, ?_⟩
      exact ⟨congrArg (Value.int .i64) (if_pos (.inr (by simpa using cd2))).symm, hS⟩
set_option maxRecDepth 8192 in
theorem ar_release0 {g w : World} {L : List HP} (a : Nat) (A : AM) (hS : St g (Arn a A :: L) w) :
    Sp Tryz.prog 69 [.pointer (some ⟨a, 0, none⟩), .int .u32 0] w (fun v w' => v = .tuple #[.int .i64 0, .int .i64 0] ∧ St g (Arn a A :: L) w') := by
  refine Sp.enter Tryz.func69 rfl (by kernel_rfl) (by kernel_rfl) ?_
  refine WC.seq <| WC.region <| WL.r 2 rfl <| WL.nil <| WC.seq <| WC.seq <| WC.region <| WL.r 2 rfl <| WL.nil <| WC.ifT rfl (decide_eq_true ((by decide))) ?_
  refine WC.seq <| WC.region <| WL.r 2 rfl <| WL.nil <| WC.ret ?_
  refine ⟨[.int .i64 0, .int .i64 0], ⟨rfl, rfl⟩, ?_⟩
  exact ⟨rfl, hS⟩
end Go.Proofs.YtaceaiifbiiagaaGreatDoor
/-! ## R2 -/
namespace Go.Proofs.YtaceaiifbiiagaaGreatDoor
open Go Go.V
structure Shr (A B : AM) : Prop where
  ok : ∀ j, 0 ≤ j → B.s.ok j = true → A.s.ok j = true ∧ B.nd j = A.nd j
  cap : B.s.used.length = A.s.used.length
  gen : B.s.gen = A.s.gen
theorem Shr.refl (A : AM) : Shr A A := ⟨fun _ _ h => ⟨h, rfl⟩, rfl, rfl⟩
theorem Shr.free {A B : AM} {k : Int} (h : Shr A B) (hB : AWf B) (hk : B.s.ok k = true) (h0 : 0 ≤ k) : Shr A (B.freed k) := ⟨fun j hj hjk => by
  rw [AM.freed_ok hB.s hk h0 j hj] at hjk
  split at hjk
  · cases hjk
  · rename_i e
    have h1 := h.ok j hj hjk
    refine ⟨h1.1, ?_⟩
    unfold AM.freed
    rw [AM.nd_set (by rw [hB.nl]; exact (SM.ok_rng hB.s h0 hk).2.2.2) h0 hj, if_neg e]
    exact h1.2, by rw [← h.cap]; exact List.length_set, h.gen⟩
end Go.Proofs.YtaceaiifbiiagaaGreatDoor
/-! ## R3 -/
namespace Go.Proofs.YtaceaiifbiiagaaGreatDoor
open Go Go.V
theorem Shr.kp {A B : AM} {R : List Int} (h : Shr A B) (hB : ARf B R) : Kp A B R :=
  have h1 : ∀ r ∈ R, ∀ t, Is A t r → Is B t r := fun r hr t ht => Is.mono hB (fun j h0 hj => (h.ok j h0 hj).2) t r ht ((hB.ref r hr).imp id (·.2))
  ⟨h1, fun r hr t ht => (ixs_same (fun j h0 hj => ((h.ok j (by omega) hj).2).symm) t r (h1 r hr t ht)).symm⟩
end Go.Proofs.YtaceaiifbiiagaaGreatDoor
/-! ## V1 -/
namespace Go.Proofs.YtaceaiifbiiagaaGreatDoor
open Go Go.V Go.RowKit Go.Maps Go.Sort Go.Shelf
set_option maxRecDepth 8192 in
theorem vs_new_bad1 {g w : World} {L : List HP} (sl cap : Int) (hc : ¬ (1 ≤ cap ∧ cap ≤ 4096)) (hS : St g (L) w) :
    Sp Tryz.prog 17 [.int .i64 sl, .int .i64 cap] w (fun v w' => v = .tuple #[.pointer none, .int .i64 1] ∧ St g (L) w') := by
  refine Sp.enter Tryz.func17 rfl (by kernel_rfl) (by kernel_rfl) ?_
  have _ := hc
  refine WC.seq <| WC.region <| WL.r 2 rfl <| WL.nil <| WC.seq <| WC.seq <| WC.region <| WL.r 2 rfl <| WL.rG 4 rfl (fun j => ?_)
  refine WL.prop 15 rfl (bor (dd _) (dd _)) <| WL.nil <| WC.ifT rfl (decide_eq_true ((by omega))) ?_
  refine WC.seq <| WC.region <| WL.r 2 rfl <| WL.nil <| WC.ret ?_
  refine ⟨[.pointer none, .int .i64 1], ⟨rfl, rfl⟩, ?_⟩
  exact ⟨rfl, hS⟩
set_option maxRecDepth 8192 in
theorem vs_new_bad2 {g w : World} {L : List HP} (sl cap : Int) (hc : 1 ≤ cap ∧ cap ≤ 4096) (hs : ¬ (1 ≤ sl ∧ sl ≤ 65536)) (hS : St g (L) w) :
    Sp Tryz.prog 17 [.int .i64 sl, .int .i64 cap] w (fun v w' => v = .tuple #[.pointer none, .int .i64 1] ∧ St g (L) w') := by
  refine Sp.enter Tryz.func17 rfl (by kernel_rfl) (by kernel_rfl) ?_
  have _ := hc
  refine WC.seq <| WC.region <| WL.r 2 rfl <| WL.nil <| WC.seq <| WC.seq <| WC.region <| WL.r 2 rfl <| WL.rG 4 rfl (fun j => ?_)
  refine WL.prop 15 rfl (bor (dd _) (dd _)) <| WL.nil <| WC.ifF rfl (decide_eq_false ((by omega))) ?_
  refine WC.skip <| WC.seq <| WC.region <| WL.r 1 rfl <| WL.call rfl rfl (ar_new_bad (cap := sl) (hc := hs) (hS := hS)) rfl ?_
  clear hS; rintro _ w ⟨rfl, hS⟩
  replace hS : St g (L) w := hS
  refine WL.r 5 rfl <| WL.nil <| WC.seq <| WC.seq <| WC.region <| WL.r 2 rfl <| WL.nil ?_
  as_aux_lemma =>
  refine WC.ifT rfl (decide_eq_true ((by decide))) ?_
  refine WC.seq <| WC.region <| WL.r 3 rfl <| WL.nil <| WC.ret ?_
  refine ⟨[.pointer none, .int .i64 1], ⟨rfl, rfl⟩, ?_⟩
  exact ⟨rfl, hS⟩
set_option maxRecDepth 8192 in
theorem vs_new_ok {g w : World} {L : List HP} (sl cap : Int) (hc : 1 ≤ cap ∧ cap ≤ 4096) (hs : 1 ≤ sl ∧ sl ≤ 65536) (hS : St g (L) w) :
    Sp Tryz.prog 17 [.int .i64 sl, .int .i64 cap] w (fun v w' => ∃ (s a : Nat), v = .tuple #[.pointer (some ⟨s, 0, none⟩), .int .i64 0] ∧ St g (Vst s a (VM.new cap.toNat) :: Arn a (AM.new sl.toNat) :: L) w') := by
  refine Sp.enter Tryz.func17 rfl (by kernel_rfl) (by kernel_rfl) ?_
  refine WC.seq <| WC.region <| WL.r 2 rfl <| WL.nil <| WC.seq <| WC.seq <| WC.region <| WL.r 2 rfl <| WL.rG 4 rfl (fun j => ?_)
  refine WL.prop 15 rfl (bor (dd _) (dd _)) <| WL.nil <| WC.ifF rfl (decide_eq_false ((by omega))) ?_
  refine WC.skip <| WC.seq <| WC.region <| WL.r 1 rfl <| WL.call rfl rfl (ar_new_ok (cap := sl) (hc := hs) (hS := hS)) rfl ?_
  clear hS; rintro _ w ⟨a1, rfl, hS⟩
  replace hS : St g (Arn a1 (AM.new sl.toNat) :: L) w := hS
  refine WL.r 5 rfl <| WL.nil <| WC.seq <| WC.seq <| WC.region <| WL.r 2 rfl <| WL.nil ?_
  as_aux_lemma =>
  refine WC.ifF rfl (decide_eq_false ((by decide))) ?_
  refine WC.skip <| WC.seq <| WC.region <| WL.r 1 rfl <| WL.call rfl rfl (tb_new_ok (cap := cap) (hc := hc) (hS := hS)) rfl ?_
  clear hS; rintro _ w ⟨t1, rfl, hS⟩
  replace hS := hS.n2 L (a0 := Tbl t1 (TM.new cap.toNat)) rfl
  refine WL.r 5 rfl <| WL.nil <| WC.seq <| WC.seq <| WC.region <| WL.r 2 rfl <| WL.nil <| WC.ifF rfl (decide_eq_false ((by decide))) ?_
  refine WC.skip <| WC.seq <| WC.region <| WL.r 1 rfl <| WL.call rfl rfl (new_ok (cap := cap) (hc := hc) (hS := hS)) rfl ?_
  clear hS; rintro _ w ⟨p1, m1, rfl, hS⟩
  replace hS := hS.n5 L (a0 := cel p1 #[.int .i64 cap, .int .i64 0, .map (some m1)] 207) (a1 := blk m1 (.map (mE (List.map vK [])) 0)) (a2 := Shs vF []) rfl
  refine WL.r 5 rfl <| WL.nil ?_
  as_aux_lemma =>
  refine WC.seq <| WC.seq <| WC.region <| WL.r 2 rfl <| WL.nil <| WC.ifF rfl (decide_eq_false ((by decide))) ?_
  refine WC.skip <| WC.seq <| WC.region <| WL.r 3 rfl <| WL.mkM rfl rfl hS (fun b1 w hS => ?_)
  refine WL.build rfl rfl (cs := [.pointer (some ⟨p1, 0, none⟩), .map (some b1)]) zv_104 rfl rfl <| WL.r 1 rfl <| WL.build rfl rfl (cs := [.pointer (some ⟨a1, 0, none⟩), .pointer (some ⟨t1, 0, none⟩), .pointer (some ⟨p1, 0, none⟩), .map (some b1), .int .i64 cap]) zv_106 rfl rfl <| WL.box rfl rfl #[.pointer (some ⟨a1, 0, none⟩), .pointer (some ⟨t1, 0, none⟩), .pointer (some ⟨p1, 0, none⟩), .map (some b1), .int .i64 cap] hS rfl rfl (fun b2 w hS => ?_)
  refine WL.r 2 rfl <| WL.nil <| WC.ret ?_
  replace hS := St.exClose (f := vstF b2 a1 (VM.new cap.toNat)) (L := Arn a1 (AM.new sl.toNat) :: L) ⟨t1, p1, m1, b1⟩ (by
    have hc2 : (VM.new cap.toNat).cap = cap := (by show ((cap.toNat : Nat) : Int) = cap; omega)
    unfold vstF
    rw [hc2]
    exact (hS.sel 6 [0, 4, 1, 1, 1, 0] rfl))
  replace hS := hS.n2 L (a0 := Vst b2 a1 (VM.new cap.toNat)) rfl
  refine ⟨[.pointer (some ⟨b2, 0, none⟩), .int .i64 0], ⟨rfl, rfl⟩, ?_⟩
  exact ⟨_, _, rfl, hS⟩
set_option maxRecDepth 8192 in
theorem vs_num_bad {g w : World} {L : List HP} (s a : Nat) (V : VM) (h : Int) (hT : TOk V.T) (hh : 0 ≤ h ∧ h ≤ 18446744073709551615) (hn : V.T.s.opn h = false) (hS : St g (Vst s a V :: L) w) :
    Sp Tryz.prog 118 [.pointer (some ⟨s, 0, none⟩), .int .u64 h] w (fun v w' => v = .tuple #[.int .i64 0, .int .i64 5] ∧ St g (Vst s a V :: L) w') := by
  refine Sp.enter Tryz.func118 rfl (by kernel_rfl) (by kernel_rfl) ?_
  refine WC.seq <| WC.region <| WL.r 2 rfl <| WL.nil <| WC.seq <| WC.region ?_
  obtain ⟨⟨vt, vp, vm, vr⟩, hS⟩ := St.exOpen (f := vstF s a V) hS
  replace hS : St g (cel s #[.pointer (some ⟨a, 0, none⟩), .pointer (some ⟨vt, 0, none⟩), .pointer (some ⟨vp, 0, none⟩), .map (some vr), .int .i64 V.cap] 106 :: Tbl vt V.T :: cel vp #[.int .i64 V.cap, .int .i64 V.last, .map (some vm)] 207 :: blk vm (.map (mE (List.map vK V.xs)) V.q) :: Shs vF V.xs :: blk vr (.map (mE (List.map rK V.rs)) V.q2) :: L) w := hS
  refine WL.run 5 [.pointer (some ⟨vt, 0, none⟩)] rfl (by exact hS.ld 0 rfl rfl) ?_
  refine WL.call rfl rfl (tb_lookup_bad (T := V.T) (h := h) (hT := hT) (hh := hh) (hn := hn) (hS := (hS.sel 2 [1, 0] rfl))) rfl ?_
  clear hS; rintro _ w ⟨rfl, hS⟩
  replace hS := hS.n6 L rfl
  refine WL.r 5 rfl <| WL.nil <| WC.seq <| WC.region <| WL.r 2 rfl <| WL.nw 18 rfl (w64 (by omega)) ?_
  refine WL.r 3 rfl <| WL.nil <| WC.ret ?_
  replace hS := St.exClose (f := vstF s a V) (L := L) ⟨vt, vp, vm, vr⟩ ((hS.sel 2 [1, 0] rfl))
  replace hS : St g (Vst s a V :: L) w := hS
  refine ⟨[.int .i64 0, .int .i64 5], ⟨rfl, rfl⟩, ?_⟩
  exact ⟨rfl, hS⟩
set_option maxRecDepth 8192 in
theorem vs_num_ok {g w : World} {L : List HP} (s a : Nat) (V : VM) (h : Int) (hT : TOk V.T) (hh : 0 ≤ h ∧ h ≤ 18446744073709551615) (hn : V.T.s.opn h = true) (hS : St g (Vst s a V :: L) w) :
    Sp Tryz.prog 118 [.pointer (some ⟨s, 0, none⟩), .int .u64 h] w (fun v w' => v = .tuple #[.int .i64 (V.T.val h), .int .i64 0] ∧ St g (Vst s a V :: L) w') := by
  refine Sp.enter Tryz.func118 rfl (by kernel_rfl) (by kernel_rfl) ?_
  refine WC.seq <| WC.region <| WL.r 2 rfl <| WL.nil <| WC.seq <| WC.region ?_
  obtain ⟨⟨vt, vp, vm, vr⟩, hS⟩ := St.exOpen (f := vstF s a V) hS
  replace hS : St g (cel s #[.pointer (some ⟨a, 0, none⟩), .pointer (some ⟨vt, 0, none⟩), .pointer (some ⟨vp, 0, none⟩), .map (some vr), .int .i64 V.cap] 106 :: Tbl vt V.T :: cel vp #[.int .i64 V.cap, .int .i64 V.last, .map (some vm)] 207 :: blk vm (.map (mE (List.map vK V.xs)) V.q) :: Shs vF V.xs :: blk vr (.map (mE (List.map rK V.rs)) V.q2) :: L) w := hS
  refine WL.run 5 [.pointer (some ⟨vt, 0, none⟩)] rfl (by exact hS.ld 0 rfl rfl) ?_
  refine WL.call rfl rfl (tb_lookup_ok (T := V.T) (h := h) (hT := hT) (hh := hh) (hn := hn) (hS := (hS.sel 2 [1, 0] rfl))) rfl ?_
  clear hS; rintro _ w ⟨rfl, hS⟩
  replace hS := hS.n6 L rfl
  refine WL.r 5 rfl <| WL.nil <| WC.seq <| WC.region ?_
  have hv := hT.val_rng h
  refine WL.r 2 rfl <| WL.nw 18 rfl (w64 (by omega)) ?_
  refine WL.r 3 rfl <| WL.nil <| WC.ret ?_
  replace hS := St.exClose (f := vstF s a V) (L := L) ⟨vt, vp, vm, vr⟩ ((hS.sel 2 [1, 0] rfl))
  replace hS : St g (Vst s a V :: L) w := hS
  refine ⟨[.int .i64 (V.T.val h), .int .i64 0], ⟨rfl, rfl⟩, ?_⟩
  exact ⟨rfl, hS⟩
set_option maxRecDepth 8192 in
theorem vs_root_bad {g w : World} {L : List HP} (s a : Nat) (V : VM) (h : Int) (hT : TOk V.T) (hh : 0 ≤ h ∧ h ≤ 18446744073709551615) (hn : V.T.s.opn h = false) (hS : St g (Vst s a V :: L) w) :
    Sp Tryz.prog 50 [.pointer (some ⟨s, 0, none⟩), .int .u64 h] w (fun v w' => v = .tuple #[.int .u32 0, .int .i64 5] ∧ St g (Vst s a V :: L) w') := by
  refine Sp.enter Tryz.func50 rfl (by kernel_rfl) (by kernel_rfl) ?_
  refine WC.seq <| WC.region <| WL.r 2 rfl <| WL.nil <| WC.seq <| WC.region <| WL.r 2 rfl <| WL.call rfl rfl (vs_num_bad (h := h) (hT := hT) (hh := hh) (hn := hn) (hS := hS)) rfl ?_
  clear hS; rintro _ w ⟨rfl, hS⟩
  replace hS := hS.n1 L rfl
  refine WL.r 5 rfl <| WL.nil <| WC.seq <| WC.seq <| WC.region <| WL.r 2 rfl <| WL.nil <| WC.ifT rfl (decide_eq_true ((by decide))) ?_
  refine WC.seq <| WC.region <| WL.r 3 rfl <| WL.nil <| WC.ret ?_
  refine ⟨[.int .u32 0, .int .i64 5], ⟨rfl, rfl⟩, ?_⟩
  exact ⟨rfl, hS⟩
end Go.Proofs.YtaceaiifbiiagaaGreatDoor
/-! ## V2 -/
namespace Go.Proofs.YtaceaiifbiiagaaGreatDoor
open Go Go.V Go.RowKit Go.Maps Go.Sort Go.Shelf
def hup (T : TM) (k : Nat) : List Int := ((List.range k).filter fun i : Nat => T.s.ok (i : Int)).map fun i : Nat => T.s.hd (i : Int)
set_option maxRecDepth 8192 in
theorem vs_room {g w : World} {L : List HP} (s a : Nat) (V : VM) (ss : List Int) (hT : TOk V.T) (hG : GI V.xs V.q V.cap V.last) (hp : ss.Perm (V.xs.map VN.n)) (hs : ss.Pairwise (· ≤ ·)) (hS : St g (Vst s a V :: L) w) :
    Sp Tryz.prog 27 [.pointer (some ⟨s, 0, none⟩)] w (fun v w' => v = .int .i64 V.room ∧ St g (Vst s a V :: L) w') := by
  refine Sp.enter Tryz.func27 rfl (by kernel_rfl) (by kernel_rfl) ?_
  refine WC.seq <| WC.region <| WL.r 1 rfl <| WL.nil <| WC.seq <| WC.plan [([0, 4, 12, 16, 1, 5, 13, 17, 2, 6, 14, 18, 3, 7, 15, 19, 8], some (9, [0, 1, 2, 3, 12, 13, 14, 15, 16, 17, 18, 19])), ([10, 11], some (20, [0, 1, 2, 3, 10, 11, 12, 13, 14, 15])), ([21, 22, 23], none)] (by kernel_rfl) (by kernel_rfl) ?_
  obtain ⟨⟨vt, vp, vm, vr⟩, hS⟩ := St.exOpen (f := vstF s a V) hS
  replace hS : St g (cel s #[.pointer (some ⟨a, 0, none⟩), .pointer (some ⟨vt, 0, none⟩), .pointer (some ⟨vp, 0, none⟩), .map (some vr), .int .i64 V.cap] 106 :: Tbl vt V.T :: cel vp #[.int .i64 V.cap, .int .i64 V.last, .map (some vm)] 207 :: blk vm (.map (mE (List.map vK V.xs)) V.q) :: Shs vF V.xs :: blk vr (.map (mE (List.map rK V.rs)) V.q2) :: L) w := hS
  have hsl := i64s_len ss; have hpl := hp.length_eq; rw [List.length_map] at hpl; have hnum := hG.ok.num; have hcp := hG.cp; have hfr := hT.s.free_rng; have hcc := hT.s.cap; have hce : V.T.s.cap = (V.T.s.used.length : Int) - 1 := rfl
  refine WQ.run 17 [.int .i64 V.cap, .int .i64 V.cap, .pointer (some ⟨vt, 0, none⟩), .pointer (some ⟨vp, 0, none⟩)] rfl (by exact ⟨hS.ld 0 rfl rfl, hS.ld 0 rfl rfl, hS.ld 0 rfl rfl, hS.ld 0 rfl rfl⟩) ?_
  refine WQ.nil ?_
  intro m1
  replace hS := hS.drewN m1; generalize hwm1 : World.drewN _ _ = w at *; clear hwm1
  refine WL.call rfl rfl (vers_spec (cap := V.cap) (last := V.last) (xs := V.xs) (q := V.q) (ss := ss) (ht := hG.ok.toVOk) (hp := hp) (hs := hs) (hS := (hS.sel 5 [2, 2, 2, 0, 0] rfl))) rfl ?_
  clear hS; rintro _ w ⟨a1, c1, rfl, hS⟩
  replace hS := hS.n7 L (a0 := Own 3 1 (i64s ss) a1 c1) rfl
  refine WL.nil ?_
  refine ⟨by exact ⟨RQ.pure rfl rfl rfl rfl, RQ.pure rfl rfl rfl rfl, RQ.pure rfl rfl rfl rfl, RQ.load rfl rfl rfl rfl (hS.ld 4 rfl rfl), RQ.pure rfl rfl rfl rfl, RQ.pure rfl rfl rfl rfl, RQ.pure rfl rfl rfl rfl, RQ.load rfl rfl rfl rfl (hS.ld 4 rfl rfl), RQ.pure rfl rfl rfl rfl, RQ.pure rfl rfl rfl rfl, RQ.pure rfl rfl rfl rfl, RQ.load rfl rfl rfl rfl (hS.ld 4 rfl rfl)⟩, ?_⟩
  refine WQ.r 2 rfl <| WQ.nw 14 rfl (w64 (by omega)) ?_
  refine WQ.nil ?_
  intro m2
  replace hS := hS.drewN m2; generalize hwm2 : World.drewN _ _ = w at *; clear hwm2
  refine WL.call rfl rfl (tb_len (T := V.T) (hT := hT) (hS := (hS.sel 6 [5, 0, 0, 0, 0, 0] rfl))) rfl ?_
  clear hS; rintro _ w ⟨rfl, hS⟩
  replace hS := hS.n7 L rfl
  refine WL.nil ?_
  refine ⟨by exact ⟨RQ.pure rfl rfl rfl rfl, RQ.pure rfl rfl rfl rfl, RQ.pure rfl rfl rfl rfl, RQ.load rfl rfl rfl rfl (hS.ld 5 rfl rfl), RQ.pure rfl rfl rfl rfl, RQ.pure rfl rfl rfl (congrArg (Value.int .i64) (Eq.symm (w64 (by omega)))), RQ.pure rfl rfl rfl rfl, RQ.pure rfl rfl rfl rfl, RQ.pure rfl rfl rfl rfl, RQ.load rfl rfl rfl rfl (hS.ld 5 rfl rfl)⟩, ?_⟩
  refine WQ.r 1 rfl <| WQ.nw 24 rfl (w64 (by omega)) ?_
  refine WQ.r 2 rfl <| WQ.nil ?_
  intro m3
  replace hS := hS.drewN m3; generalize hwm3 : World.drewN _ _ = w at *; clear hwm3
  as_aux_lemma =>
  refine WC.ret ?_
  replace hS := St.exClose (f := vstF s a V) (L := Own 3 1 (i64s ss) a1 c1 :: L) ⟨vt, vp, vm, vr⟩ ((hS.sel 7 [5, 0, 1, 1, 1, 1, 0] rfl))
  replace hS := hS.n2 L (a0 := Vst s a V) rfl
  refine ⟨[.int .i64 (min (V.cap - (List.length (i64s ss) : Int)) (V.cap - (V.T.s.cap - V.T.s.free)))], rfl, ?_⟩
  replace hS := (hS.sel 2 [0] rfl)
  exact ⟨by unfold VM.room; rw [hsl, hpl]; rfl, hS⟩
end Go.Proofs.YtaceaiifbiiagaaGreatDoor
/-! ## V3 -/
namespace Go.Proofs.YtaceaiifbiiagaaGreatDoor
open Go Go.V Go.RowKit
structure Com (V : VM) (root : Int) (ps : List Int) (V2 : VM) : Prop where
  ex : ∃ xs2 q, V2 = V.add xs2 q root ∧ AddP V.xs V.cap V.last ps xs2 (V.last + 1)
  e0 : addE V.xs V.cap ps = 0
set_option maxRecDepth 8192 in
theorem vs_commit {g w : World} {L : List HP} (s a : Nat) (V : VM) (A : AM) (R : List Int) (root : Int) (hs : List Int) (pa : Option Addr) (pc : Nat) (hV : VI V A R) (hr : root = 0 ∨ (1 ≤ root ∧ A.s.ok root = true)) (hps : okPs hs) (hop : ∀ x ∈ hs, (0 ≤ x ∧ x ≤ 18446744073709551615) ∧ V.T.s.opn x = true) (hrm : 0 < V.room) (hla : V.last < 1000000000) (hlen : R.length ≤ 900000000) (hS : St g (Vst s a V :: Arn a A :: Sh 37 1 (u64s hs) pa pc :: L) w) :
    Sp Tryz.prog 68 [.pointer (some ⟨s, 0, none⟩), .int .u32 root, .slice pa (List.length (u64s hs)) pc] w (fun v w' => ∃ (V2 : VM), v = .tuple #[.int .u64 V.T.newH, .int .i64 0] ∧ St g (Vst s a V2 :: Arn a (A.ret root) :: Sh 37 1 (u64s hs) pa pc :: L) w' ∧ (VI V2 (A.ret root) R) ∧ (Com V root (hs.map V.T.val) V2)) := by
  refine Sp.enter Tryz.func68 rfl (by kernel_rfl) (by kernel_rfl) ?_
  refine WC.seq <| WC.region ?_
  have hpl := u64s_len hs
  have hp2 := hps.1
  refine WL.r 2 rfl <| WL.nil <| WC.seq <| WC.seq <| WC.cut [0, 1, 2, 6, 7, 31] (fun vs w => ∃ (t31 : Bool), vs = [.pointer (some ⟨s, 0, none⟩), .int .u32 root, .slice pa (List.length (u64s hs)) pc, .int .u64 0, .int .i64 0, .bool t31] ∧ St g (Vst s a V :: Arn a A :: Sh 37 1 (u64s hs) pa pc :: L) w ∧ (t31 = false)) ?_ ?_
  · refine WC.plan [([0, 1, 2, 3, 4, 5, 6, 7, 8, 11, 9, 12, 10, 13, 14, 15, 16], none)] (by kernel_rfl) (by kernel_rfl) ?_
    refine WQ.r 4 rfl <| WQ.reb 18 (.bool false) (congrArg Value.bool (decide_eq_false ((by omega)))) ?_
    refine WQ.ung rfl rfl rfl <| WQ.r 1 rfl <| WQ.ung rfl rfl rfl <| WQ.r 1 rfl <| WQ.ung rfl rfl rfl <| WQ.r 1 rfl <| WQ.ung rfl rfl rfl <| WQ.r 1 rfl ?_
    by_cases cg1 : (List.length (u64s hs) : Int) = 2
    · refine WQ.reb 22 (.bool true) (congrArg Value.bool (decide_eq_true cg1)) <| WQ.ung rfl rfl rfl <| WQ.r 1 rfl <| WQ.ung rfl rfl rfl <| WQ.r 1 rfl <| WQ.ung rfl rfl rfl ?_
      obtain ⟨p0, h0⟩ : ∃ u, hs[0]? = some u := ⟨_, List.getElem?_eq_getElem (by omega)⟩; obtain ⟨p1, h1⟩ : ∃ u, hs[1]? = some u := ⟨_, List.getElem?_eq_getElem (by omega)⟩
      refine WQ.ix rfl rfl (i := 0) (0) el_128 rfl rfl (by omega) (by omega) (hS.rdS 2 rfl (u64s_at h0)).1 ?_
      refine WQ.ung rfl rfl rfl <| WQ.ix rfl rfl (i := 1) (1) el_128 rfl rfl (by omega) (by omega) (hS.rdS 2 rfl (u64s_at h1)).1 ?_
      refine WQ.ung rfl rfl rfl <| WQ.run 1 [.int .u64 p0] rfl (by exact (hS.rdS 2 rfl (u64s_at h0)).2 0 _ rfl) ?_
      refine WQ.ung rfl rfl rfl <| WQ.run 1 [.int .u64 p1] rfl (by exact (hS.rdS 2 rfl (u64s_at h1)).2 0 _ rfl) ?_
      refine WQ.ung rfl rfl rfl <| WQ.r 1 rfl <| WQ.ung rfl rfl rfl <| WQ.r 2 rfl <| WQ.nil ?_
      intro m1
      replace hS := hS.drewN m1; generalize hwm1 : World.drewN _ _ = w at *; clear hwm1
      exact ⟨decide (p0 = p1), rfl, hS, (decide_eq_false (okPs_ne hps h0 h1))⟩
    · refine WQ.reb 22 (.bool false) (congrArg Value.bool (decide_eq_false cg1)) <| WQ.skp rfl rfl rfl rfl <| WQ.skp rfl rfl rfl rfl <| WQ.skp rfl rfl rfl rfl <| WQ.skp rfl rfl rfl rfl <| WQ.skp rfl rfl rfl rfl <| WQ.skp rfl rfl rfl rfl <| WQ.skp rfl rfl rfl rfl <| WQ.ung rfl rfl rfl <| WQ.r 2 rfl <| WQ.nil ?_
      intro m1
      replace hS := hS.drewN m1; generalize hwm1 : World.drewN _ _ = w at *; clear hwm1
      exact ⟨false, rfl, hS, (rfl)⟩
  clear hS; rintro _ w j ⟨t31, rfl, hS, h31⟩
  refine WC.ifF rfl h31 <| WC.skip <| WC.seq <| WC.region <| WL.r 1 rfl <| WL.nil <| WC.seq <| WC.seq <| WC.region <| WL.r 3 rfl <| WL.nil <| WC.block ?_
  replace hS := hS.nil_ 3 1
  refine WC.loop [0, 1, 8, 32, 33, 34] (fun kM vs w => ∃ (k : Nat) (acc : List Int) (u : Option Addr) (d : Nat), vs = [.pointer (some ⟨s, 0, none⟩), .int .u32 root, .slice u (List.length (i64s acc)) d, .slice pa (List.length (u64s hs)) pc, .int .i64 (List.length (u64s hs) : Int), .int .i64 (k : Int)] ∧ St g (Own 3 1 (i64s acc) u d :: Vst s a V :: Arn a A :: Sh 37 1 (u64s hs) pa pc :: L) w ∧ (k ≤ hs.length) ∧ (acc = (List.take k hs).map V.T.val) ∧ (hs.length - k) = kM) ((List.length hs) - 0) ⟨0, [], none, 0, rfl, hS, (Nat.zero_le _), (rfl), rfl⟩ ?_
  clear hS; rintro _ _ w j ⟨k, acc, u, d, rfl, hS, hk, ha, rfl⟩
  refine WC.seq <| WC.region <| WL.r 1 rfl <| WL.nil ?_
  as_aux_lemma =>
  refine WC.seq <| WC.ifP rfl (fun cd1 => ?_) (fun cd1 => ?_)
  · refine WC.skip <| WC.seq <| WC.block <| WC.seq <| WC.region ?_
    obtain ⟨z, hz⟩ : ∃ u, hs[k]? = some u := ⟨_, List.getElem?_eq_getElem (by omega)⟩; have hzo := hop z (List.mem_of_getElem? hz); have hacl := i64s_len acc; have hacl2 : acc.length = k := (by rw [ha, List.length_map, List.length_take]; omega)
    refine WL.ix rfl rfl (i := (k : Int)) (k) el_128 rfl rfl (by omega) (by omega) (hS.rdS 3 rfl (u64s_at hz)).1 ?_
    refine WL.run 2 [.int .u64 z] rfl (by exact (hS.rdS 3 rfl (u64s_at hz)).2 0 _ rfl) ?_
    refine WL.nil <| WC.seq <| WC.region <| WL.r 2 rfl <| WL.call rfl rfl (vs_num_ok (h := z) (hT := hV.t) (hh := hzo.1) (hn := hzo.2) (hS := (hS.sel 2 [1, 0] rfl))) rfl ?_
    clear hS; rintro _ w ⟨rfl, hS⟩
    replace hS := hS.n4 L rfl
    refine WL.r 5 rfl <| WL.nil <| WC.seq <| WC.seq <| WC.region <| WL.r 2 rfl <| WL.nil <| WC.ifF rfl (decide_eq_false ((by decide))) ?_
    refine WC.skip ?_
    as_aux_lemma =>
    refine WC.region <| WL.r 2 rfl <| WL.lit rfl rfl (i64s [V.T.val z]) el_126 hS (by exact ⟨rfl, rfl⟩) (i64s_ok _) rfl (Nat.le_of_ble_eq_true rfl) (fun b1 w hS => ?_)
    refine WL.app rfl rfl 2 (i64s (acc ++ [V.T.val z])) el_126 hS rfl (hS.srcO 0 rfl) (i64s_app _ _).symm (Rm.of (by first | omega | (simp <;> omega)) (by decide)) rfl rfl (fun a1 c1 w hS => ?_)
    replace hS := hS.n5 L (a0 := Own 3 1 (i64s [V.T.val z]) (some ⟨b1, 0, none⟩) (List.length (i64s [V.T.val z]))) (a2 := Own 3 1 (i64s (acc ++ [V.T.val z])) a1 c1) rfl
    refine WL.r 1 rfl <| WL.nil <| WC.region <| WL.r 1 rfl <| WL.nw 51 rfl (w64 (by omega)) ?_
    refine WL.r 1 rfl <| WL.nil ?_
    exact ⟨_, by omega, k + 1, acc ++ [V.T.val z], a1, c1, rfl, (hS.sel 3 [2, 1] rfl), (by omega), (by rw [ha, List.take_add_one, hz]; simp), rfl⟩
  · refine WC.exit <| WC.seq <| WC.seq <| WC.region ?_
    have hke : acc = hs.map V.T.val := (by rw [ha, List.take_of_length_le (by omega)]); obtain ⟨ss, hK⟩ := keys_ex hV.g.ok.uniq
    refine WL.r 1 rfl <| WL.call rfl rfl (vs_room (ss := ss) (hT := hV.t) (hG := hV.g) (hp := hK.perm) (hs := hK.le) (hS := (hS.sel 2 [1, 0] rfl))) rfl ?_
    clear hS; rintro _ w ⟨rfl, hS⟩
    replace hS := hS.n4 L rfl
    refine WL.r 1 rfl <| WL.nil <| WC.ifF rfl (decide_eq_false ((by omega))) ?_
    refine WC.skip <| WC.seq <| WC.region ?_
    obtain ⟨⟨vt, vp, vm, vr⟩, hS⟩ := St.exOpen (f := vstF s a V) hS
    replace hS := hS.n9 L (a0 := cel s #[.pointer (some ⟨a, 0, none⟩), .pointer (some ⟨vt, 0, none⟩), .pointer (some ⟨vp, 0, none⟩), .map (some vr), .int .i64 V.cap] 106) (a1 := Tbl vt V.T) (a2 := cel vp #[.int .i64 V.cap, .int .i64 V.last, .map (some vm)] 207) (a3 := blk vm (.map (mE (List.map vK V.xs)) V.q)) (a4 := Shs vF V.xs) (a5 := blk vr (.map (mE (List.map rK V.rs)) V.q2)) rfl
    refine WL.run 6 [.pointer (some ⟨vp, 0, none⟩)] rfl (by exact hS.ld 0 rfl rfl) ?_
    replace hS := (hS.at_ 6 rfl).share
    replace hS := hS.n9 L (a0 := Sh 3 1 (i64s acc) u d) rfl
    refine WL.call rfl rfl (add_spec (cap := V.cap) (last := V.last) (xs := V.xs) (q := V.q) (hI := hV.g) (hla := hla) (hS := (hS.sel 6 [0, 2, 2, 2, 0, 0] rfl))) rfl ?_
    clear hS; rintro _ w ⟨xs1, q1, last1, rfl, hS, f1, f2⟩
    replace hS := hS.n9 L (a1 := cel vp #[.int .i64 V.cap, .int .i64 last1, .map (some vm)] 207) (a2 := blk vm (.map (mE (List.map vK xs1)) q1)) (a3 := Shs vF xs1) rfl
    refine WL.r 5 rfl <| WL.nil ?_
    as_aux_lemma =>
    refine WC.seq <| WC.seq <| WC.region ?_
    have he0 := addE_room hV hps (fun x hx => (hop x hx).2) hrm; rw [← hke] at he0
    refine WL.r 2 rfl <| WL.nil <| WC.ifF rfl (decide_eq_false ((by rw [he0]; decide))) ?_
    refine WC.skip <| WC.seq <| WC.region ?_
    rw [hke] at he0 f2; obtain ⟨_, rfl, _⟩ := (AddP.facts hV.g.le f2).resolve_left (fun e => e.1 he0); have hv0 : addV V.xs V.cap V.last acc = V.last + 1 := (by unfold addV; rw [hke, if_pos he0]); have hfr := (room_pos hV hrm).2; have hla0 := hV.g.la; have hV2 := hV.add hr he0 f2 f1 hfr hla hlen
    refine WL.reb 13 (.int .i64 (V.last + 1)) (congrArg (Value.int .i64) hv0) <| WL.run 5 [.pointer (some ⟨a, 0, none⟩)] rfl (by exact hS.ld 4 rfl rfl) ?_
    refine WL.call rfl rfl (ar_retain (i := root) (hA := hV.ref.toAWf) (hi := (by have := okrng0 hV.ref.toAWf hr; omega)) (hS := (hS.sel 8 [7, 0, 0, 0, 0, 0, 0, 0] rfl))) rfl ?_
    clear hS; rintro _ w ⟨rfl, hS⟩
    replace hS := hS.n9 L (a0 := Arn a (A.ret root)) (a2 := cel vp #[.int .i64 V.cap, .int .i64 (V.last + 1), .map (some vm)] 207) rfl
    refine WL.nil <| WC.seq <| WC.region <| WL.run 7 [.map (some vr)] rfl (by exact hS.ld 5 rfl rfl) ?_
    refine WL.muN rfl rfl rfl mt_102 7 hS rfl rfl rfl rfl (by first | trivial | rfl) (ki_out (f := rK) hV.k.key (fun x hx e => by have h9 := (AddP.facts hV.g.le f2).resolve_left (fun e => e.1 he0); have h8 := (hV.pre x.n).1 ⟨x, hx, rfl⟩; rw [e, h9.2.2.1] at h8; cases h8)) (fun w hS => ?_)
    replace hS := hS.n9 L (a7 := blk vr (.map (mE ((List.map rK V.rs) ++ [⟨.int .i64 (V.last + 1), .int .u32 root, V.q2⟩])) (V.q2 + 1))) rfl
    refine WL.nil <| WC.seq <| WC.region <| WL.run 6 [.pointer (some ⟨vt, 0, none⟩)] rfl (by exact hS.ld 5 rfl rfl) ?_
    refine WL.nw 86 rfl (wu32 (by omega)) ?_
    refine WL.call rfl rfl (tb_open_ok (T := V.T) (y := V.last + 1) (hT := hV.t) (hf := hfr) (hS := (hS.sel 7 [6, 0, 0, 0, 0, 0, 0] rfl))) rfl ?_
    clear hS; rintro _ w ⟨rfl, hS⟩
    replace hS := hS.n9 L (a0 := Tbl vt (V.T.open (V.last + 1))) rfl
    refine WL.r 4 rfl <| WL.nil ?_
    as_aux_lemma =>
    refine WC.ret ?_
    replace hS := St.exClose (f := vstF s a (V.add xs1 q1 root)) (L := Arn a (A.ret root) :: Sh 3 1 (i64s acc) u d :: Sh 37 1 (u64s hs) pa pc :: L) ⟨vt, vp, vm, vr⟩ (by
      have hm : List.map rK V.rs ++ [(.int .i64 (V.last + 1), .int .u32 root, V.q2)] = List.map rK (V.add xs1 q1 root).rs := by simp [rK, VM.add]
      rw [hm] at hS
      exact (hS.sel 8 [6, 0, 2, 2, 2, 2, 0, 0] rfl))
    replace hS := hS.n4 L (a0 := Vst s a (V.add xs1 q1 root)) rfl
    refine ⟨[.int .u64 V.T.newH, .int .i64 0], ⟨rfl, rfl⟩, ?_⟩
    replace hS := (hS.sel 3 [0, 0] rfl)
    exact ⟨_, rfl, hS, hV2, ⟨xs1, q1, rfl, f2⟩, he0⟩
theorem okPs_nil : okPs [] := ⟨by simp, fun _ _ h => by cases h⟩
end Go.Proofs.YtaceaiifbiiagaaGreatDoor
/-! ## V4 -/
namespace Go.Proofs.YtaceaiifbiiagaaGreatDoor
open Go Go.V Go.RowKit
structure Kept0 (V : VM) (xs2 : List VN) (ss : List Int) (k : Nat) (rs : List RN) : Prop where
  ok : KOk rK RN.n rs V.q2
  mem : ∀ r, r ∈ rs ↔ r ∈ V.rs ∧ (r.n ∈ ss.take k → preG xs2 r.n = true)
theorem Kept0.zero {V : VM} {A : AM} {R : List Int} (h : VI V A R) (xs2 : List VN) (ss : List Int) : Kept0 V xs2 ss 0 V.rs := ⟨h.k, fun r => by simp⟩
theorem Kept0.skip {V : VM} {xs2 : List VN} {ss : List Int} {k : Nat} {rs : List RN} {n : Int} (h : Kept0 V xs2 ss k rs) (hn : ss[k]? = some n) (hp : preG xs2 n = true) : Kept0 V xs2 ss (k + 1) rs := ⟨h.ok, fun r => by
  rw [h.mem r, List.take_add_one, hn]
  constructor
  · rintro ⟨h1, h2⟩
    refine ⟨h1, fun h3 => ?_⟩
    rcases List.mem_append.1 h3 with h3 | h3
    · exact h2 h3
    · rw [show r.n = n by simpa using h3]; exact hp
  · rintro ⟨h1, h2⟩; exact ⟨h1, fun h3 => h2 (List.mem_append_left _ h3)⟩⟩
theorem Kept0.at_ {V : VM} {xs2 : List VN} {ss : List Int} {k : Nat} {rs : List RN} {n : Int} (h : Kept0 V xs2 ss k rs) (hn : ss[k]? = some n) (hs : Asc ss) (hk : ∀ z, z ∈ ss ↔ ∃ r ∈ V.rs, r.n = z) : ∃ (j : Nat) (r : RN), rs[j]? = some r ∧ r.n = n := by
  obtain ⟨r, hr, hrn⟩ := (hk n).1 (List.mem_of_getElem? hn)
  have : r ∈ rs := (h.mem r).2 ⟨hr, fun h3 => by
    have := take_lt hs hn r.n h3
    omega⟩
  obtain ⟨j, hj⟩ := List.mem_iff_getElem?.1 this
  exact ⟨j, r, hj, hrn⟩
structure Rls (V : VM) (h : Int) (V2 : VM) : Prop where
  eq : V2 = VM.mk (V.T.close h) V2.xs V.q V.last V2.rs V.q2 V.cap
  rel : RelQ V.xs (V.T.val h) V2.xs
  sub : ∀ r, r ∈ V2.rs ↔ r ∈ V.rs ∧ preG V2.xs r.n = true
theorem VI.rel {V : VM} {A A2 : AM} {R : List Int} {h : Int} {xs2 : List VN} {rs : List RN} {ss : List Int} (hV : VI V A R) (hn : V.T.s.opn h = true) (hG : GI xs2 V.q V.cap V.last) (hR : RelQ V.xs (V.T.val h) xs2) (hK : Kept0 V xs2 ss ss.length rs) (hk : ∀ z, z ∈ ss ↔ ∃ r ∈ V.rs, r.n = z)
    (hA : ARf A2 (rs.map RN.root ++ R)) : VI (VM.mk (V.T.close h) xs2 V.q V.last rs V.q2 V.cap) A2 R ∧ Rls V h (VM.mk (V.T.close h) xs2 V.q V.last rs V.q2 V.cap) := by
  have hop := SM.opn_ok hn
  have hlv0 := (VM.open_val hV hn).1
  have hsub : ∀ r, r ∈ rs ↔ r ∈ V.rs ∧ preG xs2 r.n = true := fun r => by
    rw [hK.mem r, List.take_of_length_le (Nat.le_refl _)]
    constructor
    · rintro ⟨h1, h2⟩; exact ⟨h1, h2 ((hk r.n).2 ⟨r, h1, rfl⟩)⟩
    · rintro ⟨h1, h2⟩; exact ⟨h1, fun _ => h2⟩
  have hcl : ∀ i : Int, 0 ≤ i → (V.T.close h).s.ok i = if i = h % 4294967296 then false else V.T.s.ok i := fun i hi => SM.release_ok' hV.t.s (by omega) hop.1 hi
  have hlive : ∀ z, liveG xs2 z = true ↔ liveG V.xs z = true ∧ z ≠ V.T.val h := fun z => by
    constructor
    · exact fun hz => RelQ.live hV.g.ok hR hz
    · rintro ⟨h1, h2⟩
      rcases hR with ⟨_, xs1, N, e1, e2, e3⟩ | ⟨h3, _⟩
      · have q1 : liveG xs1 z = true := by
          rw [live_vw, e1]; unfold dead; rw [if_neg h2, ← live_vw]; exact h1
        rw [live_vw, e3]; unfold keep; rw [if_pos ((e2 z).2 (.inl q1))]
        rw [live_vw] at q1
        cases hv : vw xs1 z with
        | none => rw [hv] at q1; cases q1
        | some p => rw [hv] at q1; simpa using q1
      · rw [hlv0] at h3; cases h3
  have hpre : ∀ z, preG xs2 z = true → preG V.xs z = true := fun z hz => by
    rcases hR with ⟨_, xs1, N, e1, e2, e3⟩ | ⟨_, h4⟩
    · rw [pre_vw, e3] at hz
      unfold keep at hz
      split at hz
      · rw [pre_vw]
        rw [← dead_iss (vw V.xs) (V.T.val h) z, ← e1]
        simpa using hz
      · cases hz
    · rw [h4] at hz; exact hz
  refine ⟨⟨hV.t.close hn, hG, hK.ok, fun z => ?_, fun i hi ho => ?_, fun i j hi hj ho ho2 e => ?_, fun z hz => ?_, hA, ?_⟩, ⟨rfl, hR, hsub⟩⟩
  · constructor
    · rintro ⟨r, hr, e⟩; rw [← e]; exact ((hsub r).1 hr).2
    · intro hz
      obtain ⟨r, hr, e⟩ := (hV.pre z).2 (hpre z hz)
      exact ⟨r, (hsub r).2 ⟨hr, by rw [e]; exact hz⟩, e⟩
  · rw [show (VM.mk (V.T.close h) xs2 V.q V.last rs V.q2 V.cap).T.s.ok i = _ from hcl i hi] at ho
    split at ho
    · cases ho
    · rename_i hne
      refine (hlive _).2 ⟨hV.lv i hi ho, fun e => hne ?_⟩
      exact hV.inj i (h % 4294967296) hi (by omega) ho hop.1 e
  · rw [show (VM.mk (V.T.close h) xs2 V.q V.last rs V.q2 V.cap).T.s.ok i = _ from hcl i hi] at ho
    rw [show (VM.mk (V.T.close h) xs2 V.q V.last rs V.q2 V.cap).T.s.ok j = _ from hcl j hj] at ho2
    split at ho
    · cases ho
    · split at ho2
      · cases ho2
      · exact hV.inj i j hi hj ho ho2 e
  · obtain ⟨h1, h2⟩ := (hlive z).1 hz
    obtain ⟨i, i0, i1, i2⟩ := hV.all z h1
    refine ⟨i, i0, ?_, i2⟩
    rw [show (VM.mk (V.T.close h) xs2 V.q V.last rs V.q2 V.cap).T.s.ok i = _ from hcl i i0, if_neg (fun e => h2 ?_)]
    · exact i1
    · rw [← i2, e]; rfl
  · rw [← hV.cp]
    show (((V.T.s.used.set _ _).length : Nat) : Int) - 1 = (V.T.s.used.length : Int) - 1
    rw [List.length_set]
end Go.Proofs.YtaceaiifbiiagaaGreatDoor
/-! ## V5 -/
namespace Go.Proofs.YtaceaiifbiiagaaGreatDoor
open Go Go.V Go.RowKit
theorem Com.get {V V2 : VM} {root : Int} {ps : List Int} (h : Com V root ps V2) : V2.T = V.T.open (V.last + 1) ∧ V2.last = V.last + 1 ∧ V2.cap = V.cap ∧ AddP V.xs V.cap V.last ps V2.xs (V.last + 1) ∧ V2.xs.length = V.xs.length + 1 ∨ (∃ x ∈ V.xs, V.last < x.n) := by
  obtain ⟨⟨xs2, q, rfl, hA⟩, h0⟩ := h
  by_cases hx : ∃ x ∈ V.xs, V.last < x.n
  · exact .inr hx
  · left
    have hle : ∀ x ∈ V.xs, x.n ≤ V.last := fun x hm => Classical.byContradiction fun h => hx ⟨x, hm, by omega⟩
    exact ⟨rfl, rfl, rfl, hA, ((AddP.facts hle hA).resolve_left fun e => e.1 h0).2.2.2.2.2⟩
structure Add1 (V : VM) (ps : List Int) (V2 : VM) : Prop where
  T : V2.T = V.T.open (V.last + 1)
  la : V2.last = V.last + 1
  cap : V2.cap = V.cap
  xs : AddP V.xs V.cap V.last ps V2.xs (V.last + 1)
  len : V2.xs.length = V.xs.length + 1
  opn : V2.T.s.opn V.T.newH = true
  val : V2.T.val V.T.newH = V.last + 1
  rng : 0 ≤ V.T.newH ∧ V.T.newH ≤ 18446744073709551615
  free : V2.T.s.free = V.T.s.free - 1
  old : ∀ x, V.T.s.opn x = true → V2.T.s.opn x = true ∧ V2.T.val x = V.T.val x
theorem Com.add1 {V V2 : VM} {A : AM} {R ps : List Int} {root : Int} (hV : VI V A R) (h : Com V root ps V2) (hr : 0 < V.room) : Add1 V ps V2 := by
  obtain ⟨h1, h2, h3, h4, h5⟩ := h.get.resolve_right (fun ⟨x, hx, hlt⟩ => by have := hV.g.le x hx; omega)
  have hf := (room_pos hV hr).2
  have h6 := hV.t.newH_opn hf (V.last + 1)
  refine ⟨h1, h2, h3, h4, h5, by rw [h1]; exact h6.1, by rw [h1]; exact h6.2, (TM.newH_mod hV.t hf).2, by rw [h1]; exact SM.alloc_free _, fun x hx => ?_⟩
  rw [h1]
  exact hV.t.opn_open hf _ hx
theorem room_new {n : Nat} : (VM.new n).room = n := by
  unfold VM.room
  show min ((n : Int) - 0) ((n : Int) - ((SM.new n).cap - (SM.new n).free)) = n
  rw [SM.new_free]
  have : (SM.new n).cap = n := by unfold SM.cap SM.new; simp
  rw [this]; omega
set_option maxRecDepth 8192 in
theorem vs_arena {g w : World} {L : List HP} (s a : Nat) (V : VM) (hS : St g (Vst s a V :: L) w) :
    Sp Tryz.prog 125 [.pointer (some ⟨s, 0, none⟩)] w (fun v w' => v = .pointer (some ⟨a, 0, none⟩) ∧ St g (Vst s a V :: L) w') := by
  refine Sp.enter Tryz.func125 rfl (by kernel_rfl) (by kernel_rfl) ?_
  refine WC.seq <| WC.region ?_
  obtain ⟨⟨vt, vp, vm, vr⟩, hS⟩ := St.exOpen (f := vstF s a V) hS
  replace hS : St g (cel s #[.pointer (some ⟨a, 0, none⟩), .pointer (some ⟨vt, 0, none⟩), .pointer (some ⟨vp, 0, none⟩), .map (some vr), .int .i64 V.cap] 106 :: Tbl vt V.T :: cel vp #[.int .i64 V.cap, .int .i64 V.last, .map (some vm)] 207 :: blk vm (.map (mE (List.map vK V.xs)) V.q) :: Shs vF V.xs :: blk vr (.map (mE (List.map rK V.rs)) V.q2) :: L) w := hS
  refine WL.r 1 rfl <| WL.nil <| WC.seq <| WC.region <| WL.run 5 [.pointer (some ⟨a, 0, none⟩)] rfl (by exact hS.ld 0 rfl rfl) ?_
  refine WL.nil <| WC.ret ?_
  replace hS := St.exClose (f := vstF s a V) (L := L) ⟨vt, vp, vm, vr⟩ (hS)
  replace hS : St g (Vst s a V :: L) w := hS
  refine ⟨[.pointer (some ⟨a, 0, none⟩)], rfl, ?_⟩
  exact ⟨rfl, hS⟩
end Go.Proofs.YtaceaiifbiiagaaGreatDoor
/-! ## Sc1 -/
namespace Go.Proofs.YtaceaiifbiiagaaGreatDoor
open Go Go.V Go.RowKit Go.Maps
set_option maxRecDepth 8192 in
theorem nm_new0 {g w : World} {L : List HP} (hS : St g (L) w) :
    Sp Tryz.prog 19 [] w (fun v w' => ∃ (t : Nat), v = .pointer (some ⟨t, 0, none⟩) ∧ St g (L) w') := by
  refine Sp.enter Tryz.func19 rfl (by kernel_rfl) (by kernel_rfl) ?_
  refine WC.seq <| WC.region <| WL.r 1 rfl <| WL.nil <| WC.seq <| WC.region <| WL.mkM rfl rfl hS (fun b1 w hS => ?_)
  refine WL.build rfl rfl (cs := [.map (some b1)]) zv_115 rfl rfl <| WL.box rfl rfl #[.map (some b1)] hS rfl rfl (fun b2 w hS => ?_)
  refine WL.r 1 rfl <| WL.nil <| WC.ret ?_
  refine ⟨[.pointer (some ⟨b2, 0, none⟩)], rfl, ?_⟩
  replace hS := (hS.sel 2 [] rfl)
  exact ⟨_, rfl, hS⟩
set_option maxRecDepth 8192 in
theorem st_new_bad1 {g w : World} {L : List HP} (sl cv cc cx : Int) (h2 : ¬ (1 ≤ cv ∧ cv ≤ 4096)) (hS : St g (L) w) :
    Sp Tryz.prog 11 [.agg #[.int .i64 sl, .int .i64 cv, .int .i64 cc, .int .i64 cx]] w (fun v w' => v = .tuple #[.pointer none, .int .i64 1] ∧ St g (L) w') := by
  refine Sp.enter Tryz.func11 rfl (by kernel_rfl) (by kernel_rfl) ?_
  refine WC.seq <| WC.region <| WL.box rfl rfl #[.int .i64 sl, .int .i64 cv, .int .i64 cc, .int .i64 cx] hS rfl rfl (fun b1 w hS => ?_)
  refine WL.r 2 rfl <| WL.nil <| WC.seq <| WC.region <| WL.run 4 [.int .i64 sl, .int .i64 cv] rfl (by exact ⟨hS.ld 0 rfl rfl, hS.ld 0 rfl rfl⟩) ?_
  refine WL.call rfl rfl (vs_new_bad1 (sl := sl) (cap := cv) (hc := h2) (hS := hS)) rfl ?_
  clear hS; rintro _ w ⟨rfl, hS⟩
  replace hS : St g (cel b1 #[.int .i64 sl, .int .i64 cv, .int .i64 cc, .int .i64 cx] 23 :: L) w := hS
  refine WL.r 5 rfl <| WL.nil <| WC.seq <| WC.seq <| WC.region <| WL.r 2 rfl <| WL.nil <| WC.ifT rfl (decide_eq_true ((by decide))) ?_
  refine WC.seq <| WC.region <| WL.r 3 rfl <| WL.nil <| WC.ret ?_
  refine ⟨[.pointer none, .int .i64 1], ⟨rfl, rfl⟩, ?_⟩
  replace hS := (hS.sel 1 [] rfl)
  exact ⟨rfl, hS⟩
set_option maxRecDepth 8192 in
theorem st_new_bad2 {g w : World} {L : List HP} (sl cv cc cx : Int) (h2 : 1 ≤ cv ∧ cv ≤ 4096) (h1 : ¬ (1 ≤ sl ∧ sl ≤ 65536)) (hS : St g (L) w) :
    Sp Tryz.prog 11 [.agg #[.int .i64 sl, .int .i64 cv, .int .i64 cc, .int .i64 cx]] w (fun v w' => v = .tuple #[.pointer none, .int .i64 1] ∧ St g (L) w') := by
  refine Sp.enter Tryz.func11 rfl (by kernel_rfl) (by kernel_rfl) ?_
  refine WC.seq <| WC.region <| WL.box rfl rfl #[.int .i64 sl, .int .i64 cv, .int .i64 cc, .int .i64 cx] hS rfl rfl (fun b1 w hS => ?_)
  refine WL.r 2 rfl <| WL.nil <| WC.seq <| WC.region <| WL.run 4 [.int .i64 sl, .int .i64 cv] rfl (by exact ⟨hS.ld 0 rfl rfl, hS.ld 0 rfl rfl⟩) ?_
  refine WL.call rfl rfl (vs_new_bad2 (sl := sl) (cap := cv) (hc := h2) (hs := h1) (hS := hS)) rfl ?_
  clear hS; rintro _ w ⟨rfl, hS⟩
  replace hS : St g (cel b1 #[.int .i64 sl, .int .i64 cv, .int .i64 cc, .int .i64 cx] 23 :: L) w := hS
  refine WL.r 5 rfl <| WL.nil <| WC.seq <| WC.seq <| WC.region <| WL.r 2 rfl <| WL.nil <| WC.ifT rfl (decide_eq_true ((by decide))) ?_
  refine WC.seq <| WC.region <| WL.r 3 rfl <| WL.nil <| WC.ret ?_
  refine ⟨[.pointer none, .int .i64 1], ⟨rfl, rfl⟩, ?_⟩
  replace hS := (hS.sel 1 [] rfl)
  exact ⟨rfl, hS⟩
set_option maxRecDepth 8192 in
theorem st_new_bad3 {g w : World} {L : List HP} (sl cv cc cx : Int) (h2 : 1 ≤ cv ∧ cv ≤ 4096) (h1 : 1 ≤ sl ∧ sl ≤ 65536) (h3 : ¬ (1 ≤ cc ∧ cc ≤ 4096)) (hS : St g (L) w) :
    Sp Tryz.prog 11 [.agg #[.int .i64 sl, .int .i64 cv, .int .i64 cc, .int .i64 cx]] w (fun v w' => v = .tuple #[.pointer none, .int .i64 1] ∧ St g (L) w') := by
  refine Sp.enter Tryz.func11 rfl (by kernel_rfl) (by kernel_rfl) ?_
  refine WC.seq <| WC.region <| WL.box rfl rfl #[.int .i64 sl, .int .i64 cv, .int .i64 cc, .int .i64 cx] hS rfl rfl (fun b1 w hS => ?_)
  refine WL.r 2 rfl <| WL.nil <| WC.seq <| WC.region <| WL.run 4 [.int .i64 sl, .int .i64 cv] rfl (by exact ⟨hS.ld 0 rfl rfl, hS.ld 0 rfl rfl⟩) ?_
  refine WL.call rfl rfl (vs_new_ok (sl := sl) (cap := cv) (hc := h2) (hs := h1) (hS := hS)) rfl ?_
  clear hS; rintro _ w ⟨s1, a1, rfl, hS⟩
  replace hS : St g (Vst s1 a1 (VM.new cv.toNat) :: Arn a1 (AM.new sl.toNat) :: cel b1 #[.int .i64 sl, .int .i64 cv, .int .i64 cc, .int .i64 cx] 23 :: L) w := hS
  refine WL.r 5 rfl <| WL.nil <| WC.seq <| WC.seq <| WC.region <| WL.r 2 rfl <| WL.nil <| WC.ifF rfl (decide_eq_false ((by decide))) ?_
  refine WC.skip <| WC.seq <| WC.region <| WL.run 2 [.int .i64 cc] rfl (by exact hS.ld 2 rfl rfl) ?_
  refine WL.call rfl rfl (tb_new_bad (cap := cc) (hc := h3) (hS := hS)) rfl ?_
  clear hS; rintro _ w ⟨rfl, hS⟩
  replace hS := hS.n3 L rfl
  refine WL.r 5 rfl <| WL.nil ?_
  as_aux_lemma =>
  refine WC.seq <| WC.seq <| WC.region <| WL.r 2 rfl <| WL.nil <| WC.ifT rfl (decide_eq_true ((by decide))) ?_
  refine WC.seq <| WC.region <| WL.r 3 rfl <| WL.nil <| WC.ret ?_
  refine ⟨[.pointer none, .int .i64 1], ⟨rfl, rfl⟩, ?_⟩
  replace hS := (hS.sel 3 [] rfl)
  exact ⟨rfl, hS⟩
set_option maxRecDepth 8192 in
theorem st_new_bad4 {g w : World} {L : List HP} (sl cv cc cx : Int) (h2 : 1 ≤ cv ∧ cv ≤ 4096) (h1 : 1 ≤ sl ∧ sl ≤ 65536) (h3 : 1 ≤ cc ∧ cc ≤ 4096) (h4 : ¬ (1 ≤ cx ∧ cx ≤ 4096)) (hS : St g (L) w) :
    Sp Tryz.prog 11 [.agg #[.int .i64 sl, .int .i64 cv, .int .i64 cc, .int .i64 cx]] w (fun v w' => v = .tuple #[.pointer none, .int .i64 1] ∧ St g (L) w') := by
  refine Sp.enter Tryz.func11 rfl (by kernel_rfl) (by kernel_rfl) ?_
  refine WC.seq <| WC.region <| WL.box rfl rfl #[.int .i64 sl, .int .i64 cv, .int .i64 cc, .int .i64 cx] hS rfl rfl (fun b1 w hS => ?_)
  refine WL.r 2 rfl <| WL.nil <| WC.seq <| WC.region <| WL.run 4 [.int .i64 sl, .int .i64 cv] rfl (by exact ⟨hS.ld 0 rfl rfl, hS.ld 0 rfl rfl⟩) ?_
  refine WL.call rfl rfl (vs_new_ok (sl := sl) (cap := cv) (hc := h2) (hs := h1) (hS := hS)) rfl ?_
  clear hS; rintro _ w ⟨s1, a1, rfl, hS⟩
  replace hS : St g (Vst s1 a1 (VM.new cv.toNat) :: Arn a1 (AM.new sl.toNat) :: cel b1 #[.int .i64 sl, .int .i64 cv, .int .i64 cc, .int .i64 cx] 23 :: L) w := hS
  refine WL.r 5 rfl <| WL.nil <| WC.seq <| WC.seq <| WC.region <| WL.r 2 rfl <| WL.nil <| WC.ifF rfl (decide_eq_false ((by decide))) ?_
  refine WC.skip <| WC.seq <| WC.region <| WL.run 2 [.int .i64 cc] rfl (by exact hS.ld 2 rfl rfl) ?_
  refine WL.call rfl rfl (tb_new_ok (cap := cc) (hc := h3) (hS := hS)) rfl ?_
  clear hS; rintro _ w ⟨t1, rfl, hS⟩
  replace hS := hS.n4 L (a0 := Tbl t1 (TM.new cc.toNat)) rfl
  refine WL.r 5 rfl <| WL.nil ?_
  as_aux_lemma =>
  refine WC.seq <| WC.seq <| WC.region <| WL.r 2 rfl <| WL.nil <| WC.ifF rfl (decide_eq_false ((by decide))) ?_
  refine WC.skip <| WC.seq <| WC.region <| WL.run 2 [.int .i64 cx] rfl (by exact hS.ld 3 rfl rfl) ?_
  refine WL.call rfl rfl (tb_new_bad (cap := cx) (hc := h4) (hS := hS)) rfl ?_
  clear hS; rintro _ w ⟨rfl, hS⟩
  replace hS := hS.n4 L rfl
  refine WL.r 5 rfl <| WL.nil <| WC.seq <| WC.seq <| WC.region <| WL.r 2 rfl <| WL.nil <| WC.ifT rfl (decide_eq_true ((by decide))) ?_
  refine WC.seq <| WC.region <| WL.r 3 rfl <| WL.nil ?_
  as_aux_lemma =>
  refine WC.ret ?_
  refine ⟨[.pointer none, .int .i64 1], ⟨rfl, rfl⟩, ?_⟩
  replace hS := (hS.sel 4 [] rfl)
  exact ⟨rfl, hS⟩
theorem cond_eq_and (a b : Bool) : (bif a then b else false) = (a && b) := by cases a <;> rfl
def CfgOk (sl cv cc cx : Int) : Prop := (1 ≤ sl ∧ sl ≤ 65536) ∧ (1 ≤ cv ∧ cv ≤ 4096) ∧ (1 ≤ cc ∧ cc ≤ 4096) ∧ (1 ≤ cx ∧ cx ≤ 4096)
instance (sl cv cc cx : Int) : Decidable (CfgOk sl cv cc cx) := by unfold CfgOk; infer_instance
set_option maxRecDepth 8192 in
theorem st_new_bad {g w : World} {L : List HP} (sl cv cc cx : Int) (hc : ¬ CfgOk sl cv cc cx) (hS : St g (L) w) :
    Sp Tryz.prog 11 [.agg #[.int .i64 sl, .int .i64 cv, .int .i64 cc, .int .i64 cx]] w (fun v w' => v = .tuple #[.pointer none, .int .i64 1] ∧ St g (L) w') := by
  by_cases h2 : 1 ≤ cv ∧ cv ≤ 4096
  · by_cases h1 : 1 ≤ sl ∧ sl ≤ 65536
    · by_cases h3 : 1 ≤ cc ∧ cc ≤ 4096
      · exact st_new_bad4 sl cv cc cx h2 h1 h3 (fun h4 => hc ⟨h1, h2, h3, h4⟩) hS
      · exact st_new_bad3 sl cv cc cx h2 h1 h3 hS
    · exact st_new_bad2 sl cv cc cx h2 h1 hS
  · exact st_new_bad1 sl cv cc cx h2 hS
set_option maxRecDepth 8192 in
theorem st_new_ok {g w : World} {L : List HP} (sl cv cc cx : Int) (hc : CfgOk sl cv cc cx) (hS : St g (L) w) :
    Sp Tryz.prog 11 [.agg #[.int .i64 sl, .int .i64 cv, .int .i64 cc, .int .i64 cx]] w (fun v w' => ∃ (p s a : Nat), v = .tuple #[.pointer (some ⟨p, 0, none⟩), .int .i64 0] ∧ St g (Sto p s a (VM.new cv.toNat) :: Arn a (AM.new sl.toNat) :: L) w') := by
  refine Sp.enter Tryz.func11 rfl (by kernel_rfl) (by kernel_rfl) ?_
  refine WC.seq <| WC.region <| WL.box rfl rfl #[.int .i64 sl, .int .i64 cv, .int .i64 cc, .int .i64 cx] hS rfl rfl (fun b1 w hS => ?_)
  refine WL.r 2 rfl <| WL.nil <| WC.seq <| WC.region ?_
  obtain ⟨h1, h2, h3, h4⟩ := hc
  refine WL.run 4 [.int .i64 sl, .int .i64 cv] rfl (by exact ⟨hS.ld 0 rfl rfl, hS.ld 0 rfl rfl⟩) ?_
  refine WL.call rfl rfl (vs_new_ok (sl := sl) (cap := cv) (hc := h2) (hs := h1) (hS := hS)) rfl ?_
  clear hS; rintro _ w ⟨s1, a1, rfl, hS⟩
  replace hS : St g (Vst s1 a1 (VM.new cv.toNat) :: Arn a1 (AM.new sl.toNat) :: cel b1 #[.int .i64 sl, .int .i64 cv, .int .i64 cc, .int .i64 cx] 23 :: L) w := hS
  refine WL.r 5 rfl <| WL.nil <| WC.seq <| WC.seq <| WC.region <| WL.r 2 rfl <| WL.nil <| WC.ifF rfl (decide_eq_false ((by decide))) ?_
  refine WC.skip <| WC.seq <| WC.region <| WL.run 2 [.int .i64 cc] rfl (by exact hS.ld 2 rfl rfl) ?_
  refine WL.call rfl rfl (tb_new_ok (cap := cc) (hc := h3) (hS := hS)) rfl ?_
  clear hS; rintro _ w ⟨t1, rfl, hS⟩
  replace hS := hS.n4 L (a0 := Tbl t1 (TM.new cc.toNat)) rfl
  refine WL.r 5 rfl <| WL.nil ?_
  as_aux_lemma =>
  refine WC.seq <| WC.seq <| WC.region <| WL.r 2 rfl <| WL.nil <| WC.ifF rfl (decide_eq_false ((by decide))) ?_
  refine WC.skip <| WC.seq <| WC.region <| WL.run 2 [.int .i64 cx] rfl (by exact hS.ld 3 rfl rfl) ?_
  refine WL.call rfl rfl (tb_new_ok (cap := cx) (hc := h4) (hS := hS)) rfl ?_
  clear hS; rintro _ w ⟨t2, rfl, hS⟩
  replace hS := hS.n5 L (a0 := Tbl t2 (TM.new cx.toNat)) rfl
  refine WL.r 5 rfl <| WL.nil <| WC.seq <| WC.seq <| WC.region <| WL.r 2 rfl <| WL.nil <| WC.ifF rfl (decide_eq_false ((by decide))) ?_
  refine WC.skip <| WC.seq <| WC.region <| WL.r 1 rfl <| WL.call rfl rfl (nm_new0   (hS := hS)) rfl ?_
  clear hS; rintro _ w ⟨t3, rfl, hS⟩
  replace hS := hS.n5 L rfl
  refine WL.r 2 rfl <| WL.mkM rfl rfl hS (fun b2 w hS => ?_)
  refine WL.build rfl rfl (cs := [.pointer (some ⟨s1, 0, none⟩), .pointer (some ⟨t3, 0, none⟩), .pointer (some ⟨t1, 0, none⟩), .pointer (some ⟨t2, 0, none⟩), .map (some b2)]) zv_70 rfl rfl <| WL.box rfl rfl #[.pointer (some ⟨s1, 0, none⟩), .pointer (some ⟨t3, 0, none⟩), .pointer (some ⟨t1, 0, none⟩), .pointer (some ⟨t2, 0, none⟩), .map (some b2)] hS rfl rfl (fun b3 w hS => ?_)
  refine WL.r 2 rfl <| WL.nil ?_
  as_aux_lemma =>
  refine WC.ret ?_
  replace hS := St.exClose (f := stoF b3 s1 a1 (VM.new cv.toNat)) (L := Tbl t2 (TM.new cx.toNat) :: Tbl t1 (TM.new cc.toNat) :: Arn a1 (AM.new sl.toNat) :: cel b1 #[.int .i64 sl, .int .i64 cv, .int .i64 cc, .int .i64 cx] 23 :: L) ⟨t3, t1, t2, b2⟩ ((hS.sel 5 [0, 3, 0, 0, 0] rfl))
  replace hS := hS.n5 L (a0 := Sto b3 s1 a1 (VM.new cv.toNat)) rfl
  refine ⟨[.pointer (some ⟨b3, 0, none⟩), .int .i64 0], ⟨rfl, rfl⟩, ?_⟩
  replace hS := (hS.sel 5 [0, 2] rfl)
  exact ⟨_, _, _, rfl, hS⟩
set_option maxRecDepth 8192 in
theorem st_arena {g w : World} {L : List HP} (p s a : Nat) (V : VM) (hS : St g (Sto p s a V :: L) w) :
    Sp Tryz.prog 55 [.pointer (some ⟨p, 0, none⟩)] w (fun v w' => v = .pointer (some ⟨a, 0, none⟩) ∧ St g (Sto p s a V :: L) w') := by
  refine Sp.enter Tryz.func55 rfl (by kernel_rfl) (by kernel_rfl) ?_
  refine WC.seq <| WC.region ?_
  obtain ⟨⟨nm, c, x, m⟩, hS⟩ := St.exOpen (f := stoF p s a V) hS
  replace hS : St g (cel p #[.pointer (some ⟨s, 0, none⟩), .pointer (some ⟨nm, 0, none⟩), .pointer (some ⟨c, 0, none⟩), .pointer (some ⟨x, 0, none⟩), .map (some m)] 70 :: Vst s a V :: blk m (.map (mE []) 0) :: L) w := hS
  refine WL.r 1 rfl <| WL.nil <| WC.seq <| WC.region <| WL.run 4 [.pointer (some ⟨s, 0, none⟩)] rfl (by exact hS.ld 0 rfl rfl) ?_
  refine WL.call rfl rfl (vs_arena   (hS := (hS.sel 2 [1, 0] rfl))) rfl ?_
  clear hS; rintro _ w ⟨rfl, hS⟩
  replace hS := hS.n3 L rfl
  refine WL.r 1 rfl <| WL.nil <| WC.ret ?_
  replace hS := St.exClose (f := stoF p s a V) (L := L) ⟨nm, c, x, m⟩ ((hS.sel 2 [1, 0] rfl))
  replace hS : St g (Sto p s a V :: L) w := hS
  refine ⟨[.pointer (some ⟨a, 0, none⟩)], rfl, ?_⟩
  exact ⟨rfl, hS⟩
set_option maxRecDepth 8192 in
theorem cfg_ok {g w : World} {L : List HP} (sl cv cc cx : Int) (hS : St g (L) w) :
    Sp Tryz.prog 8 [.agg #[.int .i64 sl, .int .i64 cv, .int .i64 cc, .int .i64 cx]] w (fun v w' => ∃ (ok : Bool), v = .bool ok ∧ St g (L) w' ∧ (ok = decide (CfgOk sl cv cc cx))) := by
  refine Sp.enter Tryz.func8 rfl (by kernel_rfl) (by kernel_rfl) ?_
  refine WC.seq <| WC.region <| WL.box rfl rfl #[.int .i64 sl, .int .i64 cv, .int .i64 cc, .int .i64 cx] hS rfl rfl (fun b1 w hS => ?_)
  refine WL.r 1 rfl <| WL.nil <| WC.seq <| WC.region <| WL.run 3 [.int .i64 sl] rfl (by exact hS.ld 0 rfl rfl) ?_
  refine WL.runG 36 [.int .i64 sl, .int .i64 cv, .int .i64 cv, .int .i64 cc, .int .i64 cc, .int .i64 cx, .int .i64 cx] rfl (by exact ⟨fun _ => hS.ld 0 rfl rfl, fun _ => hS.ld 0 rfl rfl, fun _ => hS.ld 0 rfl rfl, fun _ => hS.ld 0 rfl rfl, fun _ => hS.ld 0 rfl rfl, fun _ => hS.ld 0 rfl rfl, fun _ => hS.ld 0 rfl rfl⟩) (fun j => ?_)
  refine WL.prop 40 rfl (band (band (band (band (band (band (band (dd _) (dd _)) (dd _)) (dd _)) (dd _)) (dd _)) (dd _)) (dd _)) <| WL.nil <| WC.ret ?_
  refine ⟨[.bool (bif (bif (bif (bif (bif (bif (bif (decide (1 ≤ sl)) then (decide (sl ≤ 65536)) else false) then (decide (1 ≤ cv)) else false) then (decide (cv ≤ 4096)) else false) then (decide (1 ≤ cc)) else false) then (decide (cc ≤ 4096)) else false) then (decide (1 ≤ cx)) else false) then (decide (cx ≤ 4096)) else false)], rfl, ?_⟩
  replace hS := (hS.sel 1 [] rfl)
  exact ⟨_, rfl, hS, by rw [Bool.eq_iff_iff, decide_eq_true_iff (p := CfgOk sl cv cc cx)]; simp only [cond_eq_and, Bool.and_eq_true, decide_eq_true_eq]; unfold CfgOk; omega⟩
end Go.Proofs.YtaceaiifbiiagaaGreatDoor
/-! ## Wr -/
namespace Go.Proofs.YtaceaiifbiiagaaGreatDoor
open Go Go.V
set_option maxRecDepth 8192 in
theorem wbyte_spec {g w : World} {L : List HP} (q : Nat) (xs : List Int) (a : Option Addr) (c : Nat) (x : Int) (hx : xs.length ≤ 1000000) (hS : St g (cel q #[.slice a (List.length (by8 xs)) c] 86 :: Own 5 1 (by8 xs) a c :: L) w) :
    Sp Tryz.prog 192 [.pointer (some ⟨q, 0, none⟩), .int .u8 x] w (fun v w' => ∃ (a2 : Option Addr) (c2 : Nat), v = .tuple #[] ∧ St g (cel q #[.slice a2 (List.length (by8 (xs ++ [x]))) c2] 86 :: Own 5 1 (by8 (xs ++ [x])) a2 c2 :: L) w') := by
  refine Sp.enter Tryz.func192 rfl (by kernel_rfl) (by kernel_rfl) ?_
  have _ := hx
  refine WC.region <| WL.run 6 [.slice a (List.length (by8 xs)) c] rfl (by exact hS.ld 0 rfl rfl) ?_
  refine WL.lit rfl rfl (by8 [x]) el_24 hS (by exact ⟨rfl, rfl⟩) (by8_ok _) rfl (Nat.le_of_ble_eq_true rfl) (fun b1 w hS => ?_)
  refine WL.app rfl rfl 2 (by8 (xs ++ [x])) el_24 hS rfl (hS.srcO 0 rfl) (by8_app _ _).symm (Rm.of (by first | omega | (simp <;> omega)) (by decide)) rfl rfl (fun a1 c1 w hS => ?_)
  replace hS := hS.n3 L (a0 := Own 5 1 (by8 [x]) (some ⟨b1, 0, none⟩) (List.length (by8 [x]))) (a2 := Own 5 1 (by8 (xs ++ [x])) a1 c1) rfl
  refine WL.r 2 rfl <| WL.st rfl rfl rfl 1 hS rfl rfl rfl rfl rfl rfl (fun w hS => ?_)
  replace hS := hS.n3 L (a1 := cel q #[.slice a1 (List.length (by8 (xs ++ [x]))) c1] 86) rfl
  refine WL.nil ?_
  refine ⟨[], trivial, ?_⟩
  replace hS := (hS.sel 1 [] rfl)
  exact ⟨_, _, rfl, hS⟩
set_option maxRecDepth 8192 in
theorem wvarint_spec {g w : World} {L : List HP} (q : Nat) (xs : List Int) (a : Option Addr) (c : Nat) (u : Int) (hx : xs.length ≤ 1000000) (hu : 0 ≤ u ∧ u ≤ 18446744073709551615) (hS : St g (cel q #[.slice a (List.length (by8 xs)) c] 86 :: Own 5 1 (by8 xs) a c :: L) w) :
    Sp Tryz.prog 104 [.pointer (some ⟨q, 0, none⟩), .int .u64 u] w (fun v w' => ∃ (a2 : Option Addr) (c2 : Nat), v = .tuple #[] ∧ St g (cel q #[.slice a2 (List.length (by8 (xs ++ eU u))) c2] 86 :: Own 5 1 (by8 (xs ++ eU u)) a2 c2 :: L) w') := by
  refine Sp.enter Tryz.func104 rfl (by kernel_rfl) (by kernel_rfl) ?_
  have _ := hu
  have _ := hx
  refine WC.plan [([0, 1, 5, 2, 3, 4], some (6, [0, 1, 2, 3, 4])), ([], some (7, [0])), ([8, 9], some (10, []))] (by kernel_rfl) (by kernel_rfl) ?_
  obtain ⟨k, rfl⟩ : ∃ k : Nat, u = k := ⟨u.toNat, by omega⟩; have hl := varint_len 10 k (by omega) (by omega)
  refine WQ.run 6 [.slice a (List.length (by8 xs)) c] rfl (by exact hS.ld 0 rfl rfl) ?_
  refine WQ.nil ?_
  intro m1
  replace hS := hS.drewN m1; generalize hwm1 : World.drewN _ _ = w at *; clear hwm1
  refine WL.call rfl rfl (appendUvarint (u := k) (hu := (by omega)) (hS := hS)) rfl ?_
  clear hS; rintro _ w ⟨a1, c1, rfl, hS⟩
  replace hS := hS.n3 L (a0 := Own 5 1 (by8 (varint k)) a1 c1) rfl
  refine WL.nil ?_
  refine ⟨by exact ⟨RQ.pure rfl rfl rfl rfl, RQ.pure rfl rfl rfl rfl, RQ.pure rfl rfl rfl rfl, RQ.pure rfl rfl rfl rfl, RQ.load rfl rfl rfl rfl (hS.ld 1 rfl rfl)⟩, ?_⟩
  refine WQ.nil ?_
  intro m2
  replace hS := hS.drewN m2; generalize hwm2 : World.drewN _ _ = w at *; clear hwm2
  refine WL.app rfl rfl 2 (by8 (xs ++ (varint k))) el_24 hS rfl (hS.srcO 0 rfl) (by8_app _ _).symm (Rm.of (by first | omega | (simp <;> omega)) (by decide)) rfl rfl (fun a2 c2 w hS => ?_)
  replace hS := hS.n3 L (a2 := Own 5 1 (by8 (xs ++ (varint k))) a2 c2) rfl
  refine WL.nil ?_
  refine ⟨by exact RQ.pure rfl rfl rfl rfl, ?_⟩
  refine WQ.r 2 rfl <| WQ.nil ?_
  intro m3
  replace hS := hS.drewN m3; generalize hwm3 : World.drewN _ _ = w at *; clear hwm3
  refine WL.st rfl rfl rfl 1 hS rfl rfl rfl rfl rfl rfl (fun w hS => ?_)
  replace hS := hS.n3 L (a1 := cel q #[.slice a2 (List.length (by8 (xs ++ (varint k)))) c2] 86) rfl
  refine WL.nil ?_
  refine ⟨by exact trivial, ?_⟩
  intro m4
  replace hS := hS.drewN m4; generalize hwm4 : World.drewN _ _ = w at *; clear hwm4
  refine ⟨[], trivial, ?_⟩
  replace hS := (hS.sel 1 [] rfl)
  exact ⟨_, _, rfl, hS⟩
set_option maxRecDepth 8192 in
theorem wsigned_spec {g w : World} {L : List HP} (q : Nat) (xs : List Int) (a : Option Addr) (c : Nat) (n : Int) (hx : xs.length ≤ 1000000) (hn : I64 n) (hS : St g (cel q #[.slice a (List.length (by8 xs)) c] 86 :: Own 5 1 (by8 xs) a c :: L) w) :
    Sp Tryz.prog 105 [.pointer (some ⟨q, 0, none⟩), .int .i64 n] w (fun v w' => ∃ (a2 : Option Addr) (c2 : Nat), v = .tuple #[] ∧ St g (cel q #[.slice a2 (List.length (by8 (xs ++ eZ n))) c2] 86 :: Own 5 1 (by8 (xs ++ eZ n)) a2 c2 :: L) w') := by
  refine Sp.enter Tryz.func105 rfl (by kernel_rfl) (by kernel_rfl) ?_
  have _ := hx
  refine WC.region ?_
  have hz := zz_b hn
  refine WL.r 2 rfl <| WL.call rfl rfl (zigzag (n := n) (hn := hn) (hS := hS)) rfl ?_
  clear hS; rintro _ w ⟨rfl, hS⟩
  replace hS := hS.n2 L rfl
  refine WL.call rfl rfl (wvarint_spec (u := zz n) (hx := (by first | omega | (simp <;> omega))) (hu := (by omega)) (hS := hS)) rfl ?_
  generalize hY1 : xs ++ eU (zz n) = Y1
  clear hS; rintro _ w ⟨a1, c1, rfl, hS⟩
  have hY1f0 : (List.length Y1) ≤ (List.length xs) + 10 := by rw [← hY1, List.length_append]; exact Nat.add_le_add_left (eU_len (by omega)) _
  replace hS : St g (cel q #[.slice a1 (List.length (by8 Y1)) c1] 86 :: Own 5 1 (by8 Y1) a1 c1 :: L) w := hS
  refine WL.nil ?_
  refine ⟨[], trivial, ?_⟩
  subst hY1; exact ⟨_, _, rfl, hS⟩
set_option maxRecDepth 8192 in
theorem wbool_spec {g w : World} {L : List HP} (q : Nat) (xs : List Int) (a : Option Addr) (c : Nat) (x : Bool) (hx : xs.length ≤ 1000000) (hS : St g (cel q #[.slice a (List.length (by8 xs)) c] 86 :: Own 5 1 (by8 xs) a c :: L) w) :
    Sp Tryz.prog 106 [.pointer (some ⟨q, 0, none⟩), .bool x] w (fun v w' => ∃ (a2 : Option Addr) (c2 : Nat), v = .tuple #[] ∧ St g (cel q #[.slice a2 (List.length (by8 (xs ++ eF x))) c2] 86 :: Own 5 1 (by8 (xs ++ eF x)) a2 c2 :: L) w') := by
  refine Sp.enter Tryz.func106 rfl (by kernel_rfl) (by kernel_rfl) ?_
  have _ := hx
  refine WC.seq <| WC.region <| WL.r 1 rfl <| WL.nil <| WC.if_ rfl (fun cd1 => ?_) (fun cd1 => ?_)
  · refine WC.region <| WL.r 1 rfl <| WL.call rfl rfl (wbyte_spec (x := 1) (hx := (by first | omega | (simp <;> omega))) (hS := hS)) rfl ?_
    generalize hY1 : xs ++ [1] = Y1
    clear hS; rintro _ w ⟨a1, c1, rfl, hS⟩
    have hY1f0 : (List.length Y1) = (List.length xs) + 1 := by rw [← hY1]; simp
    replace hS : St g (cel q #[.slice a1 (List.length (by8 Y1)) c1] 86 :: Own 5 1 (by8 Y1) a1 c1 :: L) w := hS
    refine WL.nil ?_
    refine ⟨[], trivial, ?_⟩
    subst hY1; rw [eF, if_pos cd1]; exact ⟨_, _, rfl, hS⟩
  · refine WC.region <| WL.r 1 rfl <| WL.call rfl rfl (wbyte_spec (x := 0) (hx := (by first | omega | (simp <;> omega))) (hS := hS)) rfl ?_
    generalize hY1 : xs ++ [0] = Y1
    clear hS; rintro _ w ⟨a1, c1, rfl, hS⟩
    have hY1f0 : (List.length Y1) = (List.length xs) + 1 := by rw [← hY1]; simp
    replace hS : St g (cel q #[.slice a1 (List.length (by8 Y1)) c1] 86 :: Own 5 1 (by8 Y1) a1 c1 :: L) w := hS
    refine WL.nil ?_
    refine ⟨[], trivial, ?_⟩
    subst hY1; rw [eF, if_neg (by simp [cd1])]; exact ⟨_, _, rfl, hS⟩
set_option maxRecDepth 8192 in
theorem wbytes_spec {g w : World} {L : List HP} (q : Nat) (xs : List Int) (a : Option Addr) (c : Nat) (l : List Int) (la : Option Addr) (lc : Nat) (hx : xs.length ≤ 1000000) (hl : l.length ≤ 1000000) (hS : St g (cel q #[.slice a (List.length (by8 xs)) c] 86 :: Own 5 1 (by8 xs) a c :: Sh 5 1 (by8 l) la lc :: L) w) :
    Sp Tryz.prog 107 [.pointer (some ⟨q, 0, none⟩), .slice la (List.length (by8 l)) lc] w (fun v w' => ∃ (a2 : Option Addr) (c2 : Nat), v = .tuple #[] ∧ St g (cel q #[.slice a2 (List.length (by8 (xs ++ eBytes l))) c2] 86 :: Own 5 1 (by8 (xs ++ eBytes l)) a2 c2 :: Sh 5 1 (by8 l) la lc :: L) w') := by
  refine Sp.enter Tryz.func107 rfl (by kernel_rfl) (by kernel_rfl) ?_
  have _ := hl
  have _ := hx
  refine WC.seq <| WC.region ?_
  have hl8 := by8_len l
  refine WL.r 4 rfl <| WL.nw 7 rfl (wu64 (by omega)) ?_
  refine WL.call rfl rfl (wvarint_spec (u := (List.length (by8 l) : Int)) (hx := (by first | omega | (simp <;> omega))) (hu := (by omega)) (hS := hS)) rfl ?_
  generalize hY1 : xs ++ eU (List.length (by8 l) : Int) = Y1
  clear hS; rintro _ w ⟨a1, c1, rfl, hS⟩
  have hY1f0 : (List.length Y1) ≤ (List.length xs) + 10 := by rw [← hY1, List.length_append]; exact Nat.add_le_add_left (eU_len (by omega)) _
  replace hS := hS.n3 L (a0 := cel q #[.slice a1 (List.length (by8 Y1)) c1] 86) (a1 := Own 5 1 (by8 Y1) a1 c1) rfl
  refine WL.nil <| WC.region <| WL.run 6 [.slice a1 (List.length (by8 Y1)) c1] rfl (by exact hS.ld 0 rfl rfl) ?_
  refine WL.app rfl rfl 1 (by8 (Y1 ++ l)) el_24 hS rfl (hS.srcS 2 rfl) (by8_app _ _).symm (Rm.of (by first | omega | (simp <;> omega)) (by decide)) rfl rfl (fun a2 c2 w hS => ?_)
  replace hS := hS.n3 L (a1 := Own 5 1 (by8 (Y1 ++ l)) a2 c2) rfl
  refine WL.r 2 rfl <| WL.st rfl rfl rfl 0 hS rfl rfl rfl rfl rfl rfl (fun w hS => ?_)
  replace hS := hS.n3 L (a0 := cel q #[.slice a2 (List.length (by8 (Y1 ++ l))) c2] 86) rfl
  refine WL.nil ?_
  refine ⟨[], trivial, ?_⟩
  subst hY1; rw [hl8] at hS; rw [eBytes, ← List.append_assoc]; exact ⟨_, _, rfl, hS⟩
set_option maxRecDepth 8192 in
theorem wentries_spec {g w : World} {L : List HP} (q : Nat) (xs : List Int) (a : Option Addr) (c : Nat) (l : List (Int × Int)) (la : Option Addr) (lc : Nat) (hx : xs.length ≤ 1000000) (hl : l.length ≤ 10000) (hx2 : xs.length + 31 * l.length ≤ 900000) (hw : En64 l) (hS : St g (cel q #[.slice a (List.length (by8 xs)) c] 86 :: Own 5 1 (by8 xs) a c :: Sh 39 2 (en2 l) la lc :: L) w) :
    Sp Tryz.prog 108 [.pointer (some ⟨q, 0, none⟩), .slice la (List.length (en2 l)) lc] w (fun v w' => ∃ (a2 : Option Addr) (c2 : Nat), v = .tuple #[] ∧ St g (cel q #[.slice a2 (List.length (by8 (xs ++ eEnts l))) c2] 86 :: Own 5 1 (by8 (xs ++ eEnts l)) a2 c2 :: Sh 39 2 (en2 l) la lc :: L) w') := by
  refine Sp.enter Tryz.func108 rfl (by kernel_rfl) (by kernel_rfl) ?_
  have _ := hl
  have _ := hx
  refine WC.seq <| WC.region ?_
  have hl2 := en2_len l
  refine WL.r 4 rfl <| WL.nw 9 rfl (wu64 (by omega)) ?_
  refine WL.call rfl rfl (wvarint_spec (u := (List.length (en2 l) : Int)) (hx := (by first | omega | (simp <;> omega))) (hu := (by omega)) (hS := hS)) rfl ?_
  generalize hY1 : xs ++ eU (List.length (en2 l) : Int) = Y1
  clear hS; rintro _ w ⟨a1, c1, rfl, hS⟩
  have hY1f0 : (List.length Y1) ≤ (List.length xs) + 10 := by rw [← hY1, List.length_append]; exact Nat.add_le_add_left (eU_len (by omega)) _
  replace hS := hS.n3 L (a0 := cel q #[.slice a1 (List.length (by8 Y1)) c1] 86) (a1 := Own 5 1 (by8 Y1) a1 c1) rfl
  refine WL.nil <| WC.seq <| WC.region <| WL.r 3 rfl <| WL.nil <| WC.block <| WC.loop [0, 11, 12, 13] (fun kM vs w => ∃ (k : Nat) (ys : List Int) (a3 : Option Addr) (c3 : Nat), vs = [.pointer (some ⟨q, 0, none⟩), .slice la (List.length (en2 l)) lc, .int .i64 (List.length (en2 l) : Int), .int .i64 (k : Int)] ∧ St g (cel q #[.slice a3 (List.length (by8 ys)) c3] 86 :: Own 5 1 (by8 ys) a3 c3 :: Sh 39 2 (en2 l) la lc :: L) w ∧ (k ≤ l.length) ∧ (ys = xs ++ (eU l.length ++ (l.take k).flatMap eEn)) ∧ (ys.length ≤ xs.length + 10 + 20 * k) ∧ (l.length - k) = kM) ((List.length l) - 0) ⟨0, Y1, _, _, rfl, hS, (Nat.zero_le _), (by rw [← hY1, hl2]; simp), (by omega), rfl⟩ ?_
  clear hS; rintro _ _ w j ⟨k, ys, a3, c3, rfl, hS, hk, hys, hyl, rfl⟩
  refine WC.seq <| WC.region <| WL.r 1 rfl <| WL.nil <| WC.seq <| WC.ifP rfl (fun cd1 => ?_) (fun cd1 => ?_)
  · refine WC.skip ?_
    as_aux_lemma =>
    refine WC.seq <| WC.block <| WC.seq <| WC.region ?_
    obtain ⟨x, hx2⟩ : ∃ x, l[k]? = some x := ⟨_, List.getElem?_eq_getElem (by omega)⟩; have hxw := hw x (List.mem_of_getElem? hx2); obtain ⟨hw1, hw2⟩ := hxw
    refine WL.ix rfl rfl (i := (k : Int)) (k) el_42 rfl rfl (by omega) (len_of (en2_at hx2)) (hS.rdS 2 rfl (en2_at hx2)).1 ?_
    refine WL.ldC rfl rfl [.int .i64 x.1, .int .i64 x.2] ag_39 rfl (hS.rdS 2 rfl (en2_at hx2)).2 <| WL.new rfl rfl zv_39 hS (fun b1 w hS => ?_)
    refine WL.stF rfl rfl rfl 0 hS rfl rfl rfl rfl rfl ag_39 (fun w hS => ?_)
    replace hS := hS.n4 L (a0 := cel b1 #[.int .i64 x.1, .int .i64 x.2] 39) rfl
    refine WL.nil <| WC.seq <| WC.region <| WL.run 3 [.int .i64 x.1] rfl (by exact hS.ld 0 rfl rfl) ?_
    refine WL.call rfl rfl (wsigned_spec (n := x.1) (hx := (by first | omega | (simp <;> omega))) (hn := (by assumption)) (hS := (hS.sel 3 [1, 1, 0] rfl))) rfl ?_
    generalize hY2 : ys ++ eZ x.1 = Y2
    clear hS; rintro _ w ⟨a2, c2, rfl, hS⟩
    have hY2f0 : (List.length Y2) ≤ (List.length ys) + 10 := by rw [← hY2, List.length_append]; exact Nat.add_le_add_left (eZ_len (by assumption)) _
    replace hS := hS.n4 L (a0 := cel q #[.slice a2 (List.length (by8 Y2)) c2] 86) (a1 := Own 5 1 (by8 Y2) a2 c2) rfl
    refine WL.nil <| WC.region <| WL.run 3 [.int .i64 x.2] rfl (by exact hS.ld 2 rfl rfl) ?_
    refine WL.call rfl rfl (wsigned_spec (n := x.2) (hx := (by first | omega | (simp <;> omega))) (hn := (by assumption)) (hS := hS)) rfl ?_
    generalize hY3 : Y2 ++ eZ x.2 = Y3
    clear hS; rintro _ w ⟨a3, c3, rfl, hS⟩
    have hY3f0 : (List.length Y3) ≤ (List.length Y2) + 10 := by rw [← hY3, List.length_append]; exact Nat.add_le_add_left (eZ_len (by assumption)) _
    replace hS := hS.n4 L (a0 := cel q #[.slice a3 (List.length (by8 Y3)) c3] 86) (a1 := Own 5 1 (by8 Y3) a3 c3) rfl
    refine WL.nil ?_
    as_aux_lemma =>
    refine WC.region <| WL.r 1 rfl <| WL.nw 25 rfl (w64 (by omega)) ?_
    refine WL.r 1 rfl <| WL.nil ?_
    exact ⟨_, by omega, k + 1, Y3, _, _, rfl, (hS.sel 3 [0, 0] rfl), (by omega), (by rw [fm_take eEn hx2, eEn, ← hY3, ← hY2, hys]; simp only [List.append_assoc]), (by omega), rfl⟩
  · refine WC.exit ?_
    refine ⟨[], trivial, ?_⟩
    have h9 : ys = xs ++ eEnts l := by rw [hys, fm_all eEn (by omega), eEnts]; rfl
    rw [← h9]; exact ⟨_, _, rfl, hS⟩
set_option maxRecDepth 8192 in
theorem wchanges_spec {g w : World} {L : List HP} (q : Nat) (xs : List Int) (a : Option Addr) (c : Nat) (l : List (Int × Int × Int × Int)) (la : Option Addr) (lc : Nat) (hx : xs.length ≤ 1000000) (hl : l.length ≤ 10000) (hx2 : xs.length + 31 * l.length ≤ 900000) (hw : Ch64 l) (hS : St g (cel q #[.slice a (List.length (by8 xs)) c] 86 :: Own 5 1 (by8 xs) a c :: Sh 121 4 (ch4 l) la lc :: L) w) :
    Sp Tryz.prog 109 [.pointer (some ⟨q, 0, none⟩), .slice la (List.length (ch4 l)) lc] w (fun v w' => ∃ (a2 : Option Addr) (c2 : Nat), v = .tuple #[] ∧ St g (cel q #[.slice a2 (List.length (by8 (xs ++ eChs l))) c2] 86 :: Own 5 1 (by8 (xs ++ eChs l)) a2 c2 :: Sh 121 4 (ch4 l) la lc :: L) w') := by
  refine Sp.enter Tryz.func109 rfl (by kernel_rfl) (by kernel_rfl) ?_
  have _ := hl
  have _ := hx
  refine WC.seq <| WC.region ?_
  have hl2 := ch4_len l
  refine WL.r 4 rfl <| WL.nw 9 rfl (wu64 (by omega)) ?_
  refine WL.call rfl rfl (wvarint_spec (u := (List.length (ch4 l) : Int)) (hx := (by first | omega | (simp <;> omega))) (hu := (by omega)) (hS := hS)) rfl ?_
  generalize hY1 : xs ++ eU (List.length (ch4 l) : Int) = Y1
  clear hS; rintro _ w ⟨a1, c1, rfl, hS⟩
  have hY1f0 : (List.length Y1) ≤ (List.length xs) + 10 := by rw [← hY1, List.length_append]; exact Nat.add_le_add_left (eU_len (by omega)) _
  replace hS := hS.n3 L (a0 := cel q #[.slice a1 (List.length (by8 Y1)) c1] 86) (a1 := Own 5 1 (by8 Y1) a1 c1) rfl
  refine WL.nil <| WC.seq <| WC.region <| WL.r 3 rfl <| WL.nil <| WC.block <| WC.loop [0, 11, 12, 13] (fun kM vs w => ∃ (k : Nat) (ys : List Int) (a3 : Option Addr) (c3 : Nat), vs = [.pointer (some ⟨q, 0, none⟩), .slice la (List.length (ch4 l)) lc, .int .i64 (List.length (ch4 l) : Int), .int .i64 (k : Int)] ∧ St g (cel q #[.slice a3 (List.length (by8 ys)) c3] 86 :: Own 5 1 (by8 ys) a3 c3 :: Sh 121 4 (ch4 l) la lc :: L) w ∧ (k ≤ l.length) ∧ (ys = xs ++ (eU l.length ++ (l.take k).flatMap eCh)) ∧ (ys.length ≤ xs.length + 10 + 31 * k) ∧ (l.length - k) = kM) ((List.length l) - 0) ⟨0, Y1, _, _, rfl, hS, (Nat.zero_le _), (by rw [← hY1, hl2]; simp), (by omega), rfl⟩ ?_
  clear hS; rintro _ _ w j ⟨k, ys, a3, c3, rfl, hS, hk, hys, hyl, rfl⟩
  refine WC.seq <| WC.region <| WL.r 1 rfl <| WL.nil <| WC.seq <| WC.ifP rfl (fun cd1 => ?_) (fun cd1 => ?_)
  · refine WC.skip ?_
    as_aux_lemma =>
    refine WC.seq <| WC.block <| WC.seq <| WC.region ?_
    obtain ⟨x, hx2⟩ : ∃ x, l[k]? = some x := ⟨_, List.getElem?_eq_getElem (by omega)⟩; have hxw := hw x (List.mem_of_getElem? hx2); obtain ⟨hw1, hw2, hw3, hw4⟩ := hxw
    refine WL.ix rfl rfl (i := (k : Int)) (k) el_43 rfl rfl (by omega) (len_of (ch4_at hx2)) (hS.rdS 2 rfl (ch4_at hx2)).1 ?_
    refine WL.ldC rfl rfl [.int .i64 x.1, .int .i64 x.2.1, .int .i64 x.2.2.1, .int .i64 x.2.2.2] ag_121 rfl (hS.rdS 2 rfl (ch4_at hx2)).2 <| WL.new rfl rfl zv_121 hS (fun b1 w hS => ?_)
    refine WL.stF rfl rfl rfl 0 hS rfl rfl rfl rfl rfl ag_121 (fun w hS => ?_)
    replace hS := hS.n4 L (a0 := cel b1 #[.int .i64 x.1, .int .i64 x.2.1, .int .i64 x.2.2.1, .int .i64 x.2.2.2] 121) rfl
    refine WL.nil <| WC.seq <| WC.region <| WL.run 4 [.int .i64 x.1] rfl (by exact hS.ld 0 rfl rfl) ?_
    refine WL.reb 20 (.int .u8 (x.1 % 256)) (congrArg (Value.int .u8) (by rfl)) ?_
    refine WL.call rfl rfl (wbyte_spec (x := x.1 % 256) (hx := (by first | omega | (simp <;> omega))) (hS := (hS.sel 3 [1, 1, 0] rfl))) rfl ?_
    generalize hY2 : ys ++ [x.1 % 256] = Y2
    clear hS; rintro _ w ⟨a2, c2, rfl, hS⟩
    have hY2f0 : (List.length Y2) = (List.length ys) + 1 := by rw [← hY2]; simp
    replace hS := hS.n4 L (a0 := cel q #[.slice a2 (List.length (by8 Y2)) c2] 86) (a1 := Own 5 1 (by8 Y2) a2 c2) rfl
    refine WL.nil <| WC.seq <| WC.region <| WL.run 3 [.int .i64 x.2.1] rfl (by exact hS.ld 2 rfl rfl) ?_
    refine WL.call rfl rfl (wsigned_spec (n := x.2.1) (hx := (by first | omega | (simp <;> omega))) (hn := (by assumption)) (hS := hS)) rfl ?_
    generalize hY3 : Y2 ++ eZ x.2.1 = Y3
    clear hS; rintro _ w ⟨a3, c3, rfl, hS⟩
    have hY3f0 : (List.length Y3) ≤ (List.length Y2) + 10 := by rw [← hY3, List.length_append]; exact Nat.add_le_add_left (eZ_len (by assumption)) _
    replace hS := hS.n4 L (a0 := cel q #[.slice a3 (List.length (by8 Y3)) c3] 86) (a1 := Own 5 1 (by8 Y3) a3 c3) rfl
    refine WL.nil ?_
    as_aux_lemma =>
    refine WC.seq <| WC.region <| WL.run 3 [.int .i64 x.2.2.1] rfl (by exact hS.ld 2 rfl rfl) ?_
    refine WL.call rfl rfl (wsigned_spec (n := x.2.2.1) (hx := (by first | omega | (simp <;> omega))) (hn := (by assumption)) (hS := hS)) rfl ?_
    generalize hY4 : Y3 ++ eZ x.2.2.1 = Y4
    clear hS; rintro _ w ⟨a4, c4, rfl, hS⟩
    have hY4f0 : (List.length Y4) ≤ (List.length Y3) + 10 := by rw [← hY4, List.length_append]; exact Nat.add_le_add_left (eZ_len (by assumption)) _
    replace hS := hS.n4 L (a0 := cel q #[.slice a4 (List.length (by8 Y4)) c4] 86) (a1 := Own 5 1 (by8 Y4) a4 c4) rfl
    refine WL.nil <| WC.region <| WL.run 3 [.int .i64 x.2.2.2] rfl (by exact hS.ld 2 rfl rfl) ?_
    refine WL.call rfl rfl (wsigned_spec (n := x.2.2.2) (hx := (by first | omega | (simp <;> omega))) (hn := (by assumption)) (hS := hS)) rfl ?_
    generalize hY5 : Y4 ++ eZ x.2.2.2 = Y5
    clear hS; rintro _ w ⟨a5, c5, rfl, hS⟩
    have hY5f0 : (List.length Y5) ≤ (List.length Y4) + 10 := by rw [← hY5, List.length_append]; exact Nat.add_le_add_left (eZ_len (by assumption)) _
    replace hS := hS.n4 L (a0 := cel q #[.slice a5 (List.length (by8 Y5)) c5] 86) (a1 := Own 5 1 (by8 Y5) a5 c5) rfl
    refine WL.nil <| WC.region <| WL.r 1 rfl <| WL.nw 34 rfl (w64 (by omega)) ?_
    refine WL.r 1 rfl <| WL.nil ?_
    exact ⟨_, by omega, k + 1, Y5, _, _, rfl, (hS.sel 3 [0, 0] rfl), (by omega), (by rw [fm_take eCh hx2, eCh, ← hY5, ← hY4, ← hY3, ← hY2, hys]; simp only [List.append_assoc, List.cons_append, List.nil_append]), (by omega), rfl⟩
  · refine WC.exit ?_
    refine ⟨[], trivial, ?_⟩
    have h9 : ys = xs ++ eChs l := by rw [hys, fm_all eCh (by omega), eChs]; rfl
    rw [← h9]; exact ⟨_, _, rfl, hS⟩
end Go.Proofs.YtaceaiifbiiagaaGreatDoor
/-! ## Fld -/
namespace Go.Proofs.YtaceaiifbiiagaaGreatDoor
open Go Go.V
set_option maxRecDepth 8192 in
theorem fields_spec {g w : World} {L : List HP} (c : Int) (hS : St g (L) w) :
    Sp Tryz.prog 36 [.int .i64 c] w (fun v w' => v = .tuple #[.string (mkS (fs c)), .bool (isOp c)] ∧ St g (L) w') := by
  refine Sp.enter Tryz.func36 rfl (by kernel_rfl) (by kernel_rfl) ?_
  refine WC.seq <| WC.region <| WL.r 2 rfl <| WL.nil <| WC.seq <| WC.seq <| WC.region <| WL.r 1 rfl <| WL.nil <| WC.block <| WC.seq <| WC.seq ?_
  refine WC.region <| WL.r 2 rfl <| WL.nil <| WC.ifP rfl (fun cd1 => ?_) (fun cd1 => ?_)
  · refine WC.skip <| WC.ifT rfl (decide_eq_true cd1) <| WC.seq <| WC.region <| WL.r 2 rfl <| WL.nil <| WC.ret ?_
    refine ⟨[.string ⟨#[]⟩, .bool true], ⟨rfl, rfl⟩, ?_⟩
    subst cd1; exact ⟨rfl, hS⟩
  · refine WC.region <| WL.r 2 rfl <| WL.nil <| WC.ifP rfl (fun cd2 => ?_) (fun cd2 => ?_)
    · refine WC.seq <| WC.region <| WL.r 2 rfl <| WL.nil ?_
      as_aux_lemma =>
      refine WC.ret ?_
      refine ⟨[.string ⟨#[]⟩, .bool true], ⟨rfl, rfl⟩, ?_⟩
      subst cd2; exact ⟨rfl, hS⟩
    · refine WC.seq <| WC.seq <| WC.region <| WL.r 2 rfl <| WL.nil ?_
      as_aux_lemma =>
      refine WC.ifP rfl (fun cd3 => ?_) (fun cd3 => ?_)
      · refine WC.skip <| WC.ifT rfl (decide_eq_true cd3) <| WC.seq <| WC.region <| WL.r 2 rfl <| WL.nil <| WC.ret ?_
        refine ⟨[.string ⟨#[65, 75]⟩, .bool true], ⟨rfl, rfl⟩, ?_⟩
        subst cd3; exact ⟨rfl, hS⟩
      · refine WC.seq <| WC.region <| WL.r 2 rfl <| WL.nil <| WC.ifP rfl (fun cd4 => ?_) (fun cd4 => ?_)
        · refine WC.skip <| WC.ifT rfl (decide_eq_true cd4) <| WC.seq <| WC.region <| WL.r 2 rfl <| WL.nil <| WC.ret ?_
          refine ⟨[.string ⟨#[65, 75]⟩, .bool true], ⟨rfl, rfl⟩, ?_⟩
          subst cd4; exact ⟨rfl, hS⟩
        · refine WC.seq <| WC.region <| WL.r 2 rfl <| WL.nil <| WC.ifP rfl (fun cd5 => ?_) (fun cd5 => ?_)
          · refine WC.skip <| WC.ifT rfl (decide_eq_true cd5) <| WC.seq <| WC.region <| WL.r 2 rfl <| WL.nil <| WC.ret ?_
            refine ⟨[.string ⟨#[65, 75]⟩, .bool true], ⟨rfl, rfl⟩, ?_⟩
            subst cd5; exact ⟨rfl, hS⟩
          · refine WC.seq <| WC.region <| WL.r 2 rfl <| WL.nil <| WC.ifP rfl (fun cd6 => ?_) (fun cd6 => ?_)
            · refine WC.skip <| WC.ifT rfl (decide_eq_true cd6) <| WC.seq <| WC.region <| WL.r 2 rfl <| WL.nil <| WC.ret ?_
              refine ⟨[.string ⟨#[65, 75]⟩, .bool true], ⟨rfl, rfl⟩, ?_⟩
              subst cd6; exact ⟨rfl, hS⟩
            · refine WC.region <| WL.r 2 rfl <| WL.nil <| WC.ifP rfl (fun cd7 => ?_) (fun cd7 => ?_)
              · refine WC.seq <| WC.region <| WL.r 2 rfl <| WL.nil <| WC.ret ?_
                refine ⟨[.string ⟨#[65, 75]⟩, .bool true], ⟨rfl, rfl⟩, ?_⟩
                subst cd7; exact ⟨rfl, hS⟩
              · refine WC.seq <| WC.seq <| WC.region <| WL.r 2 rfl <| WL.nil ?_
                as_aux_lemma =>
                refine WC.ifP rfl (fun cd8 => ?_) (fun cd8 => ?_)
                · refine WC.skip <| WC.ifT rfl (decide_eq_true cd8) <| WC.seq <| WC.region <| WL.r 2 rfl <| WL.nil <| WC.ret ?_
                  refine ⟨[.string ⟨#[65, 75, 86]⟩, .bool true], ⟨rfl, rfl⟩, ?_⟩
                  subst cd8; exact ⟨rfl, hS⟩
                · refine WC.seq <| WC.region <| WL.r 2 rfl <| WL.nil <| WC.ifP rfl (fun cd9 => ?_) (fun cd9 => ?_)
                  · refine WC.skip <| WC.ifT rfl (decide_eq_true cd9) <| WC.seq <| WC.region <| WL.r 2 rfl <| WL.nil <| WC.ret ?_
                    refine ⟨[.string ⟨#[65, 75, 86]⟩, .bool true], ⟨rfl, rfl⟩, ?_⟩
                    subst cd9; exact ⟨rfl, hS⟩
                  · refine WC.region <| WL.r 2 rfl <| WL.nil <| WC.ifP rfl (fun cd10 => ?_) (fun cd10 => ?_)
                    · refine WC.seq <| WC.region <| WL.r 2 rfl <| WL.nil <| WC.ret ?_
                      refine ⟨[.string ⟨#[65, 75, 86]⟩, .bool true], ⟨rfl, rfl⟩, ?_⟩
                      subst cd10; exact ⟨rfl, hS⟩
                    · refine WC.seq <| WC.region <| WL.r 2 rfl <| WL.nil <| WC.ifP rfl (fun cd11 => ?_) (fun cd11 => ?_)
                      · refine WC.seq <| WC.region <| WL.r 2 rfl <| WL.nil <| WC.ret ?_
                        refine ⟨[.string ⟨#[65, 67]⟩, .bool true], ⟨rfl, rfl⟩, ?_⟩
                        subst cd11; exact ⟨rfl, hS⟩
                      · refine WC.seq <| WC.region <| WL.r 2 rfl <| WL.nil <| WC.ifP rfl (fun cd12 => ?_) (fun cd12 => ?_)
                        · refine WC.seq <| WC.region <| WL.r 2 rfl <| WL.nil <| WC.ret ?_
                          refine ⟨[.string ⟨#[69]⟩, .bool true], ⟨rfl, rfl⟩, ?_⟩
                          subst cd12; exact ⟨rfl, hS⟩
                        · refine WC.seq <| WC.seq <| WC.region <| WL.r 2 rfl <| WL.nil ?_
                          as_aux_lemma =>
                          refine WC.ifP rfl (fun cd13 => ?_) (fun cd13 => ?_)
                          · refine WC.skip <| WC.ifT rfl (decide_eq_true cd13) <| WC.seq <| WC.region <| WL.r 2 rfl <| WL.nil <| WC.ret ?_
                            refine ⟨[.string ⟨#[65]⟩, .bool true], ⟨rfl, rfl⟩, ?_⟩
                            subst cd13; exact ⟨rfl, hS⟩
                          · refine WC.seq <| WC.region <| WL.r 2 rfl <| WL.nil <| WC.ifP rfl (fun cd14 => ?_) (fun cd14 => ?_)
                            · refine WC.skip <| WC.ifT rfl (decide_eq_true cd14) <| WC.seq <| WC.region <| WL.r 2 rfl <| WL.nil <| WC.ret ?_
                              refine ⟨[.string ⟨#[65]⟩, .bool true], ⟨rfl, rfl⟩, ?_⟩
                              subst cd14; exact ⟨rfl, hS⟩
                            · refine WC.seq <| WC.region <| WL.r 2 rfl <| WL.nil <| WC.ifP rfl (fun cd15 => ?_) (fun cd15 => ?_)
                              · refine WC.skip <| WC.ifT rfl (decide_eq_true cd15) <| WC.seq <| WC.region <| WL.r 2 rfl <| WL.nil <| WC.ret ?_
                                refine ⟨[.string ⟨#[65]⟩, .bool true], ⟨rfl, rfl⟩, ?_⟩
                                subst cd15; exact ⟨rfl, hS⟩
                              · refine WC.seq <| WC.region <| WL.r 2 rfl <| WL.nil <| WC.ifP rfl (fun cd16 => ?_) (fun cd16 => ?_)
                                · refine WC.skip <| WC.ifT rfl (decide_eq_true cd16) <| WC.seq <| WC.region <| WL.r 2 rfl <| WL.nil <| WC.ret ?_
                                  refine ⟨[.string ⟨#[65]⟩, .bool true], ⟨rfl, rfl⟩, ?_⟩
                                  subst cd16; exact ⟨rfl, hS⟩
                                · refine WC.region <| WL.r 2 rfl <| WL.nil <| WC.ifP rfl (fun cd17 => ?_) (fun cd17 => ?_)
                                  · refine WC.seq <| WC.region <| WL.r 2 rfl <| WL.nil <| WC.ret ?_
                                    refine ⟨[.string ⟨#[65]⟩, .bool true], ⟨rfl, rfl⟩, ?_⟩
                                    subst cd17; exact ⟨rfl, hS⟩
                                  · refine WC.seq <| WC.region <| WL.r 2 rfl <| WL.nil <| WC.ifP rfl (fun cd18 => ?_) (fun cd18 => ?_)
                                    · refine WC.seq <| WC.region <| WL.r 2 rfl <| WL.nil ?_
                                      as_aux_lemma =>
                                      refine WC.ret ?_
                                      refine ⟨[.string ⟨#[65, 66, 78]⟩, .bool true], ⟨rfl, rfl⟩, ?_⟩
                                      subst cd18; exact ⟨rfl, hS⟩
                                    · refine WC.seq <| WC.region <| WL.r 2 rfl <| WL.nil ?_
                                      as_aux_lemma =>
                                      refine WC.ifP rfl (fun cd19 => ?_) (fun cd19 => ?_)
                                      · refine WC.seq <| WC.region <| WL.r 2 rfl <| WL.nil <| WC.ret ?_
                                        refine ⟨[.string ⟨#[65, 66, 78, 86]⟩, .bool true], ⟨rfl, rfl⟩, ?_⟩
                                        subst cd19; exact ⟨rfl, hS⟩
                                      · refine WC.seq <| WC.seq <| WC.region <| WL.r 2 rfl <| WL.nil <| WC.ifP rfl (fun cd20 => ?_) (fun cd20 => ?_)
                                        · refine WC.skip <| WC.ifT rfl (decide_eq_true cd20) <| WC.seq <| WC.region <| WL.r 2 rfl <| WL.nil <| WC.ret ?_
                                          refine ⟨[.string ⟨#[65, 76, 72, 78]⟩, .bool true], ⟨rfl, rfl⟩, ?_⟩
                                          subst cd20; exact ⟨rfl, hS⟩
                                        · refine WC.region <| WL.r 2 rfl <| WL.nil <| WC.ifP rfl (fun cd21 => ?_) (fun cd21 => ?_)
                                          · refine WC.seq <| WC.region <| WL.r 2 rfl <| WL.nil <| WC.ret ?_
                                            refine ⟨[.string ⟨#[65, 76, 72, 78]⟩, .bool true], ⟨rfl, rfl⟩, ?_⟩
                                            subst cd21; exact ⟨rfl, hS⟩
                                          · refine WC.seq <| WC.seq <| WC.region <| WL.r 2 rfl <| WL.nil <| WC.ifP rfl (fun cd22 => ?_) (fun cd22 => ?_)
                                            · refine WC.skip <| WC.ifT rfl (decide_eq_true cd22) <| WC.seq <| WC.region <| WL.r 2 rfl <| WL.nil <| WC.ret ?_
                                              refine ⟨[.string ⟨#[65, 66]⟩, .bool true], ⟨rfl, rfl⟩, ?_⟩
                                              subst cd22; exact ⟨rfl, hS⟩
                                            · refine WC.seq <| WC.region <| WL.r 2 rfl <| WL.nil <| WC.ifP rfl (fun cd23 => ?_) (fun cd23 => ?_)
                                              · refine WC.skip <| WC.ifT rfl (decide_eq_true cd23) <| WC.seq <| WC.region <| WL.r 2 rfl <| WL.nil ?_
                                                as_aux_lemma =>
                                                refine WC.ret ?_
                                                refine ⟨[.string ⟨#[65, 66]⟩, .bool true], ⟨rfl, rfl⟩, ?_⟩
                                                subst cd23; exact ⟨rfl, hS⟩
                                              · refine WC.seq <| WC.region <| WL.r 2 rfl <| WL.nil ?_
                                                as_aux_lemma =>
                                                refine WC.ifP rfl (fun cd24 => ?_) (fun cd24 => ?_)
                                                · refine WC.skip <| WC.ifT rfl (decide_eq_true cd24) <| WC.seq <| WC.region <| WL.r 2 rfl <| WL.nil <| WC.ret ?_
                                                  refine ⟨[.string ⟨#[65, 66]⟩, .bool true], ⟨rfl, rfl⟩, ?_⟩
                                                  subst cd24; exact ⟨rfl, hS⟩
                                                · refine WC.region <| WL.r 2 rfl <| WL.nil <| WC.ifP rfl (fun cd25 => ?_) (fun cd25 => ?_)
                                                  · refine WC.seq <| WC.region <| WL.r 2 rfl <| WL.nil <| WC.ret ?_
                                                    refine ⟨[.string ⟨#[65, 66]⟩, .bool true], ⟨rfl, rfl⟩, ?_⟩
                                                    subst cd25; exact ⟨rfl, hS⟩
                                                  · refine WC.seq <| WC.seq <| WC.region <| WL.r 2 rfl <| WL.nil <| WC.ifP rfl (fun cd26 => ?_) (fun cd26 => ?_)
                                                    · refine WC.skip <| WC.ifT rfl (decide_eq_true cd26) <| WC.seq <| WC.region <| WL.r 2 rfl <| WL.nil <| WC.ret ?_
                                                      refine ⟨[.string ⟨#[65, 75, 78]⟩, .bool true], ⟨rfl, rfl⟩, ?_⟩
                                                      subst cd26; exact ⟨rfl, hS⟩
                                                    · refine WC.region <| WL.r 2 rfl <| WL.nil <| WC.ifP rfl (fun cd27 => ?_) (fun cd27 => ?_)
                                                      · refine WC.seq <| WC.region <| WL.r 2 rfl <| WL.nil <| WC.ret ?_
                                                        refine ⟨[.string ⟨#[65, 75, 78]⟩, .bool true], ⟨rfl, rfl⟩, ?_⟩
                                                        subst cd27; exact ⟨rfl, hS⟩
                                                      · refine WC.seq <| WC.region <| WL.r 2 rfl <| WL.nil <| WC.ifP rfl (fun cd28 => ?_) (fun cd28 => ?_)
                                                        · refine WC.seq <| WC.region <| WL.r 2 rfl <| WL.nil <| WC.ret ?_
                                                          refine ⟨[.string ⟨#[65, 78]⟩, .bool true], ⟨rfl, rfl⟩, ?_⟩
                                                          subst cd28; exact ⟨rfl, hS⟩
                                                        · refine WC.seq <| WC.seq <| WC.region <| WL.r 2 rfl <| WL.nil ?_
                                                          as_aux_lemma =>
                                                          refine WC.ifP rfl (fun cd29 => ?_) (fun cd29 => ?_)
                                                          · refine WC.skip <| WC.ifT rfl (decide_eq_true cd29) <| WC.seq <| WC.region <| WL.r 2 rfl <| WL.nil <| WC.ret ?_
                                                            refine ⟨[.string ⟨#[65, 76, 72]⟩, .bool true], ⟨rfl, rfl⟩, ?_⟩
                                                            subst cd29; exact ⟨rfl, hS⟩
                                                          · refine WC.seq <| WC.region <| WL.r 2 rfl <| WL.nil <| WC.ifP rfl (fun cd30 => ?_) (fun cd30 => ?_)
                                                            · refine WC.skip <| WC.ifT rfl (decide_eq_true cd30) <| WC.seq <| WC.region <| WL.r 2 rfl <| WL.nil <| WC.ret ?_
                                                              refine ⟨[.string ⟨#[65, 76, 72]⟩, .bool true], ⟨rfl, rfl⟩, ?_⟩
                                                              subst cd30; exact ⟨rfl, hS⟩
                                                            · refine WC.region <| WL.r 2 rfl <| WL.nil <| WC.ifP rfl (fun cd31 => ?_) (fun cd31 => ?_)
                                                              · refine WC.seq <| WC.region <| WL.r 2 rfl <| WL.nil <| WC.ret ?_
                                                                refine ⟨[.string ⟨#[65, 76, 72]⟩, .bool true], ⟨rfl, rfl⟩, ?_⟩
                                                                subst cd31; exact ⟨rfl, hS⟩
                                                              · refine WC.seq <| WC.region <| WL.r 2 rfl <| WL.nil <| WC.ifP rfl (fun cd32 => ?_) (fun cd32 => ?_)
                                                                · refine WC.seq <| WC.region <| WL.r 2 rfl <| WL.nil <| WC.ret ?_
                                                                  refine ⟨[.string ⟨#[65, 76, 72, 78, 70, 89]⟩, .bool true], ⟨rfl, rfl⟩, ?_⟩
                                                                  subst cd32; exact ⟨rfl, hS⟩
                                                                · refine WC.seq <| WC.region <| WL.r 2 rfl <| WL.nil <| WC.ifP rfl (fun cd33 => ?_) (fun cd33 => ?_)
                                                                  · refine WC.seq <| WC.region <| WL.r 2 rfl <| WL.nil <| WC.ret ?_
                                                                    refine ⟨[.string ⟨#[65, 66, 83]⟩, .bool true], ⟨rfl, rfl⟩, ?_⟩
                                                                    subst cd33; exact ⟨rfl, hS⟩
                                                                  · refine WC.seq <| WC.region <| WL.r 2 rfl <| WL.nil <| WC.ifP rfl (fun cd34 => ?_) (fun cd34 => ?_)
                                                                    · refine WC.seq <| WC.region <| WL.r 2 rfl <| WL.nil ?_
                                                                      as_aux_lemma =>
                                                                      refine WC.ret ?_
                                                                      refine ⟨[.string ⟨#[83]⟩, .bool true], ⟨rfl, rfl⟩, ?_⟩
                                                                      subst cd34; exact ⟨rfl, hS⟩
                                                                    · refine WC.seq <| WC.region <| WL.r 2 rfl <| WL.nil ?_
                                                                      as_aux_lemma =>
                                                                      refine WC.ifP rfl (fun cd35 => ?_) (fun cd35 => ?_)
                                                                      · refine WC.seq <| WC.region <| WL.r 2 rfl <| WL.nil <| WC.ret ?_
                                                                        refine ⟨[.string ⟨#[66, 89]⟩, .bool true], ⟨rfl, rfl⟩, ?_⟩
                                                                        subst cd35; exact ⟨rfl, hS⟩
                                                                      · refine WC.skip <| WC.seq <| WC.region <| WL.r 2 rfl <| WL.nil <| WC.ret ?_
                                                                        refine ⟨[.string ⟨#[]⟩, .bool false], ⟨rfl, rfl⟩, ?_⟩
                                                                        have h0 : ¬ (1 ≤ c ∧ c ≤ 35) := by omega
                                                                        rw [fs_none h0, isOp, decide_eq_false h0]; exact ⟨rfl, hS⟩
end Go.Proofs.YtaceaiifbiiagaaGreatDoor
/-! ## Opw -/
namespace Go.Proofs.YtaceaiifbiiagaaGreatDoor
open Go Go.V
set_option maxRecDepth 8192 in
theorem clear_spec {g w : World} {L : List HP} (y : ZM) (ab ae ac : Option Addr) (cb ce cc : Nat) (f : Int) (hS : St g (L) w) :
    Sp Tryz.prog 47 [.agg #[.int .i64 y.code, .int .u64 y.a, .int .u64 y.b, .int .i64 y.key, .int .i64 y.val, .int .i64 y.lo, .int .i64 y.hi, .int .i64 y.n, .bool y.flag, .string y.name, .slice ab y.lb cb, .slice ae y.le ce, .slice ac y.lc cc], .int .i32 f] w (fun v w' => ∃ (ab2 ae2 ac2 : Option Addr) (cb2 ce2 cc2 : Nat), v = .agg #[.int .i64 (clrZ f y).code, .int .u64 (clrZ f y).a, .int .u64 (clrZ f y).b, .int .i64 (clrZ f y).key, .int .i64 (clrZ f y).val, .int .i64 (clrZ f y).lo, .int .i64 (clrZ f y).hi, .int .i64 (clrZ f y).n, .bool (clrZ f y).flag, .string (clrZ f y).name, .slice ab2 (clrZ f y).lb cb2, .slice ae2 (clrZ f y).le ce2, .slice ac2 (clrZ f y).lc cc2] ∧ St g (L) w') := by
  refine Sp.enter Tryz.func47 rfl (by kernel_rfl) (by kernel_rfl) ?_
  refine WC.seq <| WC.region <| WL.box rfl rfl #[.int .i64 y.code, .int .u64 y.a, .int .u64 y.b, .int .i64 y.key, .int .i64 y.val, .int .i64 y.lo, .int .i64 y.hi, .int .i64 y.n, .bool y.flag, .string y.name, .slice ab y.lb cb, .slice ae y.le ce, .slice ac y.lc cc] hS rfl rfl (fun b1 w hS => ?_)
  refine WL.new rfl rfl zv_49 hS (fun b2 w hS => ?_)
  refine WL.nil <| WC.seq <| WC.seq <| WC.region <| WL.r 1 rfl <| WL.nil <| WC.block <| WC.seq <| WC.region <| WL.r 2 rfl <| WL.nil <| WC.ifP rfl (fun cd1 => ?_) (fun cd1 => ?_)
  · refine WC.region <| WL.r 1 rfl <| WL.st rfl rfl rfl 1 hS rfl rfl rfl rfl rfl rfl (fun w hS => ?_)
    replace hS : St g (cel b2 #[.int .i64 0, .int .u64 0, .int .u64 0, .int .i64 0, .int .i64 0, .int .i64 0, .int .i64 0, .int .i64 0, .bool false, .string ⟨#[]⟩, .slice none 0 0, .slice none 0 0, .slice none 0 0] 49 :: cel b1 #[.int .i64 y.code, .int .u64 0, .int .u64 y.b, .int .i64 y.key, .int .i64 y.val, .int .i64 y.lo, .int .i64 y.hi, .int .i64 y.n, .bool y.flag, .string y.name, .slice ab y.lb cb, .slice ae y.le ce, .slice ac y.lc cc] 49 :: L) w := hS
    refine WL.nil <| WC.seq <| WC.region <| WL.ldF rfl rfl 1 hS rfl rfl ag_49 <| WL.stF rfl rfl rfl 0 hS rfl rfl rfl rfl rfl ag_49 (fun w hS => ?_)
    replace hS := hS.n2 L (a0 := cel b2 #[.int .i64 y.code, .int .u64 0, .int .u64 y.b, .int .i64 y.key, .int .i64 y.val, .int .i64 y.lo, .int .i64 y.hi, .int .i64 y.n, .bool y.flag, .string y.name, .slice ab y.lb cb, .slice ae y.le ce, .slice ac y.lc cc] 49) rfl
    refine WL.nil ?_
    as_aux_lemma =>
    refine WC.ret ?_
    refine ⟨[.agg #[.int .i64 y.code, .int .u64 0, .int .u64 y.b, .int .i64 y.key, .int .i64 y.val, .int .i64 y.lo, .int .i64 y.hi, .int .i64 y.n, .bool y.flag, .string y.name, .slice ab y.lb cb, .slice ae y.le ce, .slice ac y.lc cc]], ⟨⟨_, rfl, hS.lvF 0 rfl ag_49⟩, trivial⟩, ?_⟩
    replace hS := (hS.sel 2 [] rfl)
    subst cd1; rw [clrZ_A]; exact ⟨_, _, _, _, _, _, rfl, hS⟩
  · refine WC.seq <| WC.region <| WL.r 2 rfl <| WL.nil <| WC.ifP rfl (fun cd2 => ?_) (fun cd2 => ?_)
    · refine WC.region <| WL.r 1 rfl <| WL.st rfl rfl rfl 1 hS rfl rfl rfl rfl rfl rfl (fun w hS => ?_)
      replace hS : St g (cel b2 #[.int .i64 0, .int .u64 0, .int .u64 0, .int .i64 0, .int .i64 0, .int .i64 0, .int .i64 0, .int .i64 0, .bool false, .string ⟨#[]⟩, .slice none 0 0, .slice none 0 0, .slice none 0 0] 49 :: cel b1 #[.int .i64 y.code, .int .u64 y.a, .int .u64 0, .int .i64 y.key, .int .i64 y.val, .int .i64 y.lo, .int .i64 y.hi, .int .i64 y.n, .bool y.flag, .string y.name, .slice ab y.lb cb, .slice ae y.le ce, .slice ac y.lc cc] 49 :: L) w := hS
      refine WL.nil ?_
      as_aux_lemma =>
      refine WC.seq <| WC.region <| WL.ldF rfl rfl 1 hS rfl rfl ag_49 <| WL.stF rfl rfl rfl 0 hS rfl rfl rfl rfl rfl ag_49 (fun w hS => ?_)
      replace hS := hS.n2 L (a0 := cel b2 #[.int .i64 y.code, .int .u64 y.a, .int .u64 0, .int .i64 y.key, .int .i64 y.val, .int .i64 y.lo, .int .i64 y.hi, .int .i64 y.n, .bool y.flag, .string y.name, .slice ab y.lb cb, .slice ae y.le ce, .slice ac y.lc cc] 49) rfl
      refine WL.nil <| WC.ret ?_
      refine ⟨[.agg #[.int .i64 y.code, .int .u64 y.a, .int .u64 0, .int .i64 y.key, .int .i64 y.val, .int .i64 y.lo, .int .i64 y.hi, .int .i64 y.n, .bool y.flag, .string y.name, .slice ab y.lb cb, .slice ae y.le ce, .slice ac y.lc cc]], ⟨⟨_, rfl, hS.lvF 0 rfl ag_49⟩, trivial⟩, ?_⟩
      replace hS := (hS.sel 2 [] rfl)
      subst cd2; rw [clrZ_B]; exact ⟨_, _, _, _, _, _, rfl, hS⟩
    · refine WC.seq <| WC.region <| WL.r 2 rfl <| WL.nil ?_
      as_aux_lemma =>
      refine WC.ifP rfl (fun cd3 => ?_) (fun cd3 => ?_)
      · refine WC.region <| WL.r 1 rfl <| WL.st rfl rfl rfl 1 hS rfl rfl rfl rfl rfl rfl (fun w hS => ?_)
        replace hS : St g (cel b2 #[.int .i64 0, .int .u64 0, .int .u64 0, .int .i64 0, .int .i64 0, .int .i64 0, .int .i64 0, .int .i64 0, .bool false, .string ⟨#[]⟩, .slice none 0 0, .slice none 0 0, .slice none 0 0] 49 :: cel b1 #[.int .i64 y.code, .int .u64 y.a, .int .u64 y.b, .int .i64 0, .int .i64 y.val, .int .i64 y.lo, .int .i64 y.hi, .int .i64 y.n, .bool y.flag, .string y.name, .slice ab y.lb cb, .slice ae y.le ce, .slice ac y.lc cc] 49 :: L) w := hS
        refine WL.nil <| WC.seq <| WC.region <| WL.ldF rfl rfl 1 hS rfl rfl ag_49 <| WL.stF rfl rfl rfl 0 hS rfl rfl rfl rfl rfl ag_49 (fun w hS => ?_)
        replace hS := hS.n2 L (a0 := cel b2 #[.int .i64 y.code, .int .u64 y.a, .int .u64 y.b, .int .i64 0, .int .i64 y.val, .int .i64 y.lo, .int .i64 y.hi, .int .i64 y.n, .bool y.flag, .string y.name, .slice ab y.lb cb, .slice ae y.le ce, .slice ac y.lc cc] 49) rfl
        refine WL.nil <| WC.ret ?_
        refine ⟨[.agg #[.int .i64 y.code, .int .u64 y.a, .int .u64 y.b, .int .i64 0, .int .i64 y.val, .int .i64 y.lo, .int .i64 y.hi, .int .i64 y.n, .bool y.flag, .string y.name, .slice ab y.lb cb, .slice ae y.le ce, .slice ac y.lc cc]], ⟨⟨_, rfl, hS.lvF 0 rfl ag_49⟩, trivial⟩, ?_⟩
        replace hS := (hS.sel 2 [] rfl)
        subst cd3; rw [clrZ_K]; exact ⟨_, _, _, _, _, _, rfl, hS⟩
      · refine WC.seq <| WC.region <| WL.r 2 rfl <| WL.nil <| WC.ifP rfl (fun cd4 => ?_) (fun cd4 => ?_)
        · refine WC.region <| WL.r 1 rfl <| WL.st rfl rfl rfl 1 hS rfl rfl rfl rfl rfl rfl (fun w hS => ?_)
          replace hS : St g (cel b2 #[.int .i64 0, .int .u64 0, .int .u64 0, .int .i64 0, .int .i64 0, .int .i64 0, .int .i64 0, .int .i64 0, .bool false, .string ⟨#[]⟩, .slice none 0 0, .slice none 0 0, .slice none 0 0] 49 :: cel b1 #[.int .i64 y.code, .int .u64 y.a, .int .u64 y.b, .int .i64 y.key, .int .i64 0, .int .i64 y.lo, .int .i64 y.hi, .int .i64 y.n, .bool y.flag, .string y.name, .slice ab y.lb cb, .slice ae y.le ce, .slice ac y.lc cc] 49 :: L) w := hS
          refine WL.nil <| WC.seq <| WC.region <| WL.ldF rfl rfl 1 hS rfl rfl ag_49 <| WL.stF rfl rfl rfl 0 hS rfl rfl rfl rfl rfl ag_49 (fun w hS => ?_)
          replace hS := hS.n2 L (a0 := cel b2 #[.int .i64 y.code, .int .u64 y.a, .int .u64 y.b, .int .i64 y.key, .int .i64 0, .int .i64 y.lo, .int .i64 y.hi, .int .i64 y.n, .bool y.flag, .string y.name, .slice ab y.lb cb, .slice ae y.le ce, .slice ac y.lc cc] 49) rfl
          refine WL.nil <| WC.ret ?_
          refine ⟨[.agg #[.int .i64 y.code, .int .u64 y.a, .int .u64 y.b, .int .i64 y.key, .int .i64 0, .int .i64 y.lo, .int .i64 y.hi, .int .i64 y.n, .bool y.flag, .string y.name, .slice ab y.lb cb, .slice ae y.le ce, .slice ac y.lc cc]], ⟨⟨_, rfl, hS.lvF 0 rfl ag_49⟩, trivial⟩, ?_⟩
          replace hS := (hS.sel 2 [] rfl)
          subst cd4; rw [clrZ_V]; exact ⟨_, _, _, _, _, _, rfl, hS⟩
        · refine WC.seq <| WC.region <| WL.r 2 rfl <| WL.nil <| WC.ifP rfl (fun cd5 => ?_) (fun cd5 => ?_)
          · refine WC.region <| WL.r 1 rfl <| WL.st rfl rfl rfl 1 hS rfl rfl rfl rfl rfl rfl (fun w hS => ?_)
            replace hS : St g (cel b2 #[.int .i64 0, .int .u64 0, .int .u64 0, .int .i64 0, .int .i64 0, .int .i64 0, .int .i64 0, .int .i64 0, .bool false, .string ⟨#[]⟩, .slice none 0 0, .slice none 0 0, .slice none 0 0] 49 :: cel b1 #[.int .i64 y.code, .int .u64 y.a, .int .u64 y.b, .int .i64 y.key, .int .i64 y.val, .int .i64 0, .int .i64 y.hi, .int .i64 y.n, .bool y.flag, .string y.name, .slice ab y.lb cb, .slice ae y.le ce, .slice ac y.lc cc] 49 :: L) w := hS
            refine WL.nil <| WC.seq <| WC.region <| WL.ldF rfl rfl 1 hS rfl rfl ag_49 <| WL.stF rfl rfl rfl 0 hS rfl rfl rfl rfl rfl ag_49 (fun w hS => ?_)
            replace hS := hS.n2 L (a0 := cel b2 #[.int .i64 y.code, .int .u64 y.a, .int .u64 y.b, .int .i64 y.key, .int .i64 y.val, .int .i64 0, .int .i64 y.hi, .int .i64 y.n, .bool y.flag, .string y.name, .slice ab y.lb cb, .slice ae y.le ce, .slice ac y.lc cc] 49) rfl
            refine WL.nil <| WC.ret ?_
            refine ⟨[.agg #[.int .i64 y.code, .int .u64 y.a, .int .u64 y.b, .int .i64 y.key, .int .i64 y.val, .int .i64 0, .int .i64 y.hi, .int .i64 y.n, .bool y.flag, .string y.name, .slice ab y.lb cb, .slice ae y.le ce, .slice ac y.lc cc]], ⟨⟨_, rfl, hS.lvF 0 rfl ag_49⟩, trivial⟩, ?_⟩
            replace hS := (hS.sel 2 [] rfl)
            subst cd5; rw [clrZ_L]; exact ⟨_, _, _, _, _, _, rfl, hS⟩
          · refine WC.seq <| WC.region <| WL.r 2 rfl <| WL.nil <| WC.ifP rfl (fun cd6 => ?_) (fun cd6 => ?_)
            · refine WC.region <| WL.r 1 rfl <| WL.st rfl rfl rfl 1 hS rfl rfl rfl rfl rfl rfl (fun w hS => ?_)
              replace hS : St g (cel b2 #[.int .i64 0, .int .u64 0, .int .u64 0, .int .i64 0, .int .i64 0, .int .i64 0, .int .i64 0, .int .i64 0, .bool false, .string ⟨#[]⟩, .slice none 0 0, .slice none 0 0, .slice none 0 0] 49 :: cel b1 #[.int .i64 y.code, .int .u64 y.a, .int .u64 y.b, .int .i64 y.key, .int .i64 y.val, .int .i64 y.lo, .int .i64 0, .int .i64 y.n, .bool y.flag, .string y.name, .slice ab y.lb cb, .slice ae y.le ce, .slice ac y.lc cc] 49 :: L) w := hS
              refine WL.nil <| WC.seq <| WC.region <| WL.ldF rfl rfl 1 hS rfl rfl ag_49 <| WL.stF rfl rfl rfl 0 hS rfl rfl rfl rfl rfl ag_49 (fun w hS => ?_)
              replace hS := hS.n2 L (a0 := cel b2 #[.int .i64 y.code, .int .u64 y.a, .int .u64 y.b, .int .i64 y.key, .int .i64 y.val, .int .i64 y.lo, .int .i64 0, .int .i64 y.n, .bool y.flag, .string y.name, .slice ab y.lb cb, .slice ae y.le ce, .slice ac y.lc cc] 49) rfl
              refine WL.nil ?_
              as_aux_lemma =>
              refine WC.ret ?_
              refine ⟨[.agg #[.int .i64 y.code, .int .u64 y.a, .int .u64 y.b, .int .i64 y.key, .int .i64 y.val, .int .i64 y.lo, .int .i64 0, .int .i64 y.n, .bool y.flag, .string y.name, .slice ab y.lb cb, .slice ae y.le ce, .slice ac y.lc cc]], ⟨⟨_, rfl, hS.lvF 0 rfl ag_49⟩, trivial⟩, ?_⟩
              replace hS := (hS.sel 2 [] rfl)
              subst cd6; rw [clrZ_H]; exact ⟨_, _, _, _, _, _, rfl, hS⟩
            · refine WC.seq <| WC.region <| WL.r 2 rfl <| WL.nil <| WC.ifP rfl (fun cd7 => ?_) (fun cd7 => ?_)
              · refine WC.region <| WL.r 1 rfl <| WL.st rfl rfl rfl 1 hS rfl rfl rfl rfl rfl rfl (fun w hS => ?_)
                replace hS : St g (cel b2 #[.int .i64 0, .int .u64 0, .int .u64 0, .int .i64 0, .int .i64 0, .int .i64 0, .int .i64 0, .int .i64 0, .bool false, .string ⟨#[]⟩, .slice none 0 0, .slice none 0 0, .slice none 0 0] 49 :: cel b1 #[.int .i64 y.code, .int .u64 y.a, .int .u64 y.b, .int .i64 y.key, .int .i64 y.val, .int .i64 y.lo, .int .i64 y.hi, .int .i64 0, .bool y.flag, .string y.name, .slice ab y.lb cb, .slice ae y.le ce, .slice ac y.lc cc] 49 :: L) w := hS
                refine WL.nil ?_
                as_aux_lemma =>
                refine WC.seq <| WC.region <| WL.ldF rfl rfl 1 hS rfl rfl ag_49 <| WL.stF rfl rfl rfl 0 hS rfl rfl rfl rfl rfl ag_49 (fun w hS => ?_)
                replace hS := hS.n2 L (a0 := cel b2 #[.int .i64 y.code, .int .u64 y.a, .int .u64 y.b, .int .i64 y.key, .int .i64 y.val, .int .i64 y.lo, .int .i64 y.hi, .int .i64 0, .bool y.flag, .string y.name, .slice ab y.lb cb, .slice ae y.le ce, .slice ac y.lc cc] 49) rfl
                refine WL.nil <| WC.ret ?_
                refine ⟨[.agg #[.int .i64 y.code, .int .u64 y.a, .int .u64 y.b, .int .i64 y.key, .int .i64 y.val, .int .i64 y.lo, .int .i64 y.hi, .int .i64 0, .bool y.flag, .string y.name, .slice ab y.lb cb, .slice ae y.le ce, .slice ac y.lc cc]], ⟨⟨_, rfl, hS.lvF 0 rfl ag_49⟩, trivial⟩, ?_⟩
                replace hS := (hS.sel 2 [] rfl)
                subst cd7; rw [clrZ_N]; exact ⟨_, _, _, _, _, _, rfl, hS⟩
              · refine WC.seq <| WC.region <| WL.r 2 rfl <| WL.nil ?_
                as_aux_lemma =>
                refine WC.ifP rfl (fun cd8 => ?_) (fun cd8 => ?_)
                · refine WC.region <| WL.r 1 rfl <| WL.st rfl rfl rfl 1 hS rfl rfl rfl rfl rfl rfl (fun w hS => ?_)
                  replace hS : St g (cel b2 #[.int .i64 0, .int .u64 0, .int .u64 0, .int .i64 0, .int .i64 0, .int .i64 0, .int .i64 0, .int .i64 0, .bool false, .string ⟨#[]⟩, .slice none 0 0, .slice none 0 0, .slice none 0 0] 49 :: cel b1 #[.int .i64 y.code, .int .u64 y.a, .int .u64 y.b, .int .i64 y.key, .int .i64 y.val, .int .i64 y.lo, .int .i64 y.hi, .int .i64 y.n, .bool false, .string y.name, .slice ab y.lb cb, .slice ae y.le ce, .slice ac y.lc cc] 49 :: L) w := hS
                  refine WL.nil <| WC.seq <| WC.region <| WL.ldF rfl rfl 1 hS rfl rfl ag_49 <| WL.stF rfl rfl rfl 0 hS rfl rfl rfl rfl rfl ag_49 (fun w hS => ?_)
                  replace hS := hS.n2 L (a0 := cel b2 #[.int .i64 y.code, .int .u64 y.a, .int .u64 y.b, .int .i64 y.key, .int .i64 y.val, .int .i64 y.lo, .int .i64 y.hi, .int .i64 y.n, .bool false, .string y.name, .slice ab y.lb cb, .slice ae y.le ce, .slice ac y.lc cc] 49) rfl
                  refine WL.nil <| WC.ret ?_
                  refine ⟨[.agg #[.int .i64 y.code, .int .u64 y.a, .int .u64 y.b, .int .i64 y.key, .int .i64 y.val, .int .i64 y.lo, .int .i64 y.hi, .int .i64 y.n, .bool false, .string y.name, .slice ab y.lb cb, .slice ae y.le ce, .slice ac y.lc cc]], ⟨⟨_, rfl, hS.lvF 0 rfl ag_49⟩, trivial⟩, ?_⟩
                  replace hS := (hS.sel 2 [] rfl)
                  subst cd8; rw [clrZ_F]; exact ⟨_, _, _, _, _, _, rfl, hS⟩
                · refine WC.seq <| WC.region <| WL.r 2 rfl <| WL.nil <| WC.ifP rfl (fun cd9 => ?_) (fun cd9 => ?_)
                  · refine WC.region <| WL.r 1 rfl <| WL.st rfl rfl rfl 1 hS rfl rfl rfl rfl rfl rfl (fun w hS => ?_)
                    replace hS : St g (cel b2 #[.int .i64 0, .int .u64 0, .int .u64 0, .int .i64 0, .int .i64 0, .int .i64 0, .int .i64 0, .int .i64 0, .bool false, .string ⟨#[]⟩, .slice none 0 0, .slice none 0 0, .slice none 0 0] 49 :: cel b1 #[.int .i64 y.code, .int .u64 y.a, .int .u64 y.b, .int .i64 y.key, .int .i64 y.val, .int .i64 y.lo, .int .i64 y.hi, .int .i64 y.n, .bool y.flag, .string ⟨#[]⟩, .slice ab y.lb cb, .slice ae y.le ce, .slice ac y.lc cc] 49 :: L) w := hS
                    refine WL.nil <| WC.seq <| WC.region <| WL.ldF rfl rfl 1 hS rfl rfl ag_49 <| WL.stF rfl rfl rfl 0 hS rfl rfl rfl rfl rfl ag_49 (fun w hS => ?_)
                    replace hS := hS.n2 L (a0 := cel b2 #[.int .i64 y.code, .int .u64 y.a, .int .u64 y.b, .int .i64 y.key, .int .i64 y.val, .int .i64 y.lo, .int .i64 y.hi, .int .i64 y.n, .bool y.flag, .string ⟨#[]⟩, .slice ab y.lb cb, .slice ae y.le ce, .slice ac y.lc cc] 49) rfl
                    refine WL.nil <| WC.ret ?_
                    refine ⟨[.agg #[.int .i64 y.code, .int .u64 y.a, .int .u64 y.b, .int .i64 y.key, .int .i64 y.val, .int .i64 y.lo, .int .i64 y.hi, .int .i64 y.n, .bool y.flag, .string ⟨#[]⟩, .slice ab y.lb cb, .slice ae y.le ce, .slice ac y.lc cc]], ⟨⟨_, rfl, hS.lvF 0 rfl ag_49⟩, trivial⟩, ?_⟩
                    replace hS := (hS.sel 2 [] rfl)
                    subst cd9; rw [clrZ_S]; exact ⟨_, _, _, _, _, _, rfl, hS⟩
                  · refine WC.seq <| WC.region <| WL.r 2 rfl <| WL.nil <| WC.ifP rfl (fun cd10 => ?_) (fun cd10 => ?_)
                    · refine WC.region <| WL.r 1 rfl <| WL.st rfl rfl rfl 1 hS rfl rfl rfl rfl rfl rfl (fun w hS => ?_)
                      replace hS : St g (cel b2 #[.int .i64 0, .int .u64 0, .int .u64 0, .int .i64 0, .int .i64 0, .int .i64 0, .int .i64 0, .int .i64 0, .bool false, .string ⟨#[]⟩, .slice none 0 0, .slice none 0 0, .slice none 0 0] 49 :: cel b1 #[.int .i64 y.code, .int .u64 y.a, .int .u64 y.b, .int .i64 y.key, .int .i64 y.val, .int .i64 y.lo, .int .i64 y.hi, .int .i64 y.n, .bool y.flag, .string y.name, .slice none 0 0, .slice ae y.le ce, .slice ac y.lc cc] 49 :: L) w := hS
                      refine WL.nil <| WC.seq <| WC.region <| WL.ldF rfl rfl 1 hS rfl rfl ag_49 <| WL.stF rfl rfl rfl 0 hS rfl rfl rfl rfl rfl ag_49 (fun w hS => ?_)
                      replace hS := hS.n2 L (a0 := cel b2 #[.int .i64 y.code, .int .u64 y.a, .int .u64 y.b, .int .i64 y.key, .int .i64 y.val, .int .i64 y.lo, .int .i64 y.hi, .int .i64 y.n, .bool y.flag, .string y.name, .slice none 0 0, .slice ae y.le ce, .slice ac y.lc cc] 49) rfl
                      refine WL.nil <| WC.ret ?_
                      refine ⟨[.agg #[.int .i64 y.code, .int .u64 y.a, .int .u64 y.b, .int .i64 y.key, .int .i64 y.val, .int .i64 y.lo, .int .i64 y.hi, .int .i64 y.n, .bool y.flag, .string y.name, .slice none 0 0, .slice ae y.le ce, .slice ac y.lc cc]], ⟨⟨_, rfl, hS.lvF 0 rfl ag_49⟩, trivial⟩, ?_⟩
                      replace hS := (hS.sel 2 [] rfl)
                      subst cd10; rw [clrZ_Y]; exact ⟨_, _, _, _, _, _, rfl, hS⟩
                    · refine WC.seq <| WC.region <| WL.r 2 rfl <| WL.nil <| WC.ifP rfl (fun cd11 => ?_) (fun cd11 => ?_)
                      · refine WC.region <| WL.r 1 rfl <| WL.st rfl rfl rfl 1 hS rfl rfl rfl rfl rfl rfl (fun w hS => ?_)
                        replace hS : St g (cel b2 #[.int .i64 0, .int .u64 0, .int .u64 0, .int .i64 0, .int .i64 0, .int .i64 0, .int .i64 0, .int .i64 0, .bool false, .string ⟨#[]⟩, .slice none 0 0, .slice none 0 0, .slice none 0 0] 49 :: cel b1 #[.int .i64 y.code, .int .u64 y.a, .int .u64 y.b, .int .i64 y.key, .int .i64 y.val, .int .i64 y.lo, .int .i64 y.hi, .int .i64 y.n, .bool y.flag, .string y.name, .slice ab y.lb cb, .slice none 0 0, .slice ac y.lc cc] 49 :: L) w := hS
                        refine WL.nil <| WC.seq <| WC.region <| WL.ldF rfl rfl 1 hS rfl rfl ag_49 <| WL.stF rfl rfl rfl 0 hS rfl rfl rfl rfl rfl ag_49 (fun w hS => ?_)
                        replace hS := hS.n2 L (a0 := cel b2 #[.int .i64 y.code, .int .u64 y.a, .int .u64 y.b, .int .i64 y.key, .int .i64 y.val, .int .i64 y.lo, .int .i64 y.hi, .int .i64 y.n, .bool y.flag, .string y.name, .slice ab y.lb cb, .slice none 0 0, .slice ac y.lc cc] 49) rfl
                        refine WL.nil ?_
                        as_aux_lemma =>
                        refine WC.ret ?_
                        refine ⟨[.agg #[.int .i64 y.code, .int .u64 y.a, .int .u64 y.b, .int .i64 y.key, .int .i64 y.val, .int .i64 y.lo, .int .i64 y.hi, .int .i64 y.n, .bool y.flag, .string y.name, .slice ab y.lb cb, .slice none 0 0, .slice ac y.lc cc]], ⟨⟨_, rfl, hS.lvF 0 rfl ag_49⟩, trivial⟩, ?_⟩
                        replace hS := (hS.sel 2 [] rfl)
                        subst cd11; rw [clrZ_E]; exact ⟨_, _, _, _, _, _, rfl, hS⟩
                      · refine WC.seq <| WC.region <| WL.r 2 rfl <| WL.nil <| WC.ifP rfl (fun cd12 => ?_) (fun cd12 => ?_)
                        · refine WC.region <| WL.r 1 rfl <| WL.st rfl rfl rfl 1 hS rfl rfl rfl rfl rfl rfl (fun w hS => ?_)
                          replace hS : St g (cel b2 #[.int .i64 0, .int .u64 0, .int .u64 0, .int .i64 0, .int .i64 0, .int .i64 0, .int .i64 0, .int .i64 0, .bool false, .string ⟨#[]⟩, .slice none 0 0, .slice none 0 0, .slice none 0 0] 49 :: cel b1 #[.int .i64 y.code, .int .u64 y.a, .int .u64 y.b, .int .i64 y.key, .int .i64 y.val, .int .i64 y.lo, .int .i64 y.hi, .int .i64 y.n, .bool y.flag, .string y.name, .slice ab y.lb cb, .slice ae y.le ce, .slice none 0 0] 49 :: L) w := hS
                          refine WL.nil ?_
                          as_aux_lemma =>
                          refine WC.seq <| WC.region <| WL.ldF rfl rfl 1 hS rfl rfl ag_49 <| WL.stF rfl rfl rfl 0 hS rfl rfl rfl rfl rfl ag_49 (fun w hS => ?_)
                          replace hS := hS.n2 L (a0 := cel b2 #[.int .i64 y.code, .int .u64 y.a, .int .u64 y.b, .int .i64 y.key, .int .i64 y.val, .int .i64 y.lo, .int .i64 y.hi, .int .i64 y.n, .bool y.flag, .string y.name, .slice ab y.lb cb, .slice ae y.le ce, .slice none 0 0] 49) rfl
                          refine WL.nil <| WC.ret ?_
                          refine ⟨[.agg #[.int .i64 y.code, .int .u64 y.a, .int .u64 y.b, .int .i64 y.key, .int .i64 y.val, .int .i64 y.lo, .int .i64 y.hi, .int .i64 y.n, .bool y.flag, .string y.name, .slice ab y.lb cb, .slice ae y.le ce, .slice none 0 0]], ⟨⟨_, rfl, hS.lvF 0 rfl ag_49⟩, trivial⟩, ?_⟩
                          replace hS := (hS.sel 2 [] rfl)
                          subst cd12; rw [clrZ_C]; exact ⟨_, _, _, _, _, _, rfl, hS⟩
                        · refine WC.skip <| WC.seq <| WC.region <| WL.ldF rfl rfl 1 hS rfl rfl ag_49 <| WL.stF rfl rfl rfl 0 hS rfl rfl rfl rfl rfl ag_49 (fun w hS => ?_)
                          replace hS : St g (cel b2 #[.int .i64 y.code, .int .u64 y.a, .int .u64 y.b, .int .i64 y.key, .int .i64 y.val, .int .i64 y.lo, .int .i64 y.hi, .int .i64 y.n, .bool y.flag, .string y.name, .slice ab y.lb cb, .slice ae y.le ce, .slice ac y.lc cc] 49 :: cel b1 #[.int .i64 y.code, .int .u64 y.a, .int .u64 y.b, .int .i64 y.key, .int .i64 y.val, .int .i64 y.lo, .int .i64 y.hi, .int .i64 y.n, .bool y.flag, .string y.name, .slice ab y.lb cb, .slice ae y.le ce, .slice ac y.lc cc] 49 :: L) w := hS
                          refine WL.nil ?_
                          as_aux_lemma =>
                          refine WC.ret ?_
                          refine ⟨[.agg #[.int .i64 y.code, .int .u64 y.a, .int .u64 y.b, .int .i64 y.key, .int .i64 y.val, .int .i64 y.lo, .int .i64 y.hi, .int .i64 y.n, .bool y.flag, .string y.name, .slice ab y.lb cb, .slice ae y.le ce, .slice ac y.lc cc]], ⟨⟨_, rfl, hS.lvF 0 rfl ag_49⟩, trivial⟩, ?_⟩
                          replace hS := (hS.sel 2 [] rfl)
                          rw [clrZ_no (by unfold Ltr; omega)]; exact ⟨_, _, _, _, _, _, rfl, hS⟩
set_option maxRecDepth 8192 in
theorem join_spec {g w : World} {L : List HP} (xs ys : List Int) (a b : Option Addr) (c d : Nat) (hx : xs.length + ys.length ≤ 1000000) (hS : St g (Sh 5 1 (by8 xs) a c :: Sh 5 1 (by8 ys) b d :: L) w) :
    Sp Tryz.prog 38 [.slice a (List.length (by8 xs)) c, .slice b (List.length (by8 ys)) d] w (fun v w' => ∃ (a2 : Option Addr) (c2 : Nat), v = .slice a2 (List.length (by8 (xs ++ ys))) c2 ∧ St g (Own 5 1 (by8 (xs ++ ys)) a2 c2 :: Sh 5 1 (by8 xs) a c :: Sh 5 1 (by8 ys) b d :: L) w') := by
  refine Sp.enter Tryz.func38 rfl (by kernel_rfl) (by kernel_rfl) ?_
  have _ := hx
  refine WC.seq <| WC.region <| WL.r 1 rfl <| WL.nil <| WC.seq <| WC.region ?_
  have h1 := by8_len xs; have h2 := by8_len ys
  refine WL.r 5 rfl <| WL.nw 9 rfl (w64 (by omega)) ?_
  refine WL.make rfl rfl (v := 0) (v' := (List.length (by8 xs) : Int) + (List.length (by8 ys) : Int)) (0) (xs.length + ys.length) el_24 hS rfl (by omega) rfl (by omega) (by omega) (Rm.of (by omega) (by decide)) (fun b1 w hS => ?_)
  replace hS := hS.n3 L (a0 := Own 5 1 [] (some ⟨b1, 0, none⟩) ((List.length xs) + (List.length ys))) rfl
  refine WL.r 1 rfl <| WL.app rfl rfl 0 (by8 xs) el_24 hS rfl (hS.srcS 1 rfl) (List.nil_append _) (Rm.of (by first | omega | (simp <;> omega)) (by decide)) rfl rfl (fun a1 c1 w hS => ?_)
  replace hS := hS.n3 L (a0 := Own 5 1 (by8 xs) a1 c1) rfl
  refine WL.r 1 rfl <| WL.app rfl rfl 0 (by8 (xs ++ ys)) el_24 hS rfl (hS.srcS 2 rfl) (by8_app _ _).symm (Rm.of (by first | omega | (simp <;> omega)) (by decide)) rfl rfl (fun a2 c2 w hS => ?_)
  replace hS := hS.n3 L (a0 := Own 5 1 (by8 (xs ++ ys)) a2 c2) rfl
  refine WL.r 1 rfl <| WL.nil <| WC.ret ?_
  refine ⟨[.slice a2 (List.length (by8 (xs ++ ys))) c2], rfl, ?_⟩
  exact ⟨_, _, rfl, hS⟩
end Go.Proofs.YtaceaiifbiiagaaGreatDoor
/-! ## App -/
namespace Go.Proofs.YtaceaiifbiiagaaGreatDoor
open Go Go.V
set_option maxRecDepth 8192 in
theorem valid_spec {g w : World} {L : List HP} (x : OpM) (ab ae ac : Option Addr) (cb ce cc : Nat) (hS : St g (Sh 121 4 (ch4 x.chs) ac cc :: L) w) :
    Sp Tryz.prog 22 [.agg #[.int .i64 x.code, .int .u64 x.a, .int .u64 x.b, .int .i64 x.key, .int .i64 x.val, .int .i64 x.lo, .int .i64 x.hi, .int .i64 x.n, .bool x.flag, .string x.name, .slice ab (List.length (by8 x.bytes)) cb, .slice ae (List.length (en2 x.ents)) ce, .slice ac (List.length (ch4 x.chs)) cc]] w (fun v w' => ∃ (ok : Bool), v = .bool ok ∧ St g (Sh 121 4 (ch4 x.chs) ac cc :: L) w' ∧ (ok = true ↔ okOp x)) := by
  refine Sp.enter Tryz.func22 rfl (by kernel_rfl) (by kernel_rfl) ?_
  refine WC.seq <| WC.region <| WL.box rfl rfl #[.int .i64 x.code, .int .u64 x.a, .int .u64 x.b, .int .i64 x.key, .int .i64 x.val, .int .i64 x.lo, .int .i64 x.hi, .int .i64 x.n, .bool x.flag, .string x.name, .slice ab (List.length (by8 x.bytes)) cb, .slice ae (List.length (en2 x.ents)) ce, .slice ac (List.length (ch4 x.chs)) cc] hS rfl rfl (fun b1 w hS => ?_)
  refine WL.r 1 rfl <| WL.nil <| WC.seq <| WC.region <| WL.run 2 [.int .i64 x.code] rfl (by exact hS.ld 0 rfl rfl) ?_
  refine WL.call rfl rfl (fields_spec (c := x.code)  (hS := hS)) rfl ?_
  clear hS; rintro _ w ⟨rfl, hS⟩
  replace hS := hS.n2 L (a0 := cel b1 #[.int .i64 x.code, .int .u64 x.a, .int .u64 x.b, .int .i64 x.key, .int .i64 x.val, .int .i64 x.lo, .int .i64 x.hi, .int .i64 x.n, .bool x.flag, .string x.name, .slice ab (List.length (by8 x.bytes)) cb, .slice ae (List.length (en2 x.ents)) ce, .slice ac (List.length (ch4 x.chs)) cc] 49) rfl
  refine WL.r 5 rfl <| WL.nil <| WC.seq <| WC.seq <| WC.region <| WL.r 2 rfl <| WL.runG 34 [.int .i64 x.n, .int .i64 x.n, .string x.name, .slice ab (List.length (by8 x.bytes)) cb, .slice ae (List.length (en2 x.ents)) ce, .slice ac (List.length (ch4 x.chs)) cc] rfl (by exact ⟨fun _ => hS.ld 0 rfl rfl, fun _ => hS.ld 0 rfl rfl, fun _ => hS.ld 0 rfl rfl, fun _ => hS.ld 0 rfl rfl, fun _ => hS.ld 0 rfl rfl, fun _ => hS.ld 0 rfl rfl⟩) (fun j => ?_)
  refine WL.prop 52 rfl (bor (bor (bor (bor (bor (bor (bnot (dv _)) (dd _)) (dd _)) (dd _)) (dd _)) (dd _)) (dd _)) <| WL.nil <| WC.ifP rfl (fun cd1 => ?_) (fun cd1 => ?_)
  · refine WC.seq <| WC.region ?_
    have hl4 := ch4_len x.chs; have hl2 := en2_len x.ents; have hl1 := by8_len x.bytes
    refine WL.r 1 rfl <| WL.nil ?_
    as_aux_lemma =>
    refine WC.ret ?_
    refine ⟨[.bool false], rfl, ?_⟩
    replace hS := (hS.sel 1 [] rfl)
    refine ⟨_, rfl, hS, ⟨fun h => (by cases h), fun h => ?_⟩⟩
    obtain ⟨h1, ⟨h2, h3, h4, h5, h6⟩, _⟩ := h
    rcases cd1 with ((((((c | c) | c) | c) | c) | c) | c)
    · exact absurd h1 c
    all_goals omega
  · refine WC.skip <| WC.seq <| WC.seq <| WC.region ?_
    have hl4 := ch4_len x.chs; have hl2 := en2_len x.ents; have hl1 := by8_len x.bytes
    refine WL.run 4 [.slice ac (List.length (ch4 x.chs)) cc] rfl (by exact hS.ld 0 rfl rfl) ?_
    refine WL.nil ?_
    as_aux_lemma =>
    refine WC.block <| WC.loop [1, 3, 54, 55, 56] (fun kM vs w => ∃ (k : Nat), vs = [.pointer (some ⟨b1, 0, none⟩), .string (mkS (fs x.code)), .slice ac (List.length (ch4 x.chs)) cc, .int .i64 (List.length (ch4 x.chs) : Int), .int .i64 (k : Int)] ∧ St g (cel b1 #[.int .i64 x.code, .int .u64 x.a, .int .u64 x.b, .int .i64 x.key, .int .i64 x.val, .int .i64 x.lo, .int .i64 x.hi, .int .i64 x.n, .bool x.flag, .string x.name, .slice ab (List.length (by8 x.bytes)) cb, .slice ae (List.length (en2 x.ents)) ce, .slice ac (List.length (ch4 x.chs)) cc] 49 :: Sh 121 4 (ch4 x.chs) ac cc :: L) w ∧ (k ≤ x.chs.length) ∧ (∀ y ∈ x.chs.take k, 0 ≤ y.1 ∧ y.1 ≤ 255) ∧ (x.chs.length - k) = kM) ((List.length x.chs) - 0) ⟨0, rfl, hS, (Nat.zero_le _), (fun _ h => by cases h), rfl⟩ ?_
    clear hS; rintro _ _ w j ⟨k, rfl, hS, hk, hall, rfl⟩
    refine WC.seq <| WC.region ?_
    have hl4 := ch4_len x.chs; have hl2 := en2_len x.ents; have hl1 := by8_len x.bytes
    refine WL.r 1 rfl <| WL.nil <| WC.seq <| WC.ifP rfl (fun cd2 => ?_) (fun cd2 => ?_)
    · refine WC.skip <| WC.seq <| WC.block <| WC.seq <| WC.region ?_
      obtain ⟨y, hy⟩ : ∃ y, x.chs[k]? = some y := ⟨_, List.getElem?_eq_getElem (by omega)⟩
      refine WL.ix rfl rfl (i := (k : Int)) (k) el_43 rfl rfl (by omega) (len_of (ch4_at hy)) (hS.rdS 1 rfl (ch4_at hy)).1 ?_
      refine WL.ldC rfl rfl [.int .i64 y.1, .int .i64 y.2.1, .int .i64 y.2.2.1, .int .i64 y.2.2.2] ag_121 rfl (hS.rdS 1 rfl (ch4_at hy)).2 <| WL.new rfl rfl zv_121 hS (fun b2 w hS => ?_)
      refine WL.stF rfl rfl rfl 0 hS rfl rfl rfl rfl rfl ag_121 (fun w hS => ?_)
      replace hS := hS.n3 L (a0 := cel b2 #[.int .i64 y.1, .int .i64 y.2.1, .int .i64 y.2.2.1, .int .i64 y.2.2.2] 121) rfl
      refine WL.nil <| WC.seq <| WC.region <| WL.run 3 [.int .i64 y.1] rfl (by exact hS.ld 0 rfl rfl) ?_
      refine WL.runG 5 [.int .i64 y.1] rfl (by exact (fun _ => hS.ld 0 rfl rfl)) (fun j => ?_)
      refine WL.prop 67 rfl (bor (dd _) (dd _)) <| WL.nil ?_
      as_aux_lemma =>
      refine WC.ifP rfl (fun cd3 => ?_) (fun cd3 => ?_)
      · refine WC.seq <| WC.region <| WL.r 1 rfl <| WL.nil <| WC.ret ?_
        refine ⟨[.bool false], rfl, ?_⟩
        replace hS := (hS.sel 2 [] rfl)
        refine ⟨_, rfl, hS, ⟨fun h => (by cases h), fun h => ?_⟩⟩
        have := h.2.2.1 y (List.mem_of_getElem? hy); omega
      · refine WC.skip <| WC.region <| WL.r 1 rfl <| WL.nw 68 rfl (w64 (by omega)) ?_
        refine WL.r 1 rfl <| WL.nil ?_
        exact ⟨_, by omega, k + 1, rfl, (hS.sel 1 [] rfl), (by omega), (fun z hz => by rw [List.take_add_one, hy] at hz; simp only [Option.toList, List.mem_append, List.mem_singleton] at hz; rcases hz with hz | rfl <;> first | exact hall z hz | omega), rfl⟩
    · refine WC.exit <| WC.seq <| WC.region <| WL.ldF rfl rfl 0 hS rfl rfl ag_49 <| WL.new rfl rfl zv_49 hS (fun b2 w hS => ?_)
      refine WL.stF rfl rfl rfl 0 hS rfl rfl rfl rfl rfl ag_49 (fun w hS => ?_)
      replace hS := hS.n3 L (a0 := cel b2 #[.int .i64 x.code, .int .u64 x.a, .int .u64 x.b, .int .i64 x.key, .int .i64 x.val, .int .i64 x.lo, .int .i64 x.hi, .int .i64 x.n, .bool x.flag, .string x.name, .slice ab (List.length (by8 x.bytes)) cb, .slice ae (List.length (en2 x.ents)) ce, .slice ac (List.length (ch4 x.chs)) cc] 49) rfl
      refine WL.nil <| WC.seq <| WC.seq <| WC.region ?_
      try simp only [not_or, Classical.not_not] at cd1
      refine WL.r 1 rfl <| WL.rng rfl rfl rfl hS rfl (fun b3 w hS => ?_)
      replace hS := hS.n4 L (a0 := blk b3 (.stringIter (mkS (fs x.code)) 0)) rfl
      refine WL.nil ?_
      as_aux_lemma =>
      refine WC.block <| WC.loop [7, 71] (fun kM vs w => ∃ (k : Nat) (y : ZM) (zb ze zc : Option Addr) (yb ye yc : Nat), vs = [.pointer (some ⟨b2, 0, none⟩), .pointer (some ⟨b3, 0, none⟩)] ∧ St g (blk b3 (.stringIter (mkS (fs x.code)) k) :: cel b2 #[.int .i64 y.code, .int .u64 y.a, .int .u64 y.b, .int .i64 y.key, .int .i64 y.val, .int .i64 y.lo, .int .i64 y.hi, .int .i64 y.n, .bool y.flag, .string y.name, .slice zb y.lb yb, .slice ze y.le ye, .slice zc y.lc yc] 49 :: cel b1 #[.int .i64 x.code, .int .u64 x.a, .int .u64 x.b, .int .i64 x.key, .int .i64 x.val, .int .i64 x.lo, .int .i64 x.hi, .int .i64 x.n, .bool x.flag, .string x.name, .slice ab (List.length (by8 x.bytes)) cb, .slice ae (List.length (en2 x.ents)) ce, .slice ac (List.length (ch4 x.chs)) cc] 49 :: Sh 121 4 (ch4 x.chs) ac cc :: L) w ∧ (clrZs (fs x.code) (zOf x) = clrZs ((fs x.code).drop k) y) ∧ ((fs x.code).length - k) = kM) ((List.length (fs x.code)) - 0) ⟨0, zOf x, _, _, _, _, _, _, rfl, hS, (rfl), rfl⟩ ?_
      clear hS; rintro _ _ w j ⟨k, y, zb, ze, zc, yb, ye, yc, rfl, hS, hr, rfl⟩
      refine WC.seq <| WC.region ?_
      try simp only [not_or, Classical.not_not] at cd1
      refine WL.nx rfl rfl rfl rfl rfl rfl rfl 0 (fs_as _) hS rfl rfl (fun w hS => ?_)
      replace hS := hS.n4 L (a0 := blk b3 (.stringIter (mkS (fs x.code)) (if (k < (List.length (fs x.code))) then (k + 1) else k))) rfl
      refine WL.nil <| WC.seq <| WC.ifP rfl (fun cd3 => ?_) (fun cd3 => ?_)
      · refine WC.reb 72 (.tuple #[.bool true, .int .i64 (k : Int), .int .i32 (List.getD (fs x.code) k 0)]) (nx_in cd3) ?_
        rw [if_pos cd3] at hS
        refine WC.skip <| WC.block <| WC.seq <| WC.region <| WL.r 2 rfl <| WL.nil <| WC.region <| WL.ldF rfl rfl 1 hS rfl rfl ag_49 <| WL.r 1 rfl <| WL.call rfl rfl (clear_spec (y := y) (ab := zb) (ae := ze) (ac := zc) (cb := yb) (ce := ye) (cc := yc) (f := List.getD (fs x.code) k 0)  (hS := hS)) rfl ?_
        generalize hY1 : clrZ (List.getD (fs x.code) k 0) y = Y1
        clear hS; rintro _ w ⟨ab1, ae1, ac1, cb1, ce1, cc1, rfl, hS⟩
        replace hS := hS.n4 L (a0 := blk b3 (.stringIter (mkS (fs x.code)) (k + 1))) rfl
        refine WL.stF rfl rfl rfl 1 hS rfl rfl rfl rfl rfl ag_49 (fun w hS => ?_)
        replace hS := hS.n4 L (a1 := cel b2 #[.int .i64 Y1.code, .int .u64 Y1.a, .int .u64 Y1.b, .int .i64 Y1.key, .int .i64 Y1.val, .int .i64 Y1.lo, .int .i64 Y1.hi, .int .i64 Y1.n, .bool Y1.flag, .string Y1.name, .slice ab1 Y1.lb cb1, .slice ae1 Y1.le ce1, .slice ac1 Y1.lc cc1] 49) rfl
        refine WL.nil ?_
        exact ⟨_, by omega, k + 1, Y1, _, _, _, _, _, _, rfl, hS, (by rw [hr, clrZs_go cd3, hY1]), rfl⟩
      · rw [if_neg cd3] at hS
        refine WC.exit <| WC.seq <| WC.region <| WL.run 3 [.int .u64 y.a] rfl (by exact hS.ld 1 rfl rfl) ?_
        refine WL.runG 31 [.int .u64 y.b, .int .i64 y.key, .int .i64 y.val, .int .i64 y.lo, .int .i64 y.hi, .int .i64 y.n] rfl (by exact ⟨fun _ => hS.ld 1 rfl rfl, fun _ => hS.ld 1 rfl rfl, fun _ => hS.ld 1 rfl rfl, fun _ => hS.ld 1 rfl rfl, fun _ => hS.ld 1 rfl rfl, fun _ => hS.ld 1 rfl rfl⟩) (fun j => ?_)
        refine WL.prop 110 rfl (band (band (band (band (band (band (dd _) (dd _)) (dd _)) (dd _)) (dd _)) (dd _)) (dd _)) <| WL.nil <| WC.seq <| WC.region <| WL.r 1 rfl <| WL.runG 29 [.bool y.flag, .string y.name, .slice zb y.lb yb, .slice ze y.le ye, .slice zc y.lc yc] rfl (by exact ⟨fun _ => hS.ld 1 rfl rfl, fun _ => hS.ld 1 rfl rfl, fun _ => hS.ld 1 rfl rfl, fun _ => hS.ld 1 rfl rfl, fun _ => hS.ld 1 rfl rfl⟩) (fun j => ?_)
        refine WL.prop 139 rfl (band (band (band (band (band (band (band (band (band (band (band (dd _) (dd _)) (dd _)) (dd _)) (dd _)) (dd _)) (dd _)) (bnot (dv _))) (dd _)) (dd _)) (dd _)) (dd _)) <| WL.nil ?_
        as_aux_lemma =>
        refine WC.ret ?_
        refine ⟨[.bool (bif (bif (bif (bif (bif (bif (bif (bif (bif (bif (bif (decide (y.a = 0)) then (decide (y.b = 0)) else false) then (decide (y.key = 0)) else false) then (decide (y.val = 0)) else false) then (decide (y.lo = 0)) else false) then (decide (y.hi = 0)) else false) then (decide (y.n = 0)) else false) then (! y.flag) else false) then (decide (y.name = ⟨#[]⟩)) else false) then (decide ((y.lb : Int) = 0)) else false) then (decide ((y.le : Int) = 0)) else false) then (decide ((y.lc : Int) = 0)) else false)], rfl, ?_⟩
        replace hS := (hS.sel 3 [] rfl)
        refine ⟨_, rfl, hS, ?_⟩
        simp only [Bool.cond_false_right, Bool.and_eq_true, decide_eq_true_eq, Bool.not_eq_true', and_assoc, nat0]
        rw [zero_iff (by rw [hr, clrZs_end cd3])]
        refine ⟨fun h => ⟨?_, ⟨?_, ?_, ?_, ?_, ?_⟩, ?_, h⟩, fun h => h.2.2.2⟩
        · exact cd1.1.1.1.1.1.1
        all_goals first | omega | skip
        rw [List.take_of_length_le (by omega)] at hall; exact hall
set_option maxRecDepth 8192 in
theorem appendAnswer_spec {g w : World} {L : List HP} (bs : List Int) (a : Option Addr) (c : Nat) (x : AnM) (ab ae ac ak : Option Addr) (cb ce cc ck : Nat) (hbs : bs.length ≤ 500000) (hw : AnW x) (hS : St g (Sh 5 1 (by8 bs) a c :: Sh 5 1 (by8 x.bytes) ab cb :: Sh 39 2 (en2 x.ents) ae ce :: Sh 121 4 (ch4 x.chs) ac cc :: Sh 2 1 (i64s x.keys) ak ck :: L) w) :
    Sp Tryz.prog 40 [.slice a (List.length (by8 bs)) c, .agg #[.int .i64 x.err, .int .u64 x.handle, .int .i64 x.value, .bool x.found, .int .i64 x.n, .int .i64 x.ekey, .int .i64 x.eval, .int .i64 x.count, .int .i64 x.sum, .int .i64 x.mn, .int .i64 x.mx, .slice ae (List.length (en2 x.ents)) ce, .slice ac (List.length (ch4 x.chs)) cc, .slice ak (List.length (i64s x.keys)) ck, .slice ab (List.length (by8 x.bytes)) cb]] w (fun v w' => ∃ (a2 : Option Addr) (c2 : Nat), v = .slice a2 (List.length (by8 (bs ++ eAn x))) c2 ∧ St g (Own 5 1 (by8 (bs ++ eAn x)) a2 c2 :: Sh 5 1 (by8 bs) a c :: Sh 5 1 (by8 x.bytes) ab cb :: Sh 39 2 (en2 x.ents) ae ce :: Sh 121 4 (ch4 x.chs) ac cc :: Sh 2 1 (i64s x.keys) ak ck :: L) w') := by
  refine Sp.enter Tryz.func40 rfl (by kernel_rfl) (by kernel_rfl) ?_
  have _ := hbs
  refine WC.seq <| WC.region <| WL.box rfl rfl #[.int .i64 x.err, .int .u64 x.handle, .int .i64 x.value, .bool x.found, .int .i64 x.n, .int .i64 x.ekey, .int .i64 x.eval, .int .i64 x.count, .int .i64 x.sum, .int .i64 x.mn, .int .i64 x.mx, .slice ae (List.length (en2 x.ents)) ce, .slice ac (List.length (ch4 x.chs)) cc, .slice ak (List.length (i64s x.keys)) ck, .slice ab (List.length (by8 x.bytes)) cb] hS rfl rfl (fun b1 w hS => ?_)
  refine WL.r 1 rfl <| WL.nil <| WC.seq <| WC.region ?_
  obtain ⟨w1, w2, w3, w5, w6, w7, w8, w9, w10, w11, w12, w13, w14, l1, l2, l3, l4⟩ := hw
  have hl4 := ch4_len x.chs; have hl2 := en2_len x.ents; have hl1 := by8_len x.bytes; have hl3 := i64s_len x.keys
  refine WL.build rfl rfl (cs := [.slice none 0 0]) zv_86 rfl rfl <| WL.box rfl rfl #[.slice none 0 0] hS rfl rfl (fun b2 w hS => ?_)
  refine WL.r 1 rfl <| WL.nil <| WC.seq <| WC.region <| WL.run 4 [.int .i64 x.err] rfl (by exact hS.ld 1 rfl rfl) ?_
  refine WL.reb 13 (.int .u64 (x.err % 18446744073709551616)) (congrArg (Value.int .u64) (by rfl)) ?_
  replace hS := hS.nil_ 5 1
  replace hS := hS.n8 L (a0 := Own 5 1 (by8 []) none 0) (a1 := cel b2 #[.slice none 0 0] 86) (a2 := cel b1 #[.int .i64 x.err, .int .u64 x.handle, .int .i64 x.value, .bool x.found, .int .i64 x.n, .int .i64 x.ekey, .int .i64 x.eval, .int .i64 x.count, .int .i64 x.sum, .int .i64 x.mn, .int .i64 x.mx, .slice ae (List.length (en2 x.ents)) ce, .slice ac (List.length (ch4 x.chs)) cc, .slice ak (List.length (i64s x.keys)) ck, .slice ab (List.length (by8 x.bytes)) cb] 46) rfl
  refine WL.call rfl rfl (wvarint_spec (xs := []) (u := x.err % 18446744073709551616) (hx := (by first | omega | (simp <;> omega))) (hu := (by omega)) (hS := (hS.sel 2 [1, 0] rfl))) rfl ?_
  generalize hY1 : [] ++ eU (x.err % 18446744073709551616) = Y1
  clear hS; rintro _ w ⟨a1, c1, rfl, hS⟩
  have hY1f0 : (List.length Y1) ≤ 0 + 10 := by rw [← hY1, List.length_append]; exact Nat.add_le_add_left (eU_len (by omega)) _
  replace hS := hS.n8 L (a0 := cel b2 #[.slice a1 (List.length (by8 Y1)) c1] 86) (a1 := Own 5 1 (by8 Y1) a1 c1) rfl
  refine WL.nil ?_
  as_aux_lemma =>
  refine WC.seq <| WC.region <| WL.run 3 [.int .u64 x.handle] rfl (by exact hS.ld 2 rfl rfl) ?_
  refine WL.call rfl rfl (wvarint_spec (u := x.handle) (hx := (by first | omega | (simp <;> omega))) (hu := (by omega)) (hS := hS)) rfl ?_
  generalize hY2 : Y1 ++ eU x.handle = Y2
  clear hS; rintro _ w ⟨a2, c2, rfl, hS⟩
  have hY2f0 : (List.length Y2) ≤ (List.length Y1) + 10 := by rw [← hY2, List.length_append]; exact Nat.add_le_add_left (eU_len (by omega)) _
  replace hS := hS.n8 L (a0 := cel b2 #[.slice a2 (List.length (by8 Y2)) c2] 86) (a1 := Own 5 1 (by8 Y2) a2 c2) rfl
  refine WL.nil <| WC.seq <| WC.region <| WL.run 3 [.int .i64 x.value] rfl (by exact hS.ld 2 rfl rfl) ?_
  refine WL.call rfl rfl (wsigned_spec (n := x.value) (hx := (by first | omega | (simp <;> omega))) (hn := (by assumption)) (hS := hS)) rfl ?_
  generalize hY3 : Y2 ++ eZ x.value = Y3
  clear hS; rintro _ w ⟨a3, c3, rfl, hS⟩
  have hY3f0 : (List.length Y3) ≤ (List.length Y2) + 10 := by rw [← hY3, List.length_append]; exact Nat.add_le_add_left (eZ_len (by assumption)) _
  replace hS := hS.n8 L (a0 := cel b2 #[.slice a3 (List.length (by8 Y3)) c3] 86) (a1 := Own 5 1 (by8 Y3) a3 c3) rfl
  refine WL.nil <| WC.seq <| WC.region <| WL.run 3 [.bool x.found] rfl (by exact hS.ld 2 rfl rfl) ?_
  refine WL.call rfl rfl (wbool_spec (x := x.found) (hx := (by first | omega | (simp <;> omega))) (hS := hS)) rfl ?_
  generalize hY4 : Y3 ++ eF x.found = Y4
  clear hS; rintro _ w ⟨a4, c4, rfl, hS⟩
  have hY4f0 : (List.length Y4) = (List.length Y3) + 1 := by rw [← hY4]; simp [eF]
  replace hS := hS.n8 L (a0 := cel b2 #[.slice a4 (List.length (by8 Y4)) c4] 86) (a1 := Own 5 1 (by8 Y4) a4 c4) rfl
  refine WL.nil ?_
  as_aux_lemma =>
  refine WC.seq <| WC.region <| WL.run 3 [.int .i64 x.n] rfl (by exact hS.ld 2 rfl rfl) ?_
  refine WL.call rfl rfl (wsigned_spec (n := x.n) (hx := (by first | omega | (simp <;> omega))) (hn := (by assumption)) (hS := hS)) rfl ?_
  generalize hY5 : Y4 ++ eZ x.n = Y5
  clear hS; rintro _ w ⟨a5, c5, rfl, hS⟩
  have hY5f0 : (List.length Y5) ≤ (List.length Y4) + 10 := by rw [← hY5, List.length_append]; exact Nat.add_le_add_left (eZ_len (by assumption)) _
  replace hS := hS.n8 L (a0 := cel b2 #[.slice a5 (List.length (by8 Y5)) c5] 86) (a1 := Own 5 1 (by8 Y5) a5 c5) rfl
  refine WL.nil <| WC.seq <| WC.region <| WL.run 4 [.int .i64 x.ekey] rfl (by exact hS.ld 2 rfl rfl) ?_
  refine WL.call rfl rfl (wsigned_spec (n := x.ekey) (hx := (by first | omega | (simp <;> omega))) (hn := (by assumption)) (hS := hS)) rfl ?_
  generalize hY6 : Y5 ++ eZ x.ekey = Y6
  clear hS; rintro _ w ⟨a6, c6, rfl, hS⟩
  have hY6f0 : (List.length Y6) ≤ (List.length Y5) + 10 := by rw [← hY6, List.length_append]; exact Nat.add_le_add_left (eZ_len (by assumption)) _
  replace hS := hS.n8 L (a0 := cel b2 #[.slice a6 (List.length (by8 Y6)) c6] 86) (a1 := Own 5 1 (by8 Y6) a6 c6) rfl
  refine WL.nil <| WC.seq <| WC.region <| WL.run 4 [.int .i64 x.eval] rfl (by exact hS.ld 2 rfl rfl) ?_
  refine WL.call rfl rfl (wsigned_spec (n := x.eval) (hx := (by first | omega | (simp <;> omega))) (hn := (by assumption)) (hS := hS)) rfl ?_
  generalize hY7 : Y6 ++ eZ x.eval = Y7
  clear hS; rintro _ w ⟨a7, c7, rfl, hS⟩
  have hY7f0 : (List.length Y7) ≤ (List.length Y6) + 10 := by rw [← hY7, List.length_append]; exact Nat.add_le_add_left (eZ_len (by assumption)) _
  replace hS := hS.n8 L (a0 := cel b2 #[.slice a7 (List.length (by8 Y7)) c7] 86) (a1 := Own 5 1 (by8 Y7) a7 c7) rfl
  refine WL.nil ?_
  as_aux_lemma =>
  refine WC.seq <| WC.region <| WL.run 4 [.int .i64 x.count] rfl (by exact hS.ld 2 rfl rfl) ?_
  refine WL.call rfl rfl (wsigned_spec (n := x.count) (hx := (by first | omega | (simp <;> omega))) (hn := (by assumption)) (hS := hS)) rfl ?_
  generalize hY8 : Y7 ++ eZ x.count = Y8
  clear hS; rintro _ w ⟨a8, c8, rfl, hS⟩
  have hY8f0 : (List.length Y8) ≤ (List.length Y7) + 10 := by rw [← hY8, List.length_append]; exact Nat.add_le_add_left (eZ_len (by assumption)) _
  replace hS := hS.n8 L (a0 := cel b2 #[.slice a8 (List.length (by8 Y8)) c8] 86) (a1 := Own 5 1 (by8 Y8) a8 c8) rfl
  refine WL.nil <| WC.seq <| WC.region <| WL.run 4 [.int .i64 x.sum] rfl (by exact hS.ld 2 rfl rfl) ?_
  refine WL.call rfl rfl (wsigned_spec (n := x.sum) (hx := (by first | omega | (simp <;> omega))) (hn := (by assumption)) (hS := hS)) rfl ?_
  generalize hY9 : Y8 ++ eZ x.sum = Y9
  clear hS; rintro _ w ⟨a9, c9, rfl, hS⟩
  have hY9f0 : (List.length Y9) ≤ (List.length Y8) + 10 := by rw [← hY9, List.length_append]; exact Nat.add_le_add_left (eZ_len (by assumption)) _
  replace hS := hS.n8 L (a0 := cel b2 #[.slice a9 (List.length (by8 Y9)) c9] 86) (a1 := Own 5 1 (by8 Y9) a9 c9) rfl
  refine WL.nil <| WC.seq <| WC.region <| WL.run 4 [.int .i64 x.mn] rfl (by exact hS.ld 2 rfl rfl) ?_
  refine WL.call rfl rfl (wsigned_spec (n := x.mn) (hx := (by first | omega | (simp <;> omega))) (hn := (by assumption)) (hS := hS)) rfl ?_
  generalize hY10 : Y9 ++ eZ x.mn = Y10
  clear hS; rintro _ w ⟨a10, c10, rfl, hS⟩
  have hY10f0 : (List.length Y10) ≤ (List.length Y9) + 10 := by rw [← hY10, List.length_append]; exact Nat.add_le_add_left (eZ_len (by assumption)) _
  replace hS := hS.n8 L (a0 := cel b2 #[.slice a10 (List.length (by8 Y10)) c10] 86) (a1 := Own 5 1 (by8 Y10) a10 c10) rfl
  refine WL.nil ?_
  as_aux_lemma =>
  refine WC.seq <| WC.region <| WL.run 4 [.int .i64 x.mx] rfl (by exact hS.ld 2 rfl rfl) ?_
  refine WL.call rfl rfl (wsigned_spec (n := x.mx) (hx := (by first | omega | (simp <;> omega))) (hn := (by assumption)) (hS := hS)) rfl ?_
  generalize hY11 : Y10 ++ eZ x.mx = Y11
  clear hS; rintro _ w ⟨a11, c11, rfl, hS⟩
  have hY11f0 : (List.length Y11) ≤ (List.length Y10) + 10 := by rw [← hY11, List.length_append]; exact Nat.add_le_add_left (eZ_len (by assumption)) _
  replace hS := hS.n8 L (a0 := cel b2 #[.slice a11 (List.length (by8 Y11)) c11] 86) (a1 := Own 5 1 (by8 Y11) a11 c11) rfl
  refine WL.nil <| WC.seq <| WC.region <| WL.run 3 [.slice ae (List.length (en2 x.ents)) ce] rfl (by exact hS.ld 2 rfl rfl) ?_
  refine WL.call rfl rfl (wentries_spec (l := x.ents) (hx := (by first | omega | (simp <;> omega))) (hl := (by omega)) (hx2 := (by first | omega | (simp <;> omega))) (hw := (by assumption)) (hS := (hS.sel 6 [0, 0, 3, 0, 0, 0] rfl))) rfl ?_
  generalize hY12 : Y11 ++ eEnts x.ents = Y12
  clear hS; rintro _ w ⟨a12, c12, rfl, hS⟩
  have hY12f0 : (List.length Y12) ≤ (List.length Y11) + (10 + 20 * (List.length x.ents)) := by rw [← hY12, List.length_append]; exact Nat.add_le_add_left (eEnts_len (by assumption) (by omega)) _
  replace hS := hS.n8 L (a0 := cel b2 #[.slice a12 (List.length (by8 Y12)) c12] 86) (a1 := Own 5 1 (by8 Y12) a12 c12) rfl
  refine WL.nil <| WC.seq <| WC.region <| WL.run 3 [.slice ac (List.length (ch4 x.chs)) cc] rfl (by exact hS.ld 3 rfl rfl) ?_
  refine WL.call rfl rfl (wchanges_spec (l := x.chs) (hx := (by first | omega | (simp <;> omega))) (hl := (by omega)) (hx2 := (by first | omega | (simp <;> omega))) (hw := (by assumption)) (hS := (hS.sel 7 [0, 0, 4, 0, 0, 0, 0] rfl))) rfl ?_
  generalize hY13 : Y12 ++ eChs x.chs = Y13
  clear hS; rintro _ w ⟨a13, c13, rfl, hS⟩
  have hY13f0 : (List.length Y13) ≤ (List.length Y12) + (10 + 31 * (List.length x.chs)) := by rw [← hY13, List.length_append]; exact Nat.add_le_add_left (eChs_len (by assumption) (by omega)) _
  replace hS := hS.n8 L (a0 := cel b2 #[.slice a13 (List.length (by8 Y13)) c13] 86) (a1 := Own 5 1 (by8 Y13) a13 c13) rfl
  refine WL.nil ?_
  as_aux_lemma =>
  refine WC.seq <| WC.region <| WL.run 5 [.slice ak (List.length (i64s x.keys)) ck] rfl (by exact hS.ld 4 rfl rfl) ?_
  refine WL.nw 73 rfl (wu64 (by omega)) ?_
  refine WL.call rfl rfl (wvarint_spec (u := (List.length (i64s x.keys) : Int)) (hx := (by first | omega | (simp <;> omega))) (hu := (by omega)) (hS := hS)) rfl ?_
  generalize hY14 : Y13 ++ eU (List.length (i64s x.keys) : Int) = Y14
  clear hS; rintro _ w ⟨a14, c14, rfl, hS⟩
  have hY14f0 : (List.length Y14) ≤ (List.length Y13) + 10 := by rw [← hY14, List.length_append]; exact Nat.add_le_add_left (eU_len (by omega)) _
  replace hS := hS.n8 L (a0 := cel b2 #[.slice a14 (List.length (by8 Y14)) c14] 86) (a1 := Own 5 1 (by8 Y14) a14 c14) rfl
  refine WL.nil <| WC.seq <| WC.seq <| WC.region <| WL.run 4 [.slice ak (List.length (i64s x.keys)) ck] rfl (by exact hS.ld 4 rfl rfl) ?_
  refine WL.nil <| WC.block <| WC.loop [0, 3, 4, 5, 76, 77, 78] (fun kM vs w => ∃ (k : Nat) (ys : List Int) (a3 : Option Addr) (c3 : Nat), vs = [.slice a (List.length (by8 bs)) c, .pointer (some ⟨b1, 0, none⟩), .slice none 0 0, .pointer (some ⟨b2, 0, none⟩), .slice ak (List.length (i64s x.keys)) ck, .int .i64 (List.length (i64s x.keys) : Int), .int .i64 (k : Int)] ∧ St g (cel b2 #[.slice a3 (List.length (by8 ys)) c3] 86 :: Own 5 1 (by8 ys) a3 c3 :: Sh 121 4 (ch4 x.chs) ac cc :: Sh 39 2 (en2 x.ents) ae ce :: cel b1 #[.int .i64 x.err, .int .u64 x.handle, .int .i64 x.value, .bool x.found, .int .i64 x.n, .int .i64 x.ekey, .int .i64 x.eval, .int .i64 x.count, .int .i64 x.sum, .int .i64 x.mn, .int .i64 x.mx, .slice ae (List.length (en2 x.ents)) ce, .slice ac (List.length (ch4 x.chs)) cc, .slice ak (List.length (i64s x.keys)) ck, .slice ab (List.length (by8 x.bytes)) cb] 46 :: Sh 5 1 (by8 bs) a c :: Sh 5 1 (by8 x.bytes) ab cb :: Sh 2 1 (i64s x.keys) ak ck :: L) w ∧ (k ≤ x.keys.length) ∧ (ys = Y14 ++ (x.keys.take k).flatMap eZ) ∧ (ys.length ≤ Y14.length + 10 * k) ∧ (x.keys.length - k) = kM) ((List.length x.keys) - 0) ⟨0, Y14, _, _, rfl, hS, (Nat.zero_le _), (by simp), (by omega), rfl⟩ ?_
  clear hS; rintro _ _ w j ⟨k, ys, a3, c3, rfl, hS, hk, hys, hyl, rfl⟩
  refine WC.seq <| WC.region <| WL.r 1 rfl <| WL.nil <| WC.seq <| WC.ifP rfl (fun cd1 => ?_) (fun cd1 => ?_)
  · refine WC.skip ?_
    as_aux_lemma =>
    refine WC.seq <| WC.block <| WC.seq <| WC.region ?_
    obtain ⟨z, hx2⟩ : ∃ z, x.keys[k]? = some z := ⟨_, List.getElem?_eq_getElem (by omega)⟩; have hz := w14 z (List.mem_of_getElem? hx2)
    refine WL.ix rfl rfl (i := (k : Int)) (k) el_44 rfl rfl (by omega) (len_of (i64s_at hx2)) (hS.rdS 7 rfl (i64s_at hx2)).1 ?_
    refine WL.run 2 [.int .i64 z] rfl (by exact (hS.rdS 7 rfl (i64s_at hx2)).2 0 _ rfl) ?_
    refine WL.nil <| WC.region <| WL.r 2 rfl <| WL.call rfl rfl (wsigned_spec (n := z) (hx := (by first | omega | (simp <;> omega))) (hn := (by assumption)) (hS := hS)) rfl ?_
    generalize hY15 : ys ++ eZ z = Y15
    clear hS; rintro _ w ⟨a15, c15, rfl, hS⟩
    have hY15f0 : (List.length Y15) ≤ (List.length ys) + 10 := by rw [← hY15, List.length_append]; exact Nat.add_le_add_left (eZ_len (by assumption)) _
    replace hS := hS.n8 L (a0 := cel b2 #[.slice a15 (List.length (by8 Y15)) c15] 86) (a1 := Own 5 1 (by8 Y15) a15 c15) rfl
    refine WL.nil <| WC.region <| WL.r 1 rfl <| WL.nw 85 rfl (w64 (by omega)) ?_
    refine WL.r 1 rfl <| WL.nil ?_
    exact ⟨_, by omega, k + 1, Y15, _, _, rfl, hS, (by omega), (by rw [fm_take eZ hx2, ← hY15, hys]; simp only [List.append_assoc]), (by omega), rfl⟩
  · refine WC.exit ?_
    as_aux_lemma =>
    refine WC.seq <| WC.region <| WL.run 3 [.slice ab (List.length (by8 x.bytes)) cb] rfl (by exact hS.ld 4 rfl rfl) ?_
    refine WL.call rfl rfl (wbytes_spec (l := x.bytes) (hx := (by first | omega | (simp <;> omega))) (hl := (by omega)) (hS := (hS.sel 7 [0, 0, 4, 0, 0, 0, 0] rfl))) rfl ?_
    generalize hY15 : ys ++ eBytes x.bytes = Y15
    clear hS; rintro _ w ⟨a15, c15, rfl, hS⟩
    have hY15f0 : (List.length Y15) ≤ (List.length ys) + (10 + (List.length x.bytes)) := by rw [← hY15, List.length_append]; exact Nat.add_le_add_left (eBytes_len (by omega)) _
    replace hS := hS.n8 L (a0 := cel b2 #[.slice a15 (List.length (by8 Y15)) c15] 86) (a1 := Own 5 1 (by8 Y15) a15 c15) rfl
    refine WL.nil <| WC.seq <| WC.region <| WL.run 5 [.slice a15 (List.length (by8 Y15)) c15] rfl (by exact hS.ld 0 rfl rfl) ?_
    replace hS := (hS.at_ 1 rfl).share
    replace hS := hS.n8 L (a0 := Sh 5 1 (by8 Y15) a15 c15) rfl
    refine WL.call rfl rfl (join_spec  (hx := (by omega)) (hS := (hS.sel 7 [6, 0, 0, 0, 0, 0, 0] rfl))) rfl ?_
    clear hS; rintro _ w ⟨a16, c16, rfl, hS⟩
    replace hS := hS.n9 L (a0 := Own 5 1 (by8 (bs ++ Y15)) a16 c16) rfl
    refine WL.r 1 rfl <| WL.nil <| WC.ret ?_
    refine ⟨[.slice a16 (List.length (by8 (bs ++ Y15))) c16], rfl, ?_⟩
    replace hS := (hS.sel 8 [0, 0, 2, 3, 2] rfl)
    have hy : Y15 = eAn x := by
      rw [← hY15, hys, fm_all eZ (by omega), ← hY14, ← hY13, ← hY12, ← hY11, ← hY10, ← hY9, ← hY8, ← hY7, ← hY6, ← hY5, ← hY4, ← hY3, ← hY2, ← hY1, eAn]; simp only [List.nil_append, List.append_assoc, i64s_len]
    rw [← hy]; exact ⟨_, _, rfl, hS⟩
end Go.Proofs.YtaceaiifbiiagaaGreatDoor
/-! ## Sc2 -/
namespace Go.Proofs.YtaceaiifbiiagaaGreatDoor
open Go Go.V Go.RowKit Go.Maps
set_option maxRecDepth 8192 in
theorem fields_1 {g w : World} {L : List HP} (hS : St g (L) w) :
    Sp Tryz.prog 36 [.int .i64 1] w (fun v w' => v = .tuple #[.string (mkS []), .bool true] ∧ St g (L) w') := by
  refine Sp.enter Tryz.func36 rfl (by kernel_rfl) (by kernel_rfl) ?_
  refine WC.seq <| WC.region <| WL.r 2 rfl <| WL.nil <| WC.seq <| WC.seq <| WC.region <| WL.r 1 rfl <| WL.nil <| WC.block <| WC.seq <| WC.seq ?_
  refine WC.region <| WL.r 2 rfl <| WL.nil <| WC.ifT rfl (decide_eq_true ((by decide))) ?_
  refine WC.skip <| WC.ifT rfl (decide_eq_true ((by decide))) ?_
  refine WC.seq <| WC.region <| WL.r 2 rfl <| WL.nil <| WC.ret ?_
  refine ⟨[.string ⟨#[]⟩, .bool true], ⟨rfl, rfl⟩, ?_⟩
  exact ⟨rfl, hS⟩
theorem okOp_1 : okOp (op0 1) := by
  refine ⟨rfl, ⟨?_, ?_, ?_, ?_, ?_⟩, fun _ h => (by cases h), ?_⟩
  · exact ⟨Int.le_refl 0, (by decide)⟩
  · show 0 ≤ 32; decide
  · exact Nat.zero_le _
  · exact Nat.zero_le _
  · exact Nat.zero_le _
  · exact ⟨fun _ => rfl, fun _ => rfl, fun _ => rfl, fun _ => rfl, fun _ => rfl, fun _ => rfl, fun _ => rfl, fun _ => rfl, fun _ => rfl, fun _ => rfl, fun _ => rfl, fun _ => rfl⟩
set_option maxRecDepth 8192 in
theorem valid_1 {g w : World} {L : List HP} (hS : St g (L) w) :
    Sp Tryz.prog 22 [.agg #[.int .i64 1, .int .u64 0, .int .u64 0, .int .i64 0, .int .i64 0, .int .i64 0, .int .i64 0, .int .i64 0, .bool false, .string ⟨#[]⟩, .slice none 0 0, .slice none 0 0, .slice none 0 0]] w (fun v w' => v = .bool true ∧ St g (L) w') := by
  refine (valid_spec (op0 1) none none none 0 0 0 (hS.nilS 121 4)).mono fun v w' h => ?_
  obtain ⟨ok, h1, h2, h3⟩ := h
  have h4 : ok = true := h3.2 okOp_1
  subst h4
  exact ⟨h1, h2.sel 1 [] rfl⟩
set_option maxRecDepth 8192 in
theorem snd_1 {g w : World} {L : List HP} (hS : St g (L) w) :
    Sp Tryz.prog 23 [.agg #[.int .i64 1, .int .u64 0, .int .u64 0, .int .i64 0, .int .i64 0, .int .i64 0, .int .i64 0, .int .i64 0, .bool false, .string ⟨#[]⟩, .slice none 0 0, .slice none 0 0, .slice none 0 0]] w (fun v w' => v = .bool true ∧ St g (L) w') := by
  refine Sp.enter Tryz.func23 rfl (by kernel_rfl) (by kernel_rfl) ?_
  refine WC.seq <| WC.region <| WL.box rfl rfl #[.int .i64 1, .int .u64 0, .int .u64 0, .int .i64 0, .int .i64 0, .int .i64 0, .int .i64 0, .int .i64 0, .bool false, .string ⟨#[]⟩, .slice none 0 0, .slice none 0 0, .slice none 0 0] hS rfl rfl (fun b1 w hS => ?_)
  refine WL.r 1 rfl <| WL.nil <| WC.seq <| WC.seq <| WC.region <| WL.run 2 [.int .i64 1] rfl (by exact hS.ld 0 rfl rfl) ?_
  refine WL.nil <| WC.block <| WC.seq <| WC.region <| WL.r 2 rfl <| WL.nil <| WC.ifF rfl (decide_eq_false ((by decide))) ?_
  refine WC.seq <| WC.region <| WL.r 2 rfl <| WL.nil <| WC.ifF rfl (decide_eq_false ((by decide))) ?_
  refine WC.seq <| WC.region <| WL.r 2 rfl <| WL.nil ?_
  as_aux_lemma =>
  refine WC.ifF rfl (decide_eq_false ((by decide))) ?_
  refine WC.seq <| WC.region <| WL.r 2 rfl <| WL.nil <| WC.ifF rfl (decide_eq_false ((by decide))) ?_
  refine WC.seq <| WC.region <| WL.r 2 rfl <| WL.nil <| WC.ifF rfl (decide_eq_false ((by decide))) ?_
  refine WC.seq <| WC.region <| WL.r 2 rfl <| WL.nil <| WC.ifF rfl (decide_eq_false ((by decide))) ?_
  refine WC.seq <| WC.region <| WL.r 2 rfl <| WL.nil <| WC.ifF rfl (decide_eq_false ((by decide))) ?_
  refine WC.skip <| WC.seq <| WC.region <| WL.r 1 rfl <| WL.nil ?_
  as_aux_lemma =>
  refine WC.ret ?_
  refine ⟨[.bool true], rfl, ?_⟩
  replace hS := (hS.sel 1 [] rfl)
  exact ⟨rfl, hS⟩
set_option maxRecDepth 8192 in
theorem opA_1 {g w : World} {L : List HP} (p : Nat) (hS : St g (L) w) :
    Sp Tryz.prog 49 [.pointer (some ⟨p, 0, none⟩), .agg #[.int .i64 1, .int .u64 0, .int .u64 0, .int .i64 0, .int .i64 0, .int .i64 0, .int .i64 0, .int .i64 0, .bool false, .string ⟨#[]⟩, .slice none 0 0, .slice none 0 0, .slice none 0 0]] w (fun v w' => v = .int .i64 0 ∧ St g (L) w') := by
  refine Sp.enter Tryz.func49 rfl (by kernel_rfl) (by kernel_rfl) ?_
  refine WC.seq <| WC.region <| WL.box rfl rfl #[.int .i64 1, .int .u64 0, .int .u64 0, .int .i64 0, .int .i64 0, .int .i64 0, .int .i64 0, .int .i64 0, .bool false, .string ⟨#[]⟩, .slice none 0 0, .slice none 0 0, .slice none 0 0] hS rfl rfl (fun b1 w hS => ?_)
  refine WL.r 1 rfl <| WL.nil <| WC.seq <| WC.seq <| WC.region <| WL.run 2 [.int .i64 1] rfl (by exact hS.ld 0 rfl rfl) ?_
  refine WL.nil <| WC.block <| WC.seq <| WC.seq <| WC.region <| WL.r 2 rfl <| WL.nil <| WC.ifT rfl (by decide) ?_
  refine WC.skip <| WC.ifT rfl (by decide) ?_
  refine WC.seq <| WC.region <| WL.r 1 rfl <| WL.nil <| WC.ret ?_
  refine ⟨[.int .i64 0], rfl, ?_⟩
  replace hS := (hS.sel 1 [] rfl)
  exact ⟨rfl, hS⟩
set_option maxRecDepth 8192 in
theorem open_1 {g w : World} {L : List HP} (p : Nat) (hS : St g (L) w) :
    Sp Tryz.prog 25 [.pointer (some ⟨p, 0, none⟩), .agg #[.int .i64 1, .int .u64 0, .int .u64 0, .int .i64 0, .int .i64 0, .int .i64 0, .int .i64 0, .int .i64 0, .bool false, .string ⟨#[]⟩, .slice none 0 0, .slice none 0 0, .slice none 0 0]] w (fun v w' => v = .int .i64 0 ∧ St g (L) w') := by
  refine Sp.enter Tryz.func25 rfl (by kernel_rfl) (by kernel_rfl) ?_
  refine WC.seq <| WC.region <| WL.box rfl rfl #[.int .i64 1, .int .u64 0, .int .u64 0, .int .i64 0, .int .i64 0, .int .i64 0, .int .i64 0, .int .i64 0, .bool false, .string ⟨#[]⟩, .slice none 0 0, .slice none 0 0, .slice none 0 0] hS rfl rfl (fun b1 w hS => ?_)
  refine WL.r 1 rfl <| WL.nil <| WC.seq <| WC.seq <| WC.region <| WL.r 1 rfl <| WL.ldF rfl rfl 0 hS rfl rfl ag_49 <| WL.call rfl rfl (opA_1 (p := p)  (hS := hS)) rfl ?_
  clear hS; rintro _ w ⟨rfl, hS⟩
  replace hS : St g (cel b1 #[.int .i64 1, .int .u64 0, .int .u64 0, .int .i64 0, .int .i64 0, .int .i64 0, .int .i64 0, .int .i64 0, .bool false, .string ⟨#[]⟩, .slice none 0 0, .slice none 0 0, .slice none 0 0] 49 :: L) w := hS
  refine WL.r 1 rfl <| WL.nil <| WC.seq <| WC.region <| WL.r 2 rfl <| WL.nil <| WC.ifF rfl (decide_eq_false ((by decide))) ?_
  refine WC.skip <| WC.seq <| WC.seq <| WC.region <| WL.run 2 [.int .i64 1] rfl (by exact hS.ld 0 rfl rfl) ?_
  refine WL.nil ?_
  as_aux_lemma =>
  refine WC.block <| WC.seq <| WC.seq <| WC.region <| WL.r 2 rfl <| WL.nil <| WC.ifF rfl (decide_eq_false ((by decide))) ?_
  refine WC.seq <| WC.region <| WL.r 2 rfl <| WL.nil <| WC.ifF rfl (decide_eq_false ((by decide))) ?_
  refine WC.seq <| WC.region <| WL.r 2 rfl <| WL.nil <| WC.ifF rfl (decide_eq_false ((by decide))) ?_
  refine WC.seq <| WC.region <| WL.r 2 rfl <| WL.nil <| WC.ifF rfl (decide_eq_false ((by decide))) ?_
  refine WC.region <| WL.r 2 rfl <| WL.nil ?_
  as_aux_lemma =>
  refine WC.ifF rfl (decide_eq_false ((by decide))) ?_
  refine WC.seq <| WC.seq <| WC.region <| WL.r 2 rfl <| WL.nil <| WC.ifF rfl (decide_eq_false ((by decide))) ?_
  refine WC.seq <| WC.region <| WL.r 2 rfl <| WL.nil <| WC.ifF rfl (decide_eq_false ((by decide))) ?_
  refine WC.region <| WL.r 2 rfl <| WL.nil <| WC.ifF rfl (decide_eq_false ((by decide))) ?_
  refine WC.skip <| WC.seq <| WC.region <| WL.r 1 rfl <| WL.nil <| WC.ret ?_
  refine ⟨[.int .i64 0], rfl, ?_⟩
  replace hS := (hS.sel 1 [] rfl)
  exact ⟨rfl, hS⟩
set_option maxRecDepth 8192 in
theorem creates_1 {g w : World} {L : List HP} (hS : St g (L) w) :
    Sp Tryz.prog 26 [.int .i64 1] w (fun v w' => v = .bool true ∧ St g (L) w') := by
  refine Sp.enter Tryz.func26 rfl (by kernel_rfl) (by kernel_rfl) ?_
  refine WC.seq <| WC.region <| WL.r 1 rfl <| WL.nil <| WC.seq <| WC.seq <| WC.region <| WL.r 1 rfl <| WL.nil <| WC.block <| WC.seq <| WC.seq ?_
  refine WC.region <| WL.r 2 rfl <| WL.nil <| WC.ifT rfl (decide_eq_true ((by decide))) ?_
  refine WC.skip <| WC.ifT rfl (decide_eq_true ((by decide))) ?_
  refine WC.seq <| WC.region <| WL.r 1 rfl <| WL.nil <| WC.ret ?_
  refine ⟨[.bool true], rfl, ?_⟩
  exact ⟨rfl, hS⟩
theorem opn_0 {V : VM} (hT : TOk V.T) : V.T.s.opn 0 = false := by
  have : V.T.s.ok 0 = false := hT.s.u0
  unfold SM.opn
  rw [show (0 : Int) % 4294967296 = 0 from rfl, this]; rfl
set_option maxRecDepth 8192 in
theorem root_0 {g w : World} {L : List HP} (p s a : Nat) (V : VM) (hT : TOk V.T) (hS : St g (Sto p s a V :: L) w) :
    Sp Tryz.prog 53 [.pointer (some ⟨p, 0, none⟩), .int .u64 0] w (fun v w' => v = .int .u32 0 ∧ St g (Sto p s a V :: L) w') := by
  refine Sp.enter Tryz.func53 rfl (by kernel_rfl) (by kernel_rfl) ?_
  refine WC.seq <| WC.region <| WL.r 1 rfl <| WL.nil <| WC.seq <| WC.region ?_
  obtain ⟨⟨nm, c, x, m⟩, hS⟩ := St.exOpen (f := stoF p s a V) hS
  replace hS : St g (cel p #[.pointer (some ⟨s, 0, none⟩), .pointer (some ⟨nm, 0, none⟩), .pointer (some ⟨c, 0, none⟩), .pointer (some ⟨x, 0, none⟩), .map (some m)] 70 :: Vst s a V :: blk m (.map (mE []) 0) :: L) w := hS
  refine WL.run 5 [.pointer (some ⟨s, 0, none⟩)] rfl (by exact hS.ld 0 rfl rfl) ?_
  refine WL.call rfl rfl (vs_root_bad (h := 0) (hT := hT) (hh := (by decide)) (hn := opn_0 hT) (hS := (hS.sel 2 [1, 0] rfl))) rfl ?_
  clear hS; rintro _ w ⟨rfl, hS⟩
  replace hS := hS.n3 L rfl
  refine WL.r 5 rfl <| WL.nil <| WC.seq <| WC.region <| WL.r 2 rfl <| WL.nil <| WC.ret ?_
  replace hS := St.exClose (f := stoF p s a V) (L := L) ⟨nm, c, x, m⟩ ((hS.sel 2 [1, 0] rfl))
  replace hS : St g (Sto p s a V :: L) w := hS
  refine ⟨[.int .u32 0], rfl, ?_⟩
  exact ⟨rfl, hS⟩
set_option maxRecDepth 8192 in
theorem create_1 {g w : World} {L : List HP} (p s a : Nat) (V : VM) (A : AM) (R : List Int) (hV : VI V A R) (hrm : 0 < V.room) (hla : V.last < 1000000000) (hlen : R.length ≤ 900000000) (hS : St g (Sto p s a V :: Arn a A :: L) w) :
    Sp Tryz.prog 28 [.pointer (some ⟨p, 0, none⟩), .agg #[.int .i64 1, .int .u64 0, .int .u64 0, .int .i64 0, .int .i64 0, .int .i64 0, .int .i64 0, .int .i64 0, .bool false, .string ⟨#[]⟩, .slice none 0 0, .slice none 0 0, .slice none 0 0]] w (fun v w' => ∃ (V2 : VM), v = .agg #[.int .i64 0, .int .u64 V.T.newH, .int .i64 0, .bool false, .int .i64 0, .int .i64 0, .int .i64 0, .int .i64 0, .int .i64 0, .int .i64 0, .int .i64 0, .slice none 0 0, .slice none 0 0, .slice none 0 0, .slice none 0 0] ∧ St g (Sto p s a V2 :: Arn a A :: L) w' ∧ (VI V2 A R) ∧ (Com V 0 [] V2)) := by
  refine Sp.enter Tryz.func28 rfl (by kernel_rfl) (by kernel_rfl) ?_
  refine WC.seq <| WC.region <| WL.box rfl rfl #[.int .i64 1, .int .u64 0, .int .u64 0, .int .i64 0, .int .i64 0, .int .i64 0, .int .i64 0, .int .i64 0, .bool false, .string ⟨#[]⟩, .slice none 0 0, .slice none 0 0, .slice none 0 0] hS rfl rfl (fun b1 w hS => ?_)
  refine WL.new rfl rfl zv_46 hS (fun b2 w hS => ?_)
  refine WL.nil <| WC.seq <| WC.region <| WL.run 2 [.int .u64 0] rfl (by exact hS.ld 1 rfl rfl) ?_
  refine WL.lit rfl rfl (u64s [0]) el_128 hS (by exact ⟨rfl, rfl⟩) (u64s_ok _) rfl (Nat.le_of_ble_eq_true rfl) (fun b3 w hS => ?_)
  refine WL.r 1 rfl <| WL.nil <| WC.seq <| WC.region <| WL.new rfl rfl zv_46 hS (fun b4 w hS => ?_)
  refine WL.nil <| WC.seq <| WC.region <| WL.r 1 rfl <| WL.nil <| WC.seq <| WC.region <| WL.run 3 [.int .u64 0] rfl (by exact hS.ld 3 rfl rfl) ?_
  refine WL.call rfl rfl (root_0  (hT := hV.t) (hS := (hS.sel 5 [4, 0, 0, 0, 0] rfl))) rfl ?_
  clear hS; rintro _ w ⟨rfl, hS⟩
  replace hS := hS.n6 L (a1 := cel b4 #[.int .i64 0, .int .u64 0, .int .i64 0, .bool false, .int .i64 0, .int .i64 0, .int .i64 0, .int .i64 0, .int .i64 0, .int .i64 0, .int .i64 0, .slice none 0 0, .slice none 0 0, .slice none 0 0, .slice none 0 0] 46) (a2 := Own 37 1 (u64s [0]) (some ⟨b3, 0, none⟩) (List.length (u64s [0]))) (a3 := cel b2 #[.int .i64 0, .int .u64 0, .int .i64 0, .bool false, .int .i64 0, .int .i64 0, .int .i64 0, .int .i64 0, .int .i64 0, .int .i64 0, .int .i64 0, .slice none 0 0, .slice none 0 0, .slice none 0 0, .slice none 0 0] 46) (a4 := cel b1 #[.int .i64 1, .int .u64 0, .int .u64 0, .int .i64 0, .int .i64 0, .int .i64 0, .int .i64 0, .int .i64 0, .bool false, .string ⟨#[]⟩, .slice none 0 0, .slice none 0 0, .slice none 0 0] 49) rfl
  refine WL.r 1 rfl <| WL.nil ?_
  as_aux_lemma =>
  refine WC.seq <| WC.seq <| WC.region <| WL.run 2 [.int .i64 1] rfl (by exact hS.ld 4 rfl rfl) ?_
  refine WL.nil <| WC.block <| WC.seq <| WC.region <| WL.r 2 rfl <| WL.nil <| WC.ifT rfl (decide_eq_true ((by decide))) ?_
  refine WC.region <| WL.r 1 rfl <| WL.nil <| WC.seq <| WC.seq <| WC.region <| WL.run 3 [.int .i64 0] rfl (by exact hS.ld 1 rfl rfl) ?_
  refine WL.nil <| WC.ifF rfl (decide_eq_false ((by decide))) ?_
  refine WC.skip <| WC.seq <| WC.region ?_
  obtain ⟨⟨nm, c, x, m⟩, hS⟩ := St.exOpen (f := stoF p s a V) hS
  replace hS := hS.n8 L (a0 := cel p #[.pointer (some ⟨s, 0, none⟩), .pointer (some ⟨nm, 0, none⟩), .pointer (some ⟨c, 0, none⟩), .pointer (some ⟨x, 0, none⟩), .map (some m)] 70) (a1 := Vst s a V) (a2 := blk m (.map (mE []) 0)) rfl
  refine WL.run 6 [.pointer (some ⟨s, 0, none⟩)] rfl (by exact hS.ld 0 rfl rfl) ?_
  replace hS := hS.nilS 37 1
  replace hS := hS.n9 L (a0 := Sh 37 1 (u64s []) none 0) rfl
  refine WL.call rfl rfl (vs_commit (R := R) (root := 0) (hs := []) (hV := hV) (hr := (.inl rfl)) (hps := okPs_nil) (hop := (fun _ h => by cases h)) (hrm := hrm) (hla := hla) (hlen := hlen) (hS := (hS.sel 9 [2, 7, 0, 0, 0, 0, 0, 0, 0] rfl))) rfl ?_
  clear hS; rintro _ w ⟨V1, rfl, hS, f1, f2⟩
  replace hS := hS.n9 L (a0 := Vst s a V1) (a1 := Arn a (A.ret 0)) rfl
  refine WL.r 4 rfl <| WL.st rfl rfl rfl 5 hS rfl rfl rfl rfl rfl rfl (fun w hS => ?_)
  replace hS := hS.n9 L (a5 := cel b4 #[.int .i64 0, .int .u64 V.T.newH, .int .i64 0, .bool false, .int .i64 0, .int .i64 0, .int .i64 0, .int .i64 0, .int .i64 0, .int .i64 0, .int .i64 0, .slice none 0 0, .slice none 0 0, .slice none 0 0, .slice none 0 0] 46) rfl
  refine WL.r 1 rfl <| WL.st rfl rfl rfl 5 hS rfl rfl rfl rfl rfl rfl (fun w hS => ?_)
  replace hS := hS.n9 L rfl
  refine WL.nil ?_
  as_aux_lemma =>
  refine WC.seq <| WC.region ?_
  replace hS := St.exClose (f := stoF p s a V1) (L := Arn a (A.ret 0) :: Sh 37 1 (u64s []) none 0 :: cel b4 #[.int .i64 0, .int .u64 V.T.newH, .int .i64 0, .bool false, .int .i64 0, .int .i64 0, .int .i64 0, .int .i64 0, .int .i64 0, .int .i64 0, .int .i64 0, .slice none 0 0, .slice none 0 0, .slice none 0 0, .slice none 0 0] 46 :: Own 37 1 (u64s [0]) (some ⟨b3, 0, none⟩) (List.length (u64s [0])) :: cel b2 #[.int .i64 0, .int .u64 0, .int .i64 0, .bool false, .int .i64 0, .int .i64 0, .int .i64 0, .int .i64 0, .int .i64 0, .int .i64 0, .int .i64 0, .slice none 0 0, .slice none 0 0, .slice none 0 0, .slice none 0 0] 46 :: cel b1 #[.int .i64 1, .int .u64 0, .int .u64 0, .int .i64 0, .int .i64 0, .int .i64 0, .int .i64 0, .int .i64 0, .bool false, .string ⟨#[]⟩, .slice none 0 0, .slice none 0 0, .slice none 0 0] 49 :: L) ⟨nm, c, x, m⟩ ((hS.sel 5 [3, 0, 2, 0, 0] rfl))
  replace hS := hS.n7 L (a0 := Sto p s a V1) rfl
  refine WL.r 1 rfl <| WL.call rfl rfl (st_arena   (hS := hS)) rfl ?_
  clear hS; rintro _ w ⟨rfl, hS⟩
  replace hS := hS.n7 L rfl
  refine WL.r 1 rfl <| WL.call rfl rfl (ar_release0 (A := A.ret 0)  (hS := (hS.sel 2 [1, 0] rfl))) rfl ?_
  clear hS; rintro _ w ⟨rfl, hS⟩
  replace hS := hS.n7 L rfl
  refine WL.nil <| WC.seq <| WC.region <| WL.ldF rfl rfl 3 hS rfl rfl ag_46 <| WL.stF rfl rfl rfl 5 hS rfl rfl rfl rfl rfl ag_46 (fun w hS => ?_)
  replace hS := hS.n7 L (a5 := cel b2 #[.int .i64 0, .int .u64 V.T.newH, .int .i64 0, .bool false, .int .i64 0, .int .i64 0, .int .i64 0, .int .i64 0, .int .i64 0, .int .i64 0, .int .i64 0, .slice none 0 0, .slice none 0 0, .slice none 0 0, .slice none 0 0] 46) rfl
  refine WL.nil <| WC.ret ?_
  refine ⟨[.agg #[.int .i64 0, .int .u64 V.T.newH, .int .i64 0, .bool false, .int .i64 0, .int .i64 0, .int .i64 0, .int .i64 0, .int .i64 0, .int .i64 0, .int .i64 0, .slice none 0 0, .slice none 0 0, .slice none 0 0, .slice none 0 0]], ⟨⟨_, rfl, hS.lvF 5 rfl ag_46⟩, trivial⟩, ?_⟩
  replace hS := (hS.sel 7 [1, 0] rfl)
  exact ⟨_, rfl, hS, f1, f2⟩
set_option maxRecDepth 8192 in
theorem do_1 {g w : World} {L : List HP} (p s a : Nat) (V : VM) (A : AM) (R : List Int) (hV : VI V A R) (hrm : 0 < V.room) (hla : V.last < 1000000000) (hlen : R.length ≤ 900000000) (hS : St g (Sto p s a V :: Arn a A :: L) w) :
    Sp Tryz.prog 13 [.pointer (some ⟨p, 0, none⟩), .agg #[.int .i64 1, .int .u64 0, .int .u64 0, .int .i64 0, .int .i64 0, .int .i64 0, .int .i64 0, .int .i64 0, .bool false, .string ⟨#[]⟩, .slice none 0 0, .slice none 0 0, .slice none 0 0]] w (fun v w' => ∃ (V2 : VM), v = .agg #[.int .i64 0, .int .u64 V.T.newH, .int .i64 0, .bool false, .int .i64 0, .int .i64 0, .int .i64 0, .int .i64 0, .int .i64 0, .int .i64 0, .int .i64 0, .slice none 0 0, .slice none 0 0, .slice none 0 0, .slice none 0 0] ∧ St g (Sto p s a V2 :: Arn a A :: L) w' ∧ (VI V2 A R) ∧ (Com V 0 [] V2)) := by
  refine Sp.enter Tryz.func13 rfl (by kernel_rfl) (by kernel_rfl) ?_
  refine WC.seq <| WC.region <| WL.box rfl rfl #[.int .i64 1, .int .u64 0, .int .u64 0, .int .i64 0, .int .i64 0, .int .i64 0, .int .i64 0, .int .i64 0, .bool false, .string ⟨#[]⟩, .slice none 0 0, .slice none 0 0, .slice none 0 0] hS rfl rfl (fun b1 w hS => ?_)
  refine WL.new rfl rfl zv_46 hS (fun b2 w hS => ?_)
  refine WL.nil <| WC.seq <| WC.seq <| WC.region <| WL.ldF rfl rfl 1 hS rfl rfl ag_49 <| WL.call rfl rfl (valid_1   (hS := hS)) rfl ?_
  clear hS; rintro _ w ⟨rfl, hS⟩
  replace hS := hS.n4 L (a0 := cel b2 #[.int .i64 0, .int .u64 0, .int .i64 0, .bool false, .int .i64 0, .int .i64 0, .int .i64 0, .int .i64 0, .int .i64 0, .int .i64 0, .int .i64 0, .slice none 0 0, .slice none 0 0, .slice none 0 0, .slice none 0 0] 46) (a1 := cel b1 #[.int .i64 1, .int .u64 0, .int .u64 0, .int .i64 0, .int .i64 0, .int .i64 0, .int .i64 0, .int .i64 0, .bool false, .string ⟨#[]⟩, .slice none 0 0, .slice none 0 0, .slice none 0 0] 49) rfl
  refine WL.r 2 rfl <| WL.ung rfl rfl rfl <| WL.ldF rfl rfl 1 hS rfl rfl ag_49 <| WL.ung rfl rfl rfl <| WL.call rfl rfl (snd_1   (hS := hS)) rfl ?_
  clear hS; rintro _ w ⟨rfl, hS⟩
  replace hS := hS.n4 L rfl
  refine WL.ung rfl rfl rfl <| WL.r 2 rfl <| WL.nil <| WC.ifF rfl rfl <| WC.skip ?_
  as_aux_lemma =>
  refine WC.seq <| WC.seq <| WC.region <| WL.r 1 rfl <| WL.ldF rfl rfl 1 hS rfl rfl ag_49 <| WL.call rfl rfl (open_1 (p := p)  (hS := hS)) rfl ?_
  clear hS; rintro _ w ⟨rfl, hS⟩
  replace hS := hS.n4 L rfl
  refine WL.r 1 rfl <| WL.nil <| WC.seq <| WC.region <| WL.r 2 rfl <| WL.nil <| WC.ifF rfl (decide_eq_false ((by decide))) ?_
  refine WC.skip <| WC.seq <| WC.seq <| WC.region <| WL.run 2 [.int .i64 1] rfl (by exact hS.ld 1 rfl rfl) ?_
  refine WL.call rfl rfl (creates_1   (hS := hS)) rfl ?_
  clear hS; rintro _ w ⟨rfl, hS⟩
  replace hS := hS.n4 L rfl
  refine WL.nil <| WC.ifT rfl rfl <| WC.seq <| WC.seq <| WC.region ?_
  obtain ⟨⟨nm, c, x, m⟩, hS⟩ := St.exOpen (f := stoF p s a V) (hS.at_ 2 rfl)
  replace hS := hS.n6 L (a0 := cel p #[.pointer (some ⟨s, 0, none⟩), .pointer (some ⟨nm, 0, none⟩), .pointer (some ⟨c, 0, none⟩), .pointer (some ⟨x, 0, none⟩), .map (some m)] 70) (a1 := Vst s a V) (a2 := blk m (.map (mE []) 0)) rfl
  obtain ⟨ss, hK⟩ := keys_ex hV.g.ok.uniq
  refine WL.run 4 [.pointer (some ⟨s, 0, none⟩)] rfl (by exact hS.ld 0 rfl rfl) ?_
  refine WL.call rfl rfl (vs_room (ss := ss) (hT := hV.t) (hG := hV.g) (hp := hK.perm) (hs := hK.le) (hS := (hS.sel 2 [1, 0] rfl))) rfl ?_
  clear hS; rintro _ w ⟨rfl, hS⟩
  replace hS := hS.n6 L rfl
  refine WL.r 1 rfl <| WL.nil ?_
  as_aux_lemma =>
  refine WC.ifF rfl (decide_eq_false ((by omega))) ?_
  refine WC.skip <| WC.seq <| WC.region ?_
  replace hS := St.exClose (f := stoF p s a V) (L := cel b2 #[.int .i64 0, .int .u64 0, .int .i64 0, .bool false, .int .i64 0, .int .i64 0, .int .i64 0, .int .i64 0, .int .i64 0, .int .i64 0, .int .i64 0, .slice none 0 0, .slice none 0 0, .slice none 0 0, .slice none 0 0] 46 :: cel b1 #[.int .i64 1, .int .u64 0, .int .u64 0, .int .i64 0, .int .i64 0, .int .i64 0, .int .i64 0, .int .i64 0, .bool false, .string ⟨#[]⟩, .slice none 0 0, .slice none 0 0, .slice none 0 0] 49 :: Arn a A :: L) ⟨nm, c, x, m⟩ ((hS.sel 2 [1, 0] rfl))
  replace hS := hS.n4 L (a0 := Sto p s a V) rfl
  refine WL.r 1 rfl <| WL.ldF rfl rfl 2 hS rfl rfl ag_49 <| WL.call rfl rfl (create_1 (R := R) (hV := hV) (hrm := hrm) (hla := hla) (hlen := hlen) (hS := (hS.sel 4 [0, 2, 0, 0] rfl))) rfl ?_
  clear hS; rintro _ w ⟨V1, rfl, hS, f1, f2⟩
  replace hS := hS.n4 L (a0 := Sto p s a V1) rfl
  refine WL.stF rfl rfl rfl 2 hS rfl rfl rfl rfl rfl ag_46 (fun w hS => ?_)
  replace hS := hS.n4 L (a2 := cel b2 #[.int .i64 0, .int .u64 V.T.newH, .int .i64 0, .bool false, .int .i64 0, .int .i64 0, .int .i64 0, .int .i64 0, .int .i64 0, .int .i64 0, .int .i64 0, .slice none 0 0, .slice none 0 0, .slice none 0 0, .slice none 0 0] 46) rfl
  refine WL.nil <| WC.ret ?_
  refine ⟨[.agg #[.int .i64 0, .int .u64 V.T.newH, .int .i64 0, .bool false, .int .i64 0, .int .i64 0, .int .i64 0, .int .i64 0, .int .i64 0, .int .i64 0, .int .i64 0, .slice none 0 0, .slice none 0 0, .slice none 0 0, .slice none 0 0]], ⟨⟨_, rfl, hS.lvF 2 rfl ag_46⟩, trivial⟩, ?_⟩
  replace hS := (hS.sel 4 [0, 0] rfl)
  exact ⟨_, rfl, hS, f1, f2⟩
end Go.Proofs.YtaceaiifbiiagaaGreatDoor
/-! ## Sc3 -/
namespace Go.Proofs.YtaceaiifbiiagaaGreatDoor
open Go Go.V Go.RowKit Go.Maps
def ones (n : Nat) : List Int := List.replicate n 1
set_option maxRecDepth 8192 in
theorem left_1 {g w : World} {L : List HP} (r : Nat) (a : Option Addr) (c : Nat) (bs : List Int) (p : Nat) (hl : bs.length ≤ 1000000000) (hp : p ≤ bs.length) (hS : St g (cel r #[.slice a (List.length (by8 bs)) c, .int .i64 (p : Int), .int .i64 0] 215 :: L) w) :
    Sp Tryz.prog 194 [.pointer (some ⟨r, 0, none⟩)] w (fun v w' => v = .int .i64 ((List.length bs : Int) - p) ∧ St g (cel r #[.slice a (List.length (by8 bs)) c, .int .i64 (p : Int), .int .i64 0] 215 :: L) w') := by
  refine Sp.enter Tryz.func194 rfl (by kernel_rfl) (by kernel_rfl) ?_
  have _ := hp
  have _ := hl
  refine WC.seq <| WC.region ?_
  have hl8 := by8_len bs
  refine WL.r 1 rfl <| WL.nil <| WC.seq <| WC.plan [([0, 5, 1, 6, 2, 7, 3, 8, 4, 9, 10], none)] (by kernel_rfl) (by kernel_rfl) ?_
  refine WQ.run 10 [.slice a (List.length (by8 bs)) c, .int .i64 (p : Int)] rfl (by exact ⟨hS.ld 0 rfl rfl, hS.ld 0 rfl rfl⟩) ?_
  refine WQ.nw 12 rfl (w64 (by omega)) ?_
  refine WQ.r 1 rfl <| WQ.nil ?_
  intro m1
  replace hS := hS.drewN m1; generalize hwm1 : World.drewN _ _ = w at *; clear hwm1
  refine WC.ret ?_
  refine ⟨[.int .i64 ((List.length (by8 bs) : Int) - (p : Int))], rfl, ?_⟩
  exact ⟨by rw [hl8]; rfl, hS⟩
set_option maxRecDepth 8192 in
theorem byte_1 {g w : World} {L : List HP} (r : Nat) (a : Option Addr) (c : Nat) (bs : List Int) (p : Nat) (hl : bs.length ≤ 1000000000) (hp : bs[p]? = some 1) (hS : St g (cel r #[.slice a (List.length (by8 bs)) c, .int .i64 (p : Int), .int .i64 0] 215 :: Sh 5 1 (by8 bs) a c :: L) w) :
    Sp Tryz.prog 112 [.pointer (some ⟨r, 0, none⟩)] w (fun v w' => v = .int .u8 1 ∧ St g (cel r #[.slice a (List.length (by8 bs)) c, .int .i64 ((p : Int) + 1), .int .i64 0] 215 :: Sh 5 1 (by8 bs) a c :: L) w') := by
  refine Sp.enter Tryz.func112 rfl (by kernel_rfl) (by kernel_rfl) ?_
  refine WC.seq <| WC.region ?_
  have hl8 := by8_len bs; have hpl := (List.getElem?_eq_some_iff.1 hp).1
  refine WL.r 1 rfl <| WL.nil <| WC.seq <| WC.seq <| WC.region <| WL.run 5 [.int .i64 0] rfl (by exact hS.ld 0 rfl rfl) ?_
  refine WL.nil <| WC.ifF rfl (decide_eq_false ((by decide))) ?_
  refine WC.skip <| WC.seq <| WC.seq <| WC.region <| WL.r 1 rfl <| WL.call rfl rfl (left_1 (a := a) (c := c) (bs := bs) (p := p) (hl := hl) (hp := (by omega)) (hS := hS)) rfl ?_
  clear hS; rintro _ w ⟨rfl, hS⟩
  replace hS := hS.n2 L rfl
  refine WL.r 1 rfl <| WL.nil <| WC.ifF rfl (decide_eq_false ((by omega))) ?_
  refine WC.skip <| WC.seq <| WC.region <| WL.run 5 [.int .i64 (p : Int)] rfl (by exact hS.ld 0 rfl rfl) ?_
  refine WL.nw 17 rfl (w64 (by omega)) ?_
  refine WL.r 2 rfl <| WL.st rfl rfl rfl 0 hS rfl rfl rfl rfl rfl rfl (fun w hS => ?_)
  replace hS := hS.n2 L (a0 := cel r #[.slice a (List.length (by8 bs)) c, .int .i64 ((p : Int) + 1), .int .i64 0] 215) rfl
  refine WL.nil ?_
  as_aux_lemma =>
  refine WC.seq <| WC.plan [([0, 4, 1, 5, 2, 6, 3, 7, 8], some (9, [])), ([10, 11], none)] (by kernel_rfl) (by kernel_rfl) ?_
  refine WQ.run 9 [.slice a (List.length (by8 bs)) c, .int .i64 ((p : Int) + 1)] rfl (by exact ⟨hS.ld 0 rfl rfl, hS.ld 0 rfl rfl⟩) ?_
  refine WQ.nw 28 rfl (w64 (by omega)) ?_
  refine WQ.nil ?_
  intro m1
  replace hS := hS.drewN m1; generalize hwm1 : World.drewN _ _ = w at *; clear hwm1
  refine WL.ix rfl rfl (i := ((p : Int) + 1) - 1) (p) el_24 rfl rfl (by omega) (len_of (by8_at hp)) (hS.rdS 1 rfl (by8_at hp)).1 ?_
  refine WL.nil ?_
  refine ⟨by exact trivial, ?_⟩
  refine WQ.run 2 [.int .u8 1] rfl (by exact (hS.rdS 1 rfl (by8_at hp)).2 0 _ rfl) ?_
  refine WQ.nil ?_
  intro m2
  replace hS := hS.drewN m2; generalize hwm2 : World.drewN _ _ = w at *; clear hwm2
  refine WC.ret ?_
  refine ⟨[.int .u8 1], rfl, ?_⟩
  exact ⟨rfl, hS⟩
set_option maxRecDepth 8192 in
theorem next_1 {g w : World} {L : List HP} (a : Option Addr) (c : Nat) (bs : List Int) (p : Nat) (hl : bs.length ≤ 1000000000) (hp : bs[p]? = some 1) (hS : St g (Sh 5 1 (by8 bs) a c :: L) w) :
    Sp Tryz.prog 46 [.slice a (List.length (by8 bs)) c, .int .i64 (p : Int)] w (fun v w' => v = .tuple #[.agg #[.int .i64 1, .int .u64 0, .int .u64 0, .int .i64 0, .int .i64 0, .int .i64 0, .int .i64 0, .int .i64 0, .bool false, .string ⟨#[]⟩, .slice none 0 0, .slice none 0 0, .slice none 0 0], .int .i64 ((p : Int) + 1), .int .i64 0] ∧ St g (Sh 5 1 (by8 bs) a c :: L) w') := by
  refine Sp.enter Tryz.func46 rfl (by kernel_rfl) (by kernel_rfl) ?_
  refine WC.seq <| WC.region <| WL.new rfl rfl zv_49 hS (fun b1 w hS => ?_)
  refine WL.r 2 rfl <| WL.nil <| WC.seq <| WC.seq <| WC.region ?_
  have hl8 := by8_len bs; have hpl := (List.getElem?_eq_some_iff.1 hp).1
  refine WL.r 2 rfl <| WL.rG 6 rfl (fun j => ?_)
  refine WL.prop 20 rfl (bor (dd _) (dd _)) <| WL.nil <| WC.ifF rfl (decide_eq_false ((by omega))) ?_
  refine WC.skip <| WC.seq <| WC.region <| WL.r 2 rfl <| WL.build rfl rfl (cs := [.slice a (List.length (by8 bs)) c, .int .i64 (p : Int), .int .i64 0]) zv_215 rfl rfl <| WL.box rfl rfl #[.slice a (List.length (by8 bs)) c, .int .i64 (p : Int), .int .i64 0] hS rfl rfl (fun b2 w hS => ?_)
  refine WL.r 1 rfl <| WL.nil <| WC.seq <| WC.region <| WL.r 1 rfl <| WL.call rfl rfl (byte_1 (p := p) (hl := hl) (hp := hp) (hS := (hS.sel 3 [0, 1, 0] rfl))) rfl ?_
  clear hS; rintro _ w ⟨rfl, hS⟩
  replace hS := hS.n3 L (a0 := cel b2 #[.slice a (List.length (by8 bs)) c, .int .i64 ((p : Int) + 1), .int .i64 0] 215) (a2 := cel b1 #[.int .i64 0, .int .u64 0, .int .u64 0, .int .i64 0, .int .i64 0, .int .i64 0, .int .i64 0, .int .i64 0, .bool false, .string ⟨#[]⟩, .slice none 0 0, .slice none 0 0, .slice none 0 0] 49) rfl
  refine WL.r 1 rfl <| WL.nw 28 rfl (w64 (by omega)) ?_
  refine WL.build rfl rfl (cs := [.int .i64 1, .int .u64 0, .int .u64 0, .int .i64 0, .int .i64 0, .int .i64 0, .int .i64 0, .int .i64 0, .bool false, .string ⟨#[]⟩, .slice none 0 0, .slice none 0 0, .slice none 0 0]) zv_49 rfl rfl <| WL.new rfl rfl zv_49 hS (fun b3 w hS => ?_)
  refine WL.stF rfl rfl rfl 0 hS rfl rfl rfl rfl rfl ag_49 (fun w hS => ?_)
  replace hS := hS.n4 L (a0 := cel b3 #[.int .i64 1, .int .u64 0, .int .u64 0, .int .i64 0, .int .i64 0, .int .i64 0, .int .i64 0, .int .i64 0, .bool false, .string ⟨#[]⟩, .slice none 0 0, .slice none 0 0, .slice none 0 0] 49) rfl
  refine WL.nil ?_
  as_aux_lemma =>
  refine WC.seq <| WC.region <| WL.run 2 [.int .i64 1] rfl (by exact hS.ld 0 rfl rfl) ?_
  refine WL.call rfl rfl (fields_1   (hS := hS)) rfl ?_
  clear hS; rintro _ w ⟨rfl, hS⟩
  replace hS := hS.n4 L rfl
  refine WL.r 5 rfl <| WL.nil <| WC.seq <| WC.seq <| WC.region <| WL.r 2 rfl <| WL.nil <| WC.ifF rfl rfl <| WC.skip <| WC.seq <| WC.seq <| WC.region ?_
  refine WL.r 1 rfl <| WL.rng rfl rfl rfl hS rfl (fun b4 w hS => ?_)
  replace hS := hS.n5 L (a0 := blk b4 (.stringIter (mkS []) 0)) rfl
  refine WL.nil <| WC.block <| WC.loop [4, 5, 6, 7, 8, 41] (fun kM vs w => vs = [.pointer (some ⟨b1, 0, none⟩), .int .i64 0, .int .i64 0, .pointer (some ⟨b2, 0, none⟩), .pointer (some ⟨b3, 0, none⟩), .pointer (some ⟨b4, 0, none⟩)] ∧ St g (blk b4 (.stringIter (mkS []) 0) :: cel b3 #[.int .i64 1, .int .u64 0, .int .u64 0, .int .i64 0, .int .i64 0, .int .i64 0, .int .i64 0, .int .i64 0, .bool false, .string ⟨#[]⟩, .slice none 0 0, .slice none 0 0, .slice none 0 0] 49 :: cel b2 #[.slice a (List.length (by8 bs)) c, .int .i64 ((p : Int) + 1), .int .i64 0] 215 :: Sh 5 1 (by8 bs) a c :: cel b1 #[.int .i64 0, .int .u64 0, .int .u64 0, .int .i64 0, .int .i64 0, .int .i64 0, .int .i64 0, .int .i64 0, .bool false, .string ⟨#[]⟩, .slice none 0 0, .slice none 0 0, .slice none 0 0] 49 :: L) w ∧ (0) = kM) (0) ⟨rfl, hS, rfl⟩ ?_
  clear hS; rintro _ _ w j ⟨rfl, hS, rfl⟩
  refine WC.seq <| WC.region <| WL.nx rfl rfl rfl rfl rfl rfl rfl 0 (by intro x hx; cases hx) hS rfl rfl (fun w hS => ?_)
  replace hS := hS.n5 L (a0 := blk b4 (.stringIter (mkS []) (if (0 < 0) then (0 + 1) else 0))) rfl
  refine WL.nil ?_
  as_aux_lemma =>
  refine WC.seq <| WC.ifF rfl (decide_eq_false ((by decide))) ?_
  refine WC.exit <| WC.seq <| WC.seq <| WC.region <| WL.run 5 [.int .i64 0] rfl (by exact hS.ld 2 rfl rfl) ?_
  refine WL.nil <| WC.ifF rfl (decide_eq_false ((by decide))) ?_
  refine WC.skip <| WC.seq <| WC.plan [([1, 2, 3, 4], some (0, [1, 2, 3, 4])), ([], some (5, [1, 2, 3, 4])), ([6, 7], none)] (by kernel_rfl) (by kernel_rfl) ?_
  refine WQ.run 4 [.int .i64 ((p : Int) + 1)] rfl (by exact hS.ld 2 rfl rfl) ?_
  refine WQ.nil ?_
  intro m1
  replace hS := hS.drewN m1; generalize hwm1 : World.drewN _ _ = w at *; clear hwm1
  refine WL.ldF rfl rfl 1 hS rfl rfl ag_49 <| WL.nil ?_
  refine ⟨by exact ⟨RQ.pure rfl rfl rfl rfl, RQ.pure rfl rfl rfl rfl, RQ.pure rfl rfl rfl rfl, RQ.load rfl rfl rfl rfl (hS.ld 2 rfl rfl)⟩, ?_⟩
  refine WQ.nil ?_
  intro m2
  replace hS := hS.drewN m2; generalize hwm2 : World.drewN _ _ = w at *; clear hwm2
  refine WL.stF rfl rfl rfl 4 hS rfl rfl rfl rfl rfl ag_49 (fun w hS => ?_)
  replace hS := hS.n5 L (a4 := cel b1 #[.int .i64 1, .int .u64 0, .int .u64 0, .int .i64 0, .int .i64 0, .int .i64 0, .int .i64 0, .int .i64 0, .bool false, .string ⟨#[]⟩, .slice none 0 0, .slice none 0 0, .slice none 0 0] 49) rfl
  refine WL.nil ?_
  refine ⟨by exact ⟨RQ.pure rfl rfl rfl rfl, RQ.pure rfl rfl rfl rfl, RQ.pure rfl rfl rfl rfl, RQ.load rfl rfl rfl rfl (hS.ld 2 rfl rfl)⟩, ?_⟩
  refine WQ.r 2 rfl <| WQ.nil ?_
  intro m3
  replace hS := hS.drewN m3; generalize hwm3 : World.drewN _ _ = w at *; clear hwm3
  as_aux_lemma =>
  refine WC.ret ?_
  refine ⟨[.agg #[.int .i64 1, .int .u64 0, .int .u64 0, .int .i64 0, .int .i64 0, .int .i64 0, .int .i64 0, .int .i64 0, .bool false, .string ⟨#[]⟩, .slice none 0 0, .slice none 0 0, .slice none 0 0], .int .i64 ((p : Int) + 1), .int .i64 0], ⟨⟨_, rfl, hS.lvF 4 rfl ag_49⟩, rfl, rfl⟩, ?_⟩
  replace hS := (hS.sel 5 [3] rfl)
  exact ⟨rfl, hS⟩
set_option maxRecDepth 8192 in
theorem append_1 {g w : World} {L : List HP} (hS : St g (L) w) :
    Sp Tryz.prog 14 [.slice none 0 0, .agg #[.int .i64 1, .int .u64 0, .int .u64 0, .int .i64 0, .int .i64 0, .int .i64 0, .int .i64 0, .int .i64 0, .bool false, .string ⟨#[]⟩, .slice none 0 0, .slice none 0 0, .slice none 0 0]] w (fun v w' => ∃ (a2 : Option Addr) (c2 : Nat), v = .tuple #[.slice a2 1 c2, .int .i64 0] ∧ St g (Own 5 1 (by8 [1]) a2 c2 :: L) w') := by
  refine Sp.enter Tryz.func14 rfl (by kernel_rfl) (by kernel_rfl) ?_
  refine WC.seq <| WC.region <| WL.box rfl rfl #[.int .i64 1, .int .u64 0, .int .u64 0, .int .i64 0, .int .i64 0, .int .i64 0, .int .i64 0, .int .i64 0, .bool false, .string ⟨#[]⟩, .slice none 0 0, .slice none 0 0, .slice none 0 0] hS rfl rfl (fun b1 w hS => ?_)
  refine WL.r 2 rfl <| WL.nil <| WC.seq <| WC.seq <| WC.region <| WL.ldF rfl rfl 0 hS rfl rfl ag_49 <| WL.call rfl rfl (valid_1   (hS := hS)) rfl ?_
  clear hS; rintro _ w ⟨rfl, hS⟩
  replace hS : St g (cel b1 #[.int .i64 1, .int .u64 0, .int .u64 0, .int .i64 0, .int .i64 0, .int .i64 0, .int .i64 0, .int .i64 0, .bool false, .string ⟨#[]⟩, .slice none 0 0, .slice none 0 0, .slice none 0 0] 49 :: L) w := hS
  refine WL.r 1 rfl <| WL.nil <| WC.ifF rfl rfl <| WC.skip <| WC.seq <| WC.region <| WL.run 3 [.int .i64 1] rfl (by exact hS.ld 0 rfl rfl) ?_
  refine WL.reb 16 (.int .u8 1) (congrArg (Value.int .u8) (by rfl)) ?_
  refine WL.lit rfl rfl (by8 [1]) el_24 hS (by exact ⟨rfl, rfl⟩) (by8_ok _) rfl (Nat.le_of_ble_eq_true rfl) (fun b2 w hS => ?_)
  refine WL.build rfl rfl (cs := [.slice (some ⟨b2, 0, none⟩) (List.length (by8 [1])) (List.length (by8 [1]))]) zv_86 rfl rfl <| WL.box rfl rfl #[.slice (some ⟨b2, 0, none⟩) (List.length (by8 [1])) (List.length (by8 [1]))] hS rfl rfl (fun b3 w hS => ?_)
  refine WL.r 1 rfl <| WL.nil ?_
  as_aux_lemma =>
  refine WC.seq <| WC.region <| WL.run 2 [.int .i64 1] rfl (by exact hS.ld 2 rfl rfl) ?_
  refine WL.call rfl rfl (fields_1   (hS := hS)) rfl ?_
  clear hS; rintro _ w ⟨rfl, hS⟩
  replace hS := hS.n3 L (a0 := cel b3 #[.slice (some ⟨b2, 0, none⟩) (List.length (by8 [1])) (List.length (by8 [1]))] 86) (a1 := Own 5 1 (by8 [1]) (some ⟨b2, 0, none⟩) (List.length (by8 [1]))) rfl
  refine WL.r 5 rfl <| WL.nil <| WC.seq <| WC.seq <| WC.region <| WL.r 1 rfl <| WL.rng rfl rfl rfl hS rfl (fun b4 w hS => ?_)
  replace hS := hS.n4 L (a0 := blk b4 (.stringIter (mkS []) 0)) rfl
  refine WL.nil <| WC.block <| WC.loop [0, 3, 4, 5, 6, 27] (fun kM vs w => vs = [.slice none 0 0, .pointer (some ⟨b1, 0, none⟩), .slice none 0 0, .int .i64 0, .pointer (some ⟨b3, 0, none⟩), .pointer (some ⟨b4, 0, none⟩)] ∧ St g (blk b4 (.stringIter (mkS []) 0) :: cel b3 #[.slice (some ⟨b2, 0, none⟩) (List.length (by8 [1])) (List.length (by8 [1]))] 86 :: Own 5 1 (by8 [1]) (some ⟨b2, 0, none⟩) (List.length (by8 [1])) :: cel b1 #[.int .i64 1, .int .u64 0, .int .u64 0, .int .i64 0, .int .i64 0, .int .i64 0, .int .i64 0, .int .i64 0, .bool false, .string ⟨#[]⟩, .slice none 0 0, .slice none 0 0, .slice none 0 0] 49 :: L) w ∧ (0) = kM) (0) ⟨rfl, hS, rfl⟩ ?_
  clear hS; rintro _ _ w j ⟨rfl, hS, rfl⟩
  refine WC.seq <| WC.region <| WL.nx rfl rfl rfl rfl rfl rfl rfl 0 (by intro x hx; cases hx) hS rfl rfl (fun w hS => ?_)
  replace hS := hS.n4 L (a0 := blk b4 (.stringIter (mkS []) (if (0 < 0) then (0 + 1) else 0))) rfl
  refine WL.nil <| WC.seq <| WC.ifF rfl (decide_eq_false ((by decide))) ?_
  refine WC.exit ?_
  as_aux_lemma =>
  refine WC.seq <| WC.region ?_
  replace hS : St g (Sh 5 1 (by8 []) none 0 :: blk b4 (.stringIter (mkS []) (if (0 < 0) then (0 + 1) else 0)) :: cel b3 #[.slice (some ⟨b2, 0, none⟩) (List.length (by8 [1])) (List.length (by8 [1]))] 86 :: Own 5 1 (by8 [1]) (some ⟨b2, 0, none⟩) (List.length (by8 [1])) :: cel b1 #[.int .i64 1, .int .u64 0, .int .u64 0, .int .i64 0, .int .i64 0, .int .i64 0, .int .i64 0, .int .i64 0, .bool false, .string ⟨#[]⟩, .slice none 0 0, .slice none 0 0, .slice none 0 0] 49 :: L) w := hS.nilS 5 1
  refine WL.run 5 [.slice (some ⟨b2, 0, none⟩) (List.length (by8 [1])) (List.length (by8 [1]))] rfl (by exact hS.ld 2 rfl rfl) ?_
  replace hS := (hS.at_ 3 rfl).share
  replace hS := hS.n5 L (a0 := Sh 5 1 (by8 [1]) (some ⟨b2, 0, none⟩) (List.length (by8 [1]))) (a1 := Sh 5 1 (by8 []) none 0) rfl
  refine WL.call rfl rfl (join_spec (xs := []) (ys := [1]) (b := some ⟨b2, 0, none⟩) (d := List.length (by8 [1])) (hx := (by decide)) (hS := (hS.sel 2 [1, 0] rfl))) rfl ?_
  clear hS; rintro _ w ⟨a1, c1, rfl, hS⟩
  replace hS := hS.n6 L (a0 := Own 5 1 (by8 ([] ++ [1])) a1 c1) rfl
  refine WL.r 2 rfl <| WL.nil <| WC.ret ?_
  refine ⟨[.slice a1 (List.length (by8 ([] ++ [1]))) c1, .int .i64 0], ⟨rfl, rfl⟩, ?_⟩
  replace hS := (hS.sel 6 [0] rfl)
  exact ⟨_, _, rfl, hS⟩
end Go.Proofs.YtaceaiifbiiagaaGreatDoor
/-! ## Rt -/
namespace Go.V
open Go
structure Seg (bs : List Int) (p q : Nat) (l : List Int) : Prop where
  lo : p ≤ q
  hi : q ≤ bs.length
  eq : (bs.take q).drop p = l
theorem Seg.app {bs : List Int} {p q r : Nat} {l m : List Int} (h : Seg bs p q l) (k : Seg bs q r m) : Seg bs p r (l ++ m) := by
  have := h.lo; have := h.hi; have := k.lo; have := k.hi
  refine ⟨by omega, by omega, ?_⟩
  rw [← h.eq, ← k.eq]
  have e1 : bs.take r = bs.take q ++ (bs.take r).drop q := by
    have : bs.take q = (bs.take r).take q := by rw [List.take_take]; congr 1; omega
    rw [this, List.take_append_drop]
  rw [e1, List.drop_append_of_le_length (by rw [List.length_take]; omega)]
  congr 1
  rw [← e1]
theorem Seg.nil {bs : List Int} {p : Nat} (h : p ≤ bs.length) : Seg bs p p [] := ⟨Nat.le_refl _, h, by rw [List.drop_eq_nil_of_le]; rw [List.length_take]; omega⟩
theorem Seg.of {bs : List Int} {p n : Nat} {l : List Int} (hp : p + n ≤ bs.length) (h : (bs.drop p).take n = l) : Seg bs p (p + n) l := ⟨by omega, hp, by rw [← h, List.drop_take]; congr 1; omega⟩
end Go.V
/-! ## Anm -/
namespace Go.V
open Go
theorem AnM.ext' {x y : AnM} (h : x.err = y.err ∧ x.handle = y.handle ∧ x.value = y.value ∧ x.found = y.found ∧ x.n = y.n ∧ x.ekey = y.ekey ∧ x.eval = y.eval ∧ x.count = y.count ∧ x.sum = y.sum ∧ x.mn = y.mn ∧ x.mx = y.mx ∧ x.ents = y.ents ∧ x.chs = y.chs ∧ x.keys = y.keys ∧ x.bytes = y.bytes) : x = y := by
  cases x; cases y; simp only [AnM.mk.injEq]; exact h
structure AnT (x : AnM) : Prop where
  err : I64 x.err
  handle : 0 ≤ x.handle ∧ x.handle ≤ 18446744073709551615
  value : I64 x.value
  n : I64 x.n
  ekey : I64 x.ekey
  eval : I64 x.eval
  count : I64 x.count
  sum : I64 x.sum
  mn : I64 x.mn
  mx : I64 x.mx
  ents : En64 x.ents
  chs : Ch64 x.chs
  keys : I64s x.keys
  by_ : B8 x.bytes
def bigAn (x : AnM) : Prop := 60 < x.ents.length ∨ 60 < x.chs.length ∨ 60 < x.keys.length ∨ 300 < x.bytes.length
instance (x : AnM) : Decidable (bigAn x) := by unfold bigAn; infer_instance
theorem AnT.w {x : AnM} (h : AnT x) (hb : ¬ bigAn x) : AnW x := by
  unfold bigAn at hb
  exact ⟨h.err, h.handle, h.value, h.n, h.ekey, h.eval, h.count, h.sum, h.mn, h.mx, h.ents, h.chs, h.keys, by omega, by omega, by omega, by omega⟩
section
variable {bs : List Int}
structure AnR (bs : List Int) (x : AnM) : Prop where
  ents : x.ents.length ≤ bs.length
  chs : x.chs.length ≤ bs.length
  keys : x.keys.length ≤ bs.length
  by_ : B8 x.bytes
end
theorem eAn_B8 {x : AnM} (h : B8 x.bytes) : B8 (eAn x) := by
  unfold eAn
  exact (((((((((((((((eU_B8 _).app (eU_B8 _)).app (eZ_B8 _)).app (eF_B8 _)).app (eZ_B8 _)).app (eZ_B8 _)).app (eZ_B8 _)).app (eZ_B8 _)).app (eZ_B8 _)).app (eZ_B8 _)).app (eZ_B8 _)).app (eEnts_B8 _)).app (eChs_B8 _)).app ((eU_B8 _).app (fm_B8 fun _ _ => eZ_B8 _))).app (eBytes_B8 h))
end Go.V
/-! ## Fwd -/
namespace Go.V
open Go
def Rdr {α : Type} (bs : List Int) (R : Nat → α × Nat × Int) (l : List Int) (x : α) : Prop :=
  ∀ p, p ≤ bs.length → (l <+: bs.drop p → R p = (x, p + l.length, 0)) ∧ (bs.drop p <+: l → bs.length - p < l.length → (R p).2.2 = 12)
section
variable {α β : Type} {bs : List Int}
theorem Rdr.congr {R Q : Nat → α × Nat × Int} {l : List Int} {x : α} (h : Rdr bs R l x) (e : ∀ p, Q p = R p) : Rdr bs Q l x := by rwa [show Q = R from funext e]
theorem pre_split {l m t : List Int} (h : l ++ m <+: t) : l <+: t ∧ m <+: t.drop l.length := by
  obtain ⟨r, rfl⟩ := h
  exact ⟨⟨m ++ r, by simp⟩, ⟨r, by simp⟩⟩
theorem pre_cut {l m t : List Int} (h : t <+: l ++ m) : (t <+: l ∧ t.length < l.length) ∨ (l <+: t ∧ t.drop l.length <+: m) := by
  obtain ⟨r, hr⟩ := h
  rcases List.append_eq_append_iff.1 hr with ⟨a, h1, h2⟩ | ⟨a, h1, h2⟩
  · by_cases ha : a = []
    · subst ha; refine .inr ⟨⟨[], by simpa using h1⟩, ?_⟩
      rw [show t.drop l.length = [] by rw [List.drop_eq_nil_of_le]; simp [h1]]; exact List.nil_prefix
    · refine .inl ⟨⟨a, h1.symm⟩, ?_⟩
      rw [h1, List.length_append]
      have : 0 < a.length := List.length_pos_iff.2 ha
      omega
  · refine .inr ⟨⟨a, h1.symm⟩, ?_⟩
    rw [h1, List.drop_left]; exact ⟨r, h2.symm⟩
theorem Rdr.map {R : Nat → α × Nat × Int} {l : List Int} {x : α} (g : α → β) (h : Rdr bs R l x) : Rdr bs (fun p => (g (R p).1, (R p).2)) l (g x) := fun p hp =>
  ⟨fun k => by simp only [(h p hp).1 k], fun k hk => (h p hp).2 k hk⟩
theorem Rdr.ret (x : α) : Rdr bs (fun p => (x, p, 0)) [] x := fun _ _ => ⟨fun _ => rfl, fun _ h => absurd h (Nat.not_lt_zero _)⟩
theorem Rdr.left {R1 : Nat → Int × Nat × Int} {R2 : Int → Nat → Int → β × Nat × Int} {l1 l2 : List Int} {x1 : Int} {x2 : β} (h1 : Rdr bs R1 l1 x1) (h2 : Rdr bs (fun p => R2 x1 p 0) l2 x2) (hs : ∀ v p e, e ≠ 0 → (R2 v p e).2.2 = e) (hn : x1 ≤ l2.length) :
    Rdr bs (fun p => R2 (rLeft bs (R1 p)).1 (rLeft bs (R1 p)).2.1 (rLeft bs (R1 p)).2.2) (l1 ++ l2) x2 := fun p hp => by
  refine ⟨fun h => ?_, fun h hlt => ?_⟩
  · obtain ⟨a, b⟩ := pre_split h
    have hl := a.length_le
    have hl2 := b.length_le
    rw [List.drop_drop] at b hl2
    rw [List.length_drop] at hl hl2
    simp only [(h1 p hp).1 a]
    have : rLeft bs (x1, p + l1.length, 0) = (x1, p + l1.length, 0) := by rw [rLeft, if_neg (by simp only; omega)]
    simp only [this]
    have h9 := (h2 (p + l1.length) (by omega)).1 b
    simp only at h9
    rw [h9, List.length_append, Nat.add_assoc]
  · rcases pre_cut h with ⟨a, b⟩ | ⟨a, b⟩
    · rw [List.length_drop] at b
      have h3 := (h1 p hp).2 a b
      have h4 : (rLeft bs (R1 p)).2.2 = 12 := by
        rw [rLeft]; split
        · simp [h3, fl]
        · exact h3
      rw [hs _ _ _ (by rw [h4]; decide), h4]
    · have hl := a.length_le
      rw [List.length_drop] at hl
      rw [List.drop_drop] at b
      simp only [(h1 p hp).1 a]
      rw [List.length_append] at hlt
      by_cases hc : (bs.length : Int) - ((p + l1.length : Nat) : Int) < x1
      · have : rLeft bs (x1, p + l1.length, 0) = (0, p + l1.length, 12) := by rw [rLeft, if_pos hc]; rfl
        simp only [this]; exact hs _ _ _ (by decide)
      · have : rLeft bs (x1, p + l1.length, 0) = (x1, p + l1.length, 0) := by rw [rLeft, if_neg hc]
        simp only [this]
        exact (h2 (p + l1.length) (by omega)).2 b (by omega)
theorem varint_pos (u : Nat) : 1 ≤ (varint u).length := by
  by_cases h : u < 128
  · rw [varint_lt h]; simp
  · rw [varint_ge h]; simp
end
end Go.V
/-! ## As -/
namespace Go.V
open Go Go.RowKit
structure AnS where
  x : AnM
  ab : Option Addr
  ae : Option Addr
  ac : Option Addr
  ak : Option Addr
  cb : Nat
  ce : Nat
  cc : Nat
  ck : Nat
def anC (z : AnS) : List Value := [.int .i64 z.x.err, .int .u64 z.x.handle, .int .i64 z.x.value, .bool z.x.found, .int .i64 z.x.n, .int .i64 z.x.ekey, .int .i64 z.x.eval, .int .i64 z.x.count, .int .i64 z.x.sum, .int .i64 z.x.mn, .int .i64 z.x.mx, .slice z.ae (en2 z.x.ents).length z.ce, .slice z.ac (ch4 z.x.chs).length z.cc, .slice z.ak (i64s z.x.keys).length z.ck, .slice z.ab (by8 z.x.bytes).length z.cb]
def anS (l : List AnS) : List (List Value) := l.map anC
@[simp] theorem anS_len (l : List AnS) : (anS l).length = l.length := by simp [anS]
theorem eAn_len2 {x : AnM} (h : AnW x) : 2 ≤ (eAn x).length ∧ (eAn x).length ≤ 10000 := by
  have h0 := h.le; have h0' := h.lc; have h0'' := h.lk; have h0''' := h.lb
  have h1 := eU_len (u := x.err % 18446744073709551616) (by omega)
  have h2 := eU_len h.handle.2
  have h3 := eZ_len h.value
  have h5 := eZ_len h.n
  have h6 := eZ_len h.ekey
  have h7 := eZ_len h.eval
  have h8 := eZ_len h.count
  have h9 := eZ_len h.sum
  have h10 := eZ_len h.mn
  have h11 := eZ_len h.mx
  have h12 := eEnts_len h.ents (by omega)
  have h13 := eChs_len h.chs (by omega)
  have h14 := eU_len (u := (x.keys.length : Int)) (by omega)
  have h15 := eKeys_len h.keys
  have h16 := eBytes_len (l := x.bytes) (by omega)
  have h4 : (eF x.found).length = 1 := by simp [eF]
  have h17 : 1 ≤ (eU x.handle).length := varint_pos _
  unfold eAn
  simp only [List.length_append]
  omega
structure AnOk (x : AnM) : Prop where
  t : AnT x
  w : AnW x
  e : 0 ≤ x.err ∧ x.err ≤ 255
  c : x.chs = []
theorem AnOk.chs {x : AnM} (h : AnOk x) : ∀ c ∈ x.chs, 0 ≤ c.1 ∧ c.1 ≤ 255 := by rw [h.c]; exact fun _ h => by cases h
end Go.V
/-! ## Sc5 -/
namespace Go.Proofs.YtaceaiifbiiagaaGreatDoor
open Go Go.V Go.RowKit
set_option maxRecDepth 8192 in
theorem appA0 {g w : World} {L : List HP} (x : AnM) (ab ae ac ak : Option Addr) (cb ce cc ck : Nat) (hw : AnW x) (hS : St g (Sh 5 1 (by8 x.bytes) ab cb :: Sh 39 2 (en2 x.ents) ae ce :: Sh 121 4 (ch4 x.chs) ac cc :: Sh 2 1 (i64s x.keys) ak ck :: L) w) :
    Sp Tryz.prog 40 [.slice none 0 0, .agg #[.int .i64 x.err, .int .u64 x.handle, .int .i64 x.value, .bool x.found, .int .i64 x.n, .int .i64 x.ekey, .int .i64 x.eval, .int .i64 x.count, .int .i64 x.sum, .int .i64 x.mn, .int .i64 x.mx, .slice ae (List.length (en2 x.ents)) ce, .slice ac (List.length (ch4 x.chs)) cc, .slice ak (List.length (i64s x.keys)) ck, .slice ab (List.length (by8 x.bytes)) cb]] w (fun v w' => ∃ (a2 : Option Addr) (c2 : Nat), v = .slice a2 (List.length (by8 (eAn x))) c2 ∧ St g (Own 5 1 (by8 (eAn x)) a2 c2 :: Sh 5 1 (by8 x.bytes) ab cb :: Sh 39 2 (en2 x.ents) ae ce :: Sh 121 4 (ch4 x.chs) ac cc :: Sh 2 1 (i64s x.keys) ak ck :: L) w') := by
  refine (appendAnswer_spec [] none 0 x ab ae ac ak cb ce cc ck (by decide) hw (hS.nilS 5 1)).mono fun v w' h => ?_
  obtain ⟨a2, c2, h1, h2⟩ := h
  exact ⟨a2, c2, h1, h2.sel 6 [0, 1, 1, 1, 1] rfl⟩
end Go.Proofs.YtaceaiifbiiagaaGreatDoor
/-! ## Sc4 -/
namespace Go.Proofs.YtaceaiifbiiagaaGreatDoor
open Go Go.V Go.RowKit Go.Maps
def ansH (h : Int) : AnM := { an0 with handle := h }
theorem ansH_w {h : Int} (hh : 0 ≤ h ∧ h ≤ 18446744073709551615) : AnW (ansH h) := by
  constructor <;> first | exact hh | exact Nat.zero_le _ | (intro _ h; cases h) | (show I64 0; unfold I64; omega)
theorem newH_new {n : Nat} (hn : 1 ≤ n) : (VM.new n).T.newH = 4294967297 := by
  obtain ⟨m, rfl⟩ : ∃ m, n = m + 1 := ⟨n - 1, by omega⟩
  rfl
end Go.Proofs.YtaceaiifbiiagaaGreatDoor
/-! ## Sla -/
namespace Go.V
open Go Go.RowKit
section
variable {P : Program} {T : Tab} [hT : TabOk P T] {n : Nat} {os l : List Oper} {K : Kt} {F : Fm} {w g : World} {L : List HP} {t e : TypeId} {m b : Nat}
theorem St.celShare {ls : List (List Value)} {cur : Array Value} {size : Nat} (h : St g (cel b cur t :: L) w) (hcur : cur = ls.flatten.toArray) (ho : OkE size ls) : St g (Sh e size ls (some ⟨b, 0, none⟩) ls.length :: L) w := by
  obtain ⟨o, r, hd, ho', hr, hg, o1, o2, h1, h2, hd12, q, hL⟩ := h.own
  have d2r : Dj o2 r := hd.sub h2 (Sub.refl _)
  have d1r : Dj o1 r := hd.sub h1 (Sub.refl _)
  refine ⟨h.os, h.tape, h.output, h.size, o2, join r o1, (d2r.symm.join hd12).symm, h2.w ho', join_w hr (h1.w ho'), fun k hk => ?_, fun _ => none, o2, fun _ _ h => (by cases h), Sub.refl _, fun _ => .inl rfl, ?_, All.mono L (Sub.refl _) (join_l _ _) hL⟩
  · have := hg k hk
    rw [Array.getElem?_eq_getElem hk] at this ⊢
    exact join_l r o1 k _ this
  · refine ⟨ho, Nat.le_refl _, fun _ => ⟨b, 0, cur, t, (0, 0), rfl, join_r d1r.symm b _ q, fun j u hu => ?_⟩⟩
    rw [hcur]; simpa using hu
theorem WL.slA {o : Oper} {x : Operand} (xs : List Int) (hg : o.guard = none) (ho : o.op = .slice t x none none none) (hE : ArP P t m e) (hx : ev F x = .pointer (some ⟨b, 0, none⟩)) (hm : xs.length = m)
    (hk : WL P n os l K (updo F o.dst (.slice (some ⟨b, 0, none⟩) (by8 xs).length (by8 xs).length)) w) : WL P n os (o :: l) K F w := by
  refine WL.val hg (fun hok => ?_) hk
  have e1 := okX_at (F := F) hok (x := x) (by simp [ho, Op.operands])
  subst hm
  simp only [execOp, ho, e1, hx, Option.map_none, Instr.sliceAt, Instr.sureAddr, Instr.sliceBounds, Sem.run_bind, Sem.run_pure, Result.andThen_ok, run_underlying hE.und, run_sizeOf w hE.one, by8_len]
  simp
  intro _; rfl
theorem RQ.slA {o : Oper} {x : Operand} (xs : List Int) (hg : o.guard = none) (ho : o.op = .slice t x none none none) (hE : ArP P t m e) (hx : ev F x = .pointer (some ⟨b, 0, none⟩)) (hm : xs.length = m)
    {d : Nat} (hd : o.dst = some d) (hfd : F d = .slice (some ⟨b, 0, none⟩) (by8 xs).length (by8 xs).length) : RQ P n os w F o := by
  refine RQ.val hg (fun hok mm => ?_) hd hfd
  generalize hw0 : w.drewN mm = w0
  clear hw0
  have e1 := okX_at (F := F) hok (x := x) (by simp [ho, Op.operands])
  subst hm
  simp only [execOp, ho, e1, hx, Option.map_none, Instr.sliceAt, Instr.sureAddr, Instr.sliceBounds, Sem.run_bind, Sem.run_pure, Result.andThen_ok, run_underlying hE.und, run_sizeOf w0 hE.one, by8_len]
  simp
  intro _; rfl
theorem WQ.slA {K : Fm → Prop} {o : Oper} {x : Operand} (xs : List Int) (hg : o.guard = none) (ho : o.op = .slice t x none none none) (hE : ArP P t m e) (hx : ev F x = .pointer (some ⟨b, 0, none⟩)) (hm : xs.length = m)
    (hk : WQ P n os l w K (updo F o.dst (.slice (some ⟨b, 0, none⟩) (by8 xs).length (by8 xs).length))) : WQ P n os (o :: l) w K F := by
  refine WQ.val hg (fun hok mm => ?_) hk
  generalize hw0 : w.drewN mm = w0
  clear hw0
  have e1 := okX_at (F := F) hok (x := x) (by simp [ho, Op.operands])
  subst hm
  simp only [execOp, ho, e1, hx, Option.map_none, Instr.sliceAt, Instr.sureAddr, Instr.sliceBounds, Sem.run_bind, Sem.run_pure, Result.andThen_ok, run_underlying hE.und, run_sizeOf w0 hE.one, by8_len]
  simp
  intro _; rfl
end
end Go.V
