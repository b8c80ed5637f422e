/-
  The reference's history: Fault, Add, Release, Ancestors, Base.
  Conditions: parents are smaller.
-/
import Derived.Test.YtjoilgpleaemcaaHw
import Derived.Test.YtjoilgpleaemcaaHq
namespace Go.Proofs.Ytjoilgpleaemcaa
open Go Go.V

theorem okPs_two {ps : List Int} {x y : Int} (h0 : ps[0]? = some x) (h1 : ps[1]? = some y) (hl : ps.length = 2) : ¬ okPs ps ↔ x = y := by
  match ps, hl, h0, h1 with
  | [u, v], _, h0, h1 =>
    simp at h0 h1; subst h0; subst h1
    constructor
    · intro h
      exact Decidable.by_contra fun hne => h ⟨by simp, fun a b e => by cases e; exact hne⟩
    · rintro rfl h; exact h.2 _ _ rfl rfl
theorem okPs_long {ps : List Int} (h : 2 < ps.length) : ¬ okPs ps := fun k => by have := k.1; omega
theorem okPs_short {ps : List Int} (h : ¬ 2 < ps.length) (h2 : ¬ ps.length = 2) : okPs ps := ⟨by omega, fun x y e => by subst e; simp at h2⟩
theorem fault_1 {P : List PR} {B : List Bool} {cap : Int} {ps : List Int} (h : ¬ okPs ps) : faultR P B cap ps = 1 := if_pos h
theorem fault_4 {P : List PR} {B : List Bool} {cap : Int} {ps : List Int} {z : Int} (h : okPs ps) (hz : z ∈ ps) (hl : liveR B z = false) : faultR P B cap ps = 4 := by
  unfold faultR
  rw [if_neg (fun k => k h), if_pos (fun k => by rw [k z hz] at hl; cases hl)]
theorem fault_2 {P : List PR} {B : List Bool} {cap : Int} {ps : List Int} (h : okPs ps) (hl : ∀ z ∈ ps, liveR B z = true) (hc : cap ≤ (numL (pres P B)).length) : faultR P B cap ps = 2 := by
  unfold faultR
  rw [if_neg (fun k => k h), if_neg (fun k => k hl), if_pos hc]
theorem fault_0 {P : List PR} {B : List Bool} {cap : Int} {ps : List Int} (h : okPs ps) (hl : ∀ z ∈ ps, liveR B z = true) (hc : ¬ cap ≤ (numL (pres P B)).length) : faultR P B cap ps = 0 := by
  unfold faultR
  rw [if_neg (fun k => k h), if_neg (fun k => k hl), if_neg hc]
theorem anc_step {l m bs : List Bool} {k : Nat} {x y w : Bool} (hA : ∀ (j : Nat) (x y z : Bool), l[j]? = some x → m[j]? = some y → bs[j]? = some z → z = if j < k then (x && y) else x) (hx : bs[k]? = some x) (hy : m[k]? = some y) (hw : w = (x && y)) : ∀ (j : Nat) (x y z : Bool), l[j]? = some x → m[j]? = some y → (bs.set k w)[j]? = some z → z = if j < k + 1 then (x && y) else x := fun j x' y' z h1 h2 h3 => by
  rw [List.getElem?_set] at h3
  split at h3
  · rename_i he
    subst he
    split at h3
    · cases h3
      rw [hy] at h2; cases h2
      have h9 := hA k x' y x h1 hy hx
      rw [if_neg (by omega)] at h9
      rw [if_pos (by omega), hw, h9]
    · cases h3
  · have h9 := hA j x' y' z h1 h2 h3
    rw [h9]
    by_cases hj : j < k
    · rw [if_pos hj, if_pos (by omega)]
    · rw [if_neg hj, if_neg (by omega)]
theorem fault_spec {g w : World} {L : List HP} (cap : Int) (P : List PR) (a : Option Addr) (c : Nat) (B : List Bool) (b : Option Addr) (d : Nat) (ps : List Int) (e : Option Addr) (f : Nat) (hP : POk P) (hl : P.length ≤ 1000) (hB : B.length = P.length) (hpl : ps.length ≤ 1000) (hS : St g (Sh 28 1 (enP P) a c :: Shs prF P :: Sh 4 1 (bos B) b d :: Sh 3 1 (i64s ps) e f :: L) w) :
    Sp Try.prog 37 [.agg #[.int .i64 cap, .slice a (List.length (enP P)) c, .slice b (List.length (bos B)) d], .slice e (List.length (i64s ps)) f] w (fun v w' => v = .int .i64 (faultR P B cap ps) ∧ St g (Sh 28 1 (enP P) a c :: Shs prF P :: Sh 4 1 (bos B) b d :: Sh 3 1 (i64s ps) e f :: L) w') := by
  refine Sp.enter Try.func37 rfl (by kernel_rfl) (by kernel_rfl) ?_
  have _ := hpl
  have _ := hB
  have _ := hl
  have _ := hP
  refine WC.seq ?_
  refine WC.region ?_
  have hpi := i64s_len ps; have hnl := (numL_all (pres P B)).2.1; have hpr := pres_len P B; have hil := i64s_len (numL (pres P B))
  refine WL.box rfl rfl #[.int .i64 cap, .slice a (List.length (enP P)) c, .slice b (List.length (bos B)) d] hS rfl rfl (fun b1 w hS => ?_)
  refine WL.r 1 rfl ?_
  refine WL.nil ?_
  refine WC.seq ?_
  refine WC.seq ?_
  refine WC.cut [1, 2, 4, 22] (fun vs w => ∃ (t22 : Bool), vs = [.slice e (List.length (i64s ps)) f, .pointer (some ⟨b1, 0, none⟩), .int .i64 0, .bool t22] ∧ St g (cel b1 #[.int .i64 cap, .slice a (List.length (enP P)) c, .slice b (List.length (bos B)) d] 49 :: Sh 28 1 (enP P) a c :: Shs prF P :: Sh 4 1 (bos B) b d :: Sh 3 1 (i64s ps) e f :: L) w ∧ (t22 = true ↔ ¬ okPs ps)) ?_ ?_
  · refine WC.plan [([0, 1, 2, 3, 4, 5, 6, 7, 8, 11, 9, 12, 10, 13, 14, 15, 16], none)] (by kernel_rfl) (by kernel_rfl) ?_
    refine WQ.r 4 rfl ?_
    by_cases cg1 : 2 < (List.length (i64s ps) : Int)
    · refine WQ.reb 9 (.bool true) (congrArg Value.bool (decide_eq_true cg1)) ?_
      refine WQ.skp rfl rfl rfl rfl ?_
      refine WQ.skp rfl rfl rfl rfl ?_
      refine WQ.skp rfl rfl rfl rfl ?_
      refine WQ.skp rfl rfl rfl rfl ?_
      refine WQ.skU rfl rfl rfl ?_
      refine WQ.skU rfl rfl rfl ?_
      refine WQ.skU rfl rfl rfl ?_
      refine WQ.skU rfl rfl rfl ?_
      refine WQ.skU rfl rfl rfl ?_
      refine WQ.skU rfl rfl rfl ?_
      refine WQ.skU rfl rfl rfl ?_
      refine WQ.skp rfl rfl rfl rfl ?_
      refine WQ.r 1 rfl ?_
      refine WQ.nil ?_
      intro m1
      replace hS := hS.drewN m1; generalize hwm1 : World.drewN _ _ = w at *; clear hwm1
      exact ⟨true, rfl, hS, (⟨fun _ => okPs_long (by omega), fun _ => rfl⟩)⟩
    · refine WQ.reb 9 (.bool false) (congrArg Value.bool (decide_eq_false cg1)) ?_
      refine WQ.ung rfl rfl rfl ?_
      refine WQ.r 1 rfl ?_
      refine WQ.ung rfl rfl rfl ?_
      refine WQ.r 1 rfl ?_
      refine WQ.ung rfl rfl rfl ?_
      refine WQ.r 1 rfl ?_
      refine WQ.ung rfl rfl rfl ?_
      refine WQ.r 1 rfl ?_
      by_cases cg2 : (List.length (i64s ps) : Int) = 2
      · refine WQ.reb 13 (.bool true) (congrArg Value.bool (decide_eq_true cg2)) ?_
        refine WQ.ung rfl rfl rfl ?_
        refine WQ.r 1 rfl ?_
        refine WQ.ung rfl rfl rfl ?_
        refine WQ.r 1 rfl ?_
        refine WQ.ung rfl rfl rfl ?_
        obtain ⟨p0, h0⟩ : ∃ u, ps[0]? = some u := ⟨_, List.getElem?_eq_getElem (by omega)⟩; obtain ⟨p1, h1⟩ : ∃ u, ps[1]? = some u := ⟨_, List.getElem?_eq_getElem (by omega)⟩
        refine WQ.ix rfl rfl (i := 0) (0) el_28 rfl rfl (by omega) (by omega) (hS.rdS 4 rfl (i64s_at h0)).1 ?_
        refine WQ.ung rfl rfl rfl ?_
        refine WQ.ix rfl rfl (i := 1) (1) el_28 rfl rfl (by omega) (by omega) (hS.rdS 4 rfl (i64s_at h1)).1 ?_
        refine WQ.ung rfl rfl rfl ?_
        refine WQ.run 1 [.int .i64 p0] rfl (by exact (hS.rdS 4 rfl (i64s_at h0)).2 0 _ rfl) ?_
        refine WQ.ung rfl rfl rfl ?_
        refine WQ.run 1 [.int .i64 p1] rfl (by exact (hS.rdS 4 rfl (i64s_at h1)).2 0 _ rfl) ?_
        refine WQ.ung rfl rfl rfl ?_
        refine WQ.r 1 rfl ?_
        refine WQ.ung rfl rfl rfl ?_
        refine WQ.r 2 rfl ?_
        refine WQ.nil ?_
        intro m1
        replace hS := hS.drewN m1; generalize hwm1 : World.drewN _ _ = w at *; clear hwm1
        exact ⟨decide (p0 = p1), rfl, hS, (by rw [okPs_two h0 h1 (by omega), decide_eq_true_eq])⟩
      · refine WQ.reb 13 (.bool false) (congrArg Value.bool (decide_eq_false cg2)) ?_
        refine WQ.skp rfl rfl rfl rfl ?_
        refine WQ.skp rfl rfl rfl rfl ?_
        refine WQ.skp rfl rfl rfl rfl ?_
        refine WQ.skp rfl rfl rfl rfl ?_
        refine WQ.skp rfl rfl rfl rfl ?_
        refine WQ.skp rfl rfl rfl rfl ?_
        refine WQ.skp rfl rfl rfl rfl ?_
        refine WQ.ung rfl rfl rfl ?_
        refine WQ.r 2 rfl ?_
        refine WQ.nil ?_
        intro m1
        replace hS := hS.drewN m1; generalize hwm1 : World.drewN _ _ = w at *; clear hwm1
        exact ⟨false, rfl, hS, (⟨fun h => (by cases h), fun h => absurd (okPs_short (by omega) (by omega)) h⟩)⟩
  clear hS; rintro _ w j ⟨t22, rfl, hS, h22⟩
  refine WC.if_ rfl (fun cd1 => ?_) (fun cd1 => ?_)
  · refine WC.seq ?_
    refine WC.region ?_
    refine WL.r 1 rfl ?_
    refine WL.nil ?_
    refine WC.ret ?_
    refine ⟨[.int .i64 1], rfl, ?_⟩
    replace hS := (hS.sel 1 [] rfl)
    exact ⟨congrArg (Value.int .i64) (fault_1 (h22.1 cd1)).symm, hS⟩
  · refine WC.skip ?_
    refine WC.seq ?_
    refine WC.seq ?_
    refine WC.region ?_
    have hok : okPs ps := Classical.not_not.1 (fun h => by rw [h22.2 h] at cd1; cases cd1)
    refine WL.r 1 rfl ?_
    refine WL.nil ?_
    refine WC.block ?_
    refine WC.loop [1, 2, 5] (fun kM vs w => ∃ (k : Nat), vs = [.slice e (List.length (i64s ps)) f, .pointer (some ⟨b1, 0, none⟩), .int .i64 (k : Int)] ∧ St g (cel b1 #[.int .i64 cap, .slice a (List.length (enP P)) c, .slice b (List.length (bos B)) d] 49 :: Sh 28 1 (enP P) a c :: Shs prF P :: Sh 4 1 (bos B) b d :: Sh 3 1 (i64s ps) e f :: L) w ∧ (k ≤ ps.length) ∧ (∀ z ∈ ps.take k, liveR B z = true) ∧ (ps.length - k) = kM) ((List.length ps) - 0) ⟨0, rfl, hS, (Nat.zero_le _), (by simp), rfl⟩ ?_
    clear hS; rintro _ _ w j ⟨k, rfl, hS, hk, hlv, rfl⟩
    refine WC.seq ?_
    refine WC.seq ?_
    refine WC.region ?_
    have hok : okPs ps := Classical.not_not.1 (fun h => by rw [h22.2 h] at cd1; cases cd1)
    refine WL.r 4 rfl ?_
    refine WL.nil ?_
    as_aux_lemma =>
      refine WC.ifP rfl (fun cd2 => ?_) (fun cd2 => ?_)
      · refine WC.skip ?_
        refine WC.seq ?_
        refine WC.block ?_
        refine WC.seq ?_
        refine WC.plan [([0, 1, 2, 3, 4], some (5, [])), ([6], none)] (by kernel_rfl) (by kernel_rfl) ?_
        refine WQ.ldF rfl rfl 0 hS rfl rfl ag_49 ?_
        refine WQ.r 2 rfl ?_
        obtain ⟨z, hz⟩ : ∃ u, ps[k]? = some u := ⟨_, List.getElem?_eq_getElem (by omega)⟩
        refine WQ.ix rfl rfl (i := (k : Int)) (k) el_28 rfl rfl (by omega) (by omega) (hS.rdS 4 rfl (i64s_at hz)).1 ?_
        refine WQ.run 1 [.int .i64 z] rfl (by exact (hS.rdS 4 rfl (i64s_at hz)).2 0 _ rfl) ?_
        refine WQ.nil ?_
        intro m1
        replace hS := hS.drewN m1; generalize hwm1 : World.drewN _ _ = w at *; clear hwm1
        refine WL.call rfl rfl (rlive_spec (cap := cap) (P := P) (a := a) (c := c) (B := B) (b := b) (d := d) (n := z) (hB := (by omega)) (hS := (hS.sel 4 [3, 0, 0, 0] rfl))) rfl ?_
        clear hS; rintro _ w ⟨rfl, hS⟩
        replace hS : St g (Sh 4 1 (bos B) b d :: cel b1 #[.int .i64 cap, .slice a (List.length (enP P)) c, .slice b (List.length (bos B)) d] 49 :: Sh 28 1 (enP P) a c :: Shs prF P :: Sh 3 1 (i64s ps) e f :: L) w := hS
        refine WL.nil ?_
        refine ⟨by exact trivial, ?_⟩
        refine WQ.r 1 rfl ?_
        refine WQ.nil ?_
        intro m2
        replace hS := hS.drewN m2; generalize hwm2 : World.drewN _ _ = w at *; clear hwm2
        refine WC.if_ rfl (fun cd3 => ?_) (fun cd3 => ?_)
        · refine WC.seq ?_
          refine WC.region ?_
          refine WL.r 1 rfl ?_
          refine WL.nil ?_
          as_aux_lemma =>
            refine WC.ret ?_
            refine ⟨[.int .i64 4], rfl, ?_⟩
            replace hS := (hS.sel 4 [2, 2, 0] rfl)
            exact ⟨congrArg (Value.int .i64) (fault_4 hok (List.mem_of_getElem? hz) (by simpa using cd3)).symm, hS⟩
        · refine WC.skip ?_
          as_aux_lemma =>
            refine WC.region ?_
            refine WL.r 2 rfl ?_
            refine WL.nw 28 rfl (w64 (by omega)) ?_
            refine WL.r 1 rfl ?_
            refine WL.nil ?_
            exact ⟨_, by omega, k + 1, rfl, (hS.sel 4 [1, 1, 1, 0] rfl), (by omega), (fun x hx => by
              rw [List.take_add_one, hz] at hx
              rcases List.mem_append.1 hx with hx | hx
              · exact hlv x hx
              · simp at hx; subst hx; simpa using cd3), rfl⟩
      · refine WC.exit ?_
        refine WC.seq ?_
        refine WC.seq ?_
        refine WC.plan [([3, 4], some (0, [3, 4])), ([], some (1, [3, 4])), ([2, 5], none)] (by kernel_rfl) (by kernel_rfl) ?_
        refine WQ.run 2 [.int .i64 cap] rfl (by exact hS.ld 0 rfl rfl) ?_
        refine WQ.nil ?_
        intro m1
        replace hS := hS.drewN m1; generalize hwm1 : World.drewN _ _ = w at *; clear hwm1
        refine WL.ldF rfl rfl 0 hS rfl rfl ag_49 ?_
        refine WL.nil ?_
        refine ⟨by exact ⟨RQ.pure rfl rfl rfl rfl, RQ.load rfl rfl rfl rfl (hS.ld 0 rfl rfl)⟩, ?_⟩
        refine WQ.nil ?_
        intro m2
        replace hS := hS.drewN m2; generalize hwm2 : World.drewN _ _ = w at *; clear hwm2
        refine WL.call rfl rfl (rvers_spec (cap := cap) (P := P) (a := a) (c := c) (B := B) (b := b) (d := d) (hP := (by assumption)) (hl := (by omega)) (hB := (by assumption)) (hS := (hS.sel 4 [1, 1, 1, 0] rfl))) rfl ?_
        clear hS; rintro _ w ⟨a1, c1, rfl, hS⟩
        replace hS : St g (Own 3 1 (i64s (numL (pres P B))) a1 c1 :: Sh 28 1 (enP P) a c :: Shs prF P :: Sh 4 1 (bos B) b d :: cel b1 #[.int .i64 cap, .slice a (List.length (enP P)) c, .slice b (List.length (bos B)) d] 49 :: Sh 3 1 (i64s ps) e f :: L) w := hS
        refine WL.nil ?_
        refine ⟨by exact ⟨RQ.pure rfl rfl rfl rfl, RQ.load rfl rfl rfl rfl (hS.ld 4 rfl rfl)⟩, ?_⟩
        refine WQ.r 2 rfl ?_
        refine WQ.nil ?_
        intro m3
        replace hS := hS.drewN m3; generalize hwm3 : World.drewN _ _ = w at *; clear hwm3
        refine WC.ifP rfl (fun cd3 => ?_) (fun cd3 => ?_)
        · refine WC.seq ?_
          refine WC.region ?_
          refine WL.r 1 rfl ?_
          refine WL.nil ?_
          as_aux_lemma =>
            refine WC.ret ?_
            refine ⟨[.int .i64 2], rfl, ?_⟩
            replace hS := (hS.sel 5 [1, 1, 1] rfl)
            exact ⟨congrArg (Value.int .i64) (fault_2 hok (by rw [List.take_of_length_le (by omega)] at hlv; exact hlv) (by omega)).symm, hS⟩
        · refine WC.skip ?_
          as_aux_lemma =>
            refine WC.seq ?_
            refine WC.region ?_
            refine WL.r 1 rfl ?_
            refine WL.nil ?_
            refine WC.ret ?_
            refine ⟨[.int .i64 0], rfl, ?_⟩
            replace hS := (hS.sel 5 [1, 1, 1] rfl)
            exact ⟨congrArg (Value.int .i64) (fault_0 hok (by rw [List.take_of_length_le (by omega)] at hlv; exact hlv) (by omega)).symm, hS⟩
theorem radd_bad {g w : World} {L : List HP} (cap : Int) (P : List PR) (a : Option Addr) (c : Nat) (B : List Bool) (b : Option Addr) (d : Nat) (ps : List Int) (e : Option Addr) (f : Nat) (hP : POk P) (hl : P.length ≤ 1000) (hB : B.length = P.length) (hpl : ps.length ≤ 1000) (h0 : faultR P B cap ps ≠ 0) (hS : St g (Sh 28 1 (enP P) a c :: Shs prF P :: Sh 4 1 (bos B) b d :: Sh 3 1 (i64s ps) e f :: L) w) :
    Sp Try.prog 22 [.agg #[.int .i64 cap, .slice a (List.length (enP P)) c, .slice b (List.length (bos B)) d], .slice e (List.length (i64s ps)) f] w (fun v w' => v = .tuple #[.agg #[.int .i64 cap, .slice a (List.length (enP P)) c, .slice b (List.length (bos B)) d], .int .i64 0, .int .i64 (faultR P B cap ps)] ∧ St g (Sh 28 1 (enP P) a c :: Shs prF P :: Sh 4 1 (bos B) b d :: Sh 3 1 (i64s ps) e f :: L) w') := by
  refine Sp.enter Try.func22 rfl (by kernel_rfl) (by kernel_rfl) ?_
  have _ := hpl
  have _ := hB
  have _ := hl
  have _ := hP
  refine WC.seq ?_
  refine WC.region ?_
  refine WL.box rfl rfl #[.int .i64 cap, .slice a (List.length (enP P)) c, .slice b (List.length (bos B)) d] hS rfl rfl (fun b1 w hS => ?_)
  refine WL.new rfl rfl zv_49 hS (fun b2 w hS => ?_)
  refine WL.r 2 rfl ?_
  refine WL.nil ?_
  refine WC.seq ?_
  refine WC.seq ?_
  refine WC.region ?_
  refine WL.ldF rfl rfl 1 hS rfl rfl ag_49 ?_
  refine WL.r 1 rfl ?_
  refine WL.call rfl rfl (fault_spec (cap := cap) (P := P) (a := a) (c := c) (B := B) (b := b) (d := d) (ps := ps) (e := e) (f := f) (hP := (by assumption)) (hl := (by omega)) (hB := (by assumption)) (hpl := (by omega)) (hS := (hS.sel 6 [2, 2, 2, 2, 0, 0] rfl))) rfl ?_
  clear hS; rintro _ w ⟨rfl, hS⟩
  replace hS : St g (Sh 28 1 (enP P) a c :: Shs prF P :: Sh 4 1 (bos B) b d :: Sh 3 1 (i64s ps) e f :: cel b2 #[.int .i64 0, .slice none 0 0, .slice none 0 0] 49 :: cel b1 #[.int .i64 cap, .slice a (List.length (enP P)) c, .slice b (List.length (bos B)) d] 49 :: L) w := hS
  refine WL.r 1 rfl ?_
  refine WL.nil ?_
  refine WC.seq ?_
  refine WC.region ?_
  refine WL.r 2 rfl ?_
  refine WL.nil ?_
  refine WC.ifT rfl (decide_eq_true (h0)) ?_
  refine WC.seq ?_
  refine WC.region ?_
  refine WL.ldF rfl rfl 5 hS rfl rfl ag_49 ?_
  refine WL.r 1 rfl ?_
  refine WL.stF rfl rfl rfl 4 hS rfl rfl rfl rfl rfl ag_49 (fun w hS => ?_)
  replace hS : St g (Sh 28 1 (enP P) a c :: Shs prF P :: Sh 4 1 (bos B) b d :: Sh 3 1 (i64s ps) e f :: cel b2 #[.int .i64 cap, .slice a (List.length (enP P)) c, .slice b (List.length (bos B)) d] 49 :: cel b1 #[.int .i64 cap, .slice a (List.length (enP P)) c, .slice b (List.length (bos B)) d] 49 :: L) w := hS
  refine WL.r 2 rfl ?_
  refine WL.nil ?_
  as_aux_lemma =>
    refine WC.ret ?_
    refine ⟨[.agg #[.int .i64 cap, .slice a (List.length (enP P)) c, .slice b (List.length (bos B)) d], .int .i64 0, .int .i64 (faultR P B cap ps)], ⟨⟨_, rfl, hS.lvF 4 rfl ag_49⟩, rfl, rfl⟩, ?_⟩
    replace hS := (hS.sel 6 [0, 0, 0, 0] rfl)
    exact ⟨rfl, hS⟩
theorem radd_ok {g w : World} {L : List HP} (cap : Int) (P : List PR) (a : Option Addr) (c : Nat) (B : List Bool) (b : Option Addr) (d : Nat) (ps : List Int) (e : Option Addr) (f : Nat) (hP : POk P) (hl : P.length ≤ 1000) (hB : B.length = P.length) (hpl : ps.length ≤ 1000) (h0 : faultR P B cap ps = 0) (hS : St g (Sh 28 1 (enP P) a c :: Shs prF P :: Sh 4 1 (bos B) b d :: Sh 3 1 (i64s ps) e f :: L) w) :
    Sp Try.prog 22 [.agg #[.int .i64 cap, .slice a (List.length (enP P)) c, .slice b (List.length (bos B)) d], .slice e (List.length (i64s ps)) f] w (fun v w' => ∃ (e2 : Option Addr) (f2 : Nat) (a2 : Option Addr) (c2 : Nat) (b2 : Option Addr) (d2 : Nat), v = .tuple #[.agg #[.int .i64 cap, .slice a2 (List.length (enP (P ++ [PR.mk ps e2 f2]))) c2, .slice b2 (List.length (bos (B ++ [true]))) d2], .int .i64 ((List.length P) + 1), .int .i64 0] ∧ St g (Sh 28 1 (enP (P ++ [PR.mk ps e2 f2])) a2 c2 :: Shs prF (P ++ [PR.mk ps e2 f2]) :: Sh 4 1 (bos (B ++ [true])) b2 d2 :: Sh 3 1 (i64s ps) e f :: L) w') := by
  refine Sp.enter Try.func22 rfl (by kernel_rfl) (by kernel_rfl) ?_
  have _ := hpl
  have _ := hB
  have _ := hl
  have _ := hP
  refine WC.seq ?_
  refine WC.region ?_
  refine WL.box rfl rfl #[.int .i64 cap, .slice a (List.length (enP P)) c, .slice b (List.length (bos B)) d] hS rfl rfl (fun b1 w hS => ?_)
  refine WL.new rfl rfl zv_49 hS (fun b2 w hS => ?_)
  refine WL.r 2 rfl ?_
  refine WL.nil ?_
  refine WC.seq ?_
  refine WC.seq ?_
  refine WC.region ?_
  refine WL.ldF rfl rfl 1 hS rfl rfl ag_49 ?_
  refine WL.r 1 rfl ?_
  refine WL.call rfl rfl (fault_spec (cap := cap) (P := P) (a := a) (c := c) (B := B) (b := b) (d := d) (ps := ps) (e := e) (f := f) (hP := (by assumption)) (hl := (by omega)) (hB := (by assumption)) (hpl := (by omega)) (hS := (hS.sel 6 [2, 2, 2, 2, 0, 0] rfl))) rfl ?_
  clear hS; rintro _ w ⟨rfl, hS⟩
  replace hS : St g (Sh 28 1 (enP P) a c :: Shs prF P :: Sh 4 1 (bos B) b d :: Sh 3 1 (i64s ps) e f :: cel b2 #[.int .i64 0, .slice none 0 0, .slice none 0 0] 49 :: cel b1 #[.int .i64 cap, .slice a (List.length (enP P)) c, .slice b (List.length (bos B)) d] 49 :: L) w := hS
  refine WL.r 1 rfl ?_
  refine WL.nil ?_
  refine WC.seq ?_
  refine WC.region ?_
  refine WL.r 2 rfl ?_
  refine WL.nil ?_
  refine WC.ifF rfl (decide_eq_false ((fun h => h h0))) ?_
  refine WC.skip ?_
  refine WC.seq ?_
  refine WC.region ?_
  have hel := enP_len P; have hpi := i64s_len ps; have hbl := bos_len B
  refine WL.run 2 [.slice a (List.length (enP P)) c] rfl (by exact hS.ld 5 rfl rfl) ?_
  replace hS := hS.nil_ 28 1
  refine WL.app rfl rfl 0 (enP P) el_46 hS rfl (hS.srcS 1 rfl) (List.nil_append _) (Rm.of (by first | omega | (simp <;> omega)) (by decide)) rfl rfl (fun a1 c1 w hS => ?_)
  replace hS : St g (Own 28 1 (enP P) a1 c1 :: Sh 28 1 (enP P) a c :: Shs prF P :: Sh 4 1 (bos B) b d :: Sh 3 1 (i64s ps) e f :: cel b2 #[.int .i64 0, .slice none 0 0, .slice none 0 0] 49 :: cel b1 #[.int .i64 cap, .slice a (List.length (enP P)) c, .slice b (List.length (bos B)) d] 49 :: L) w := hS
  refine WL.r 1 rfl ?_
  replace hS := hS.nil_ 3 1
  refine WL.app rfl rfl 0 (i64s ps) el_28 hS rfl (hS.srcS 5 rfl) (List.nil_append _) (Rm.of (by first | omega | (simp <;> omega)) (by decide)) rfl rfl (fun a2 c2 w hS => ?_)
  replace hS : St g (Own 3 1 (i64s ps) a2 c2 :: Own 28 1 (enP P) a1 c1 :: Sh 28 1 (enP P) a c :: Shs prF P :: Sh 4 1 (bos B) b d :: Sh 3 1 (i64s ps) e f :: cel b2 #[.int .i64 0, .slice none 0 0, .slice none 0 0] 49 :: cel b1 #[.int .i64 cap, .slice a (List.length (enP P)) c, .slice b (List.length (bos B)) d] 49 :: L) w := hS
  refine WL.lit rfl rfl (enP [PR.mk ps a2 c2]) el_46 hS (by exact ⟨rfl, rfl⟩) (enP_ok _) rfl (by decide) (fun b3 w hS => ?_)
  refine WL.app rfl rfl 2 (enP (P ++ [PR.mk ps a2 c2])) el_46 hS rfl (hS.srcO 0 rfl) (enP_app _ _).symm (Rm.of (by first | omega | (simp <;> omega)) (by decide)) rfl rfl (fun a3 c3 w hS => ?_)
  replace hS : St g (Own 28 1 (enP [PR.mk ps a2 c2]) (some ⟨b3, 0, none⟩) (List.length (enP [PR.mk ps a2 c2])) :: Own 3 1 (i64s ps) a2 c2 :: Own 28 1 (enP (P ++ [PR.mk ps a2 c2])) a3 c3 :: Sh 28 1 (enP P) a c :: Shs prF P :: Sh 4 1 (bos B) b d :: Sh 3 1 (i64s ps) e f :: cel b2 #[.int .i64 0, .slice none 0 0, .slice none 0 0] 49 :: cel b1 #[.int .i64 cap, .slice a (List.length (enP P)) c, .slice b (List.length (bos B)) d] 49 :: L) w := hS
  refine WL.r 1 rfl ?_
  refine WL.st rfl rfl rfl 8 hS rfl rfl rfl rfl rfl rfl (fun w hS => ?_)
  replace hS : St g (Own 28 1 (enP [PR.mk ps a2 c2]) (some ⟨b3, 0, none⟩) (List.length (enP [PR.mk ps a2 c2])) :: Own 3 1 (i64s ps) a2 c2 :: Own 28 1 (enP (P ++ [PR.mk ps a2 c2])) a3 c3 :: Sh 28 1 (enP P) a c :: Shs prF P :: Sh 4 1 (bos B) b d :: Sh 3 1 (i64s ps) e f :: cel b2 #[.int .i64 0, .slice none 0 0, .slice none 0 0] 49 :: cel b1 #[.int .i64 cap, .slice a3 (List.length (enP (P ++ [PR.mk ps a2 c2]))) c3, .slice b (List.length (bos B)) d] 49 :: L) w := hS
  refine WL.nil ?_
  as_aux_lemma =>
    refine WC.seq ?_
    refine WC.region ?_
    refine WL.run 2 [.slice b (List.length (bos B)) d] rfl (by exact hS.ld 8 rfl rfl) ?_
    replace hS := hS.nil_ 4 1
    refine WL.app rfl rfl 0 (bos B) el_47 hS rfl (hS.srcS 6 rfl) (List.nil_append _) (Rm.of (by first | omega | (simp <;> omega)) (by decide)) rfl rfl (fun a4 c4 w hS => ?_)
    replace hS : St g (Own 4 1 (bos B) a4 c4 :: Own 28 1 (enP [PR.mk ps a2 c2]) (some ⟨b3, 0, none⟩) (List.length (enP [PR.mk ps a2 c2])) :: Own 3 1 (i64s ps) a2 c2 :: Own 28 1 (enP (P ++ [PR.mk ps a2 c2])) a3 c3 :: Sh 28 1 (enP P) a c :: Shs prF P :: Sh 4 1 (bos B) b d :: Sh 3 1 (i64s ps) e f :: cel b2 #[.int .i64 0, .slice none 0 0, .slice none 0 0] 49 :: cel b1 #[.int .i64 cap, .slice a3 (List.length (enP (P ++ [PR.mk ps a2 c2]))) c3, .slice b (List.length (bos B)) d] 49 :: L) w := hS
    refine WL.lit rfl rfl (bos [true]) el_47 hS (by exact ⟨rfl, rfl⟩) (bos_ok _) rfl (by decide) (fun b4 w hS => ?_)
    refine WL.app rfl rfl 1 (bos (B ++ [true])) el_47 hS rfl (hS.srcO 0 rfl) (bos_app _ _).symm (Rm.of (by first | omega | (simp <;> omega)) (by decide)) rfl rfl (fun a5 c5 w hS => ?_)
    replace hS : St g (Own 4 1 (bos [true]) (some ⟨b4, 0, none⟩) (List.length (bos [true])) :: Own 4 1 (bos (B ++ [true])) a5 c5 :: Own 28 1 (enP [PR.mk ps a2 c2]) (some ⟨b3, 0, none⟩) (List.length (enP [PR.mk ps a2 c2])) :: Own 3 1 (i64s ps) a2 c2 :: Own 28 1 (enP (P ++ [PR.mk ps a2 c2])) a3 c3 :: Sh 28 1 (enP P) a c :: Shs prF P :: Sh 4 1 (bos B) b d :: Sh 3 1 (i64s ps) e f :: cel b2 #[.int .i64 0, .slice none 0 0, .slice none 0 0] 49 :: cel b1 #[.int .i64 cap, .slice a3 (List.length (enP (P ++ [PR.mk ps a2 c2]))) c3, .slice b (List.length (bos B)) d] 49 :: L) w := hS
    refine WL.r 1 rfl ?_
    refine WL.st rfl rfl rfl 10 hS rfl rfl rfl rfl rfl rfl (fun w hS => ?_)
    replace hS : St g (Own 4 1 (bos [true]) (some ⟨b4, 0, none⟩) (List.length (bos [true])) :: Own 4 1 (bos (B ++ [true])) a5 c5 :: Own 28 1 (enP [PR.mk ps a2 c2]) (some ⟨b3, 0, none⟩) (List.length (enP [PR.mk ps a2 c2])) :: Own 3 1 (i64s ps) a2 c2 :: Own 28 1 (enP (P ++ [PR.mk ps a2 c2])) a3 c3 :: Sh 28 1 (enP P) a c :: Shs prF P :: Sh 4 1 (bos B) b d :: Sh 3 1 (i64s ps) e f :: cel b2 #[.int .i64 0, .slice none 0 0, .slice none 0 0] 49 :: cel b1 #[.int .i64 cap, .slice a3 (List.length (enP (P ++ [PR.mk ps a2 c2]))) c3, .slice a5 (List.length (bos (B ++ [true]))) c5] 49 :: L) w := hS
    refine WL.nil ?_
    refine WC.seq ?_
    refine WC.plan [([1, 2, 3], some (0, [1, 2, 3])), ([], some (4, [1, 2, 3])), ([5, 6], none)] (by kernel_rfl) (by kernel_rfl) ?_
    replace hS := (St.shsSub (zs' := P ++ [PR.mk ps a2 c2]) (St.shsCons ((hS.sel 11 [3, 5, 3, 1, 4, 4, 4] rfl).share.sel 7 [1, 0, 0, 0, 0, 0, 0] rfl) (z := PR.mk ps a2 c2) (prF_sh _) [0] rfl) (fun z hz => snoc_mem hz)).sel 7 [2, 0, 1, 1, 1, 1] rfl
    replace hS := ((hS.share.at_ 2 rfl).share).sel 6 [1, 1, 0, 0, 0, 0] rfl
    replace hS : St g (Sh 28 1 (enP (P ++ [PR.mk ps a2 c2])) a3 c3 :: Shs prF (P ++ [PR.mk ps a2 c2]) :: Sh 4 1 (bos (B ++ [true])) a5 c5 :: Sh 3 1 (i64s ps) e f :: cel b2 #[.int .i64 0, .slice none 0 0, .slice none 0 0] 49 :: cel b1 #[.int .i64 cap, .slice a3 (List.length (enP (P ++ [PR.mk ps a2 c2]))) c3, .slice a5 (List.length (bos (B ++ [true]))) c5] 49 :: L) w := hS
    refine WQ.run 3 [.slice a3 (List.length (enP (P ++ [PR.mk ps a2 c2]))) c3] rfl (by exact hS.ld 5 rfl rfl) ?_
    refine WQ.nil ?_
    intro m1
    replace hS := hS.drewN m1; generalize hwm1 : World.drewN _ _ = w at *; clear hwm1
    refine WL.ldF rfl rfl 5 hS rfl rfl ag_49 ?_
    refine WL.nil ?_
    refine ⟨by exact ⟨RQ.pure rfl rfl rfl rfl, RQ.load rfl rfl rfl rfl (hS.ld 5 rfl rfl), RQ.pure rfl rfl rfl rfl⟩, ?_⟩
    refine WQ.nil ?_
    intro m2
    replace hS := hS.drewN m2; generalize hwm2 : World.drewN _ _ = w at *; clear hwm2
    refine WL.stF rfl rfl rfl 4 hS rfl rfl rfl rfl rfl ag_49 (fun w hS => ?_)
    replace hS : St g (Sh 28 1 (enP (P ++ [PR.mk ps a2 c2])) a3 c3 :: Shs prF (P ++ [PR.mk ps a2 c2]) :: Sh 4 1 (bos (B ++ [true])) a5 c5 :: Sh 3 1 (i64s ps) e f :: cel b2 #[.int .i64 cap, .slice a3 (List.length (enP (P ++ [PR.mk ps a2 c2]))) c3, .slice a5 (List.length (bos (B ++ [true]))) c5] 49 :: cel b1 #[.int .i64 cap, .slice a3 (List.length (enP (P ++ [PR.mk ps a2 c2]))) c3, .slice a5 (List.length (bos (B ++ [true]))) c5] 49 :: L) w := hS
    refine WL.nil ?_
    refine ⟨by exact ⟨RQ.pure rfl rfl rfl rfl, RQ.load rfl rfl rfl rfl (hS.ld 5 rfl rfl), RQ.pure rfl rfl rfl rfl⟩, ?_⟩
    refine WQ.r 2 rfl ?_
    refine WQ.nil ?_
    intro m3
    replace hS := hS.drewN m3; generalize hwm3 : World.drewN _ _ = w at *; clear hwm3
    as_aux_lemma =>
      refine WC.ret ?_
      refine ⟨[.agg #[.int .i64 cap, .slice a3 (List.length (enP (P ++ [PR.mk ps a2 c2]))) c3, .slice a5 (List.length (bos (B ++ [true]))) c5], .int .i64 (List.length (enP (P ++ [PR.mk ps a2 c2])) : Int), .int .i64 0], ⟨⟨_, rfl, hS.lvF 4 rfl ag_49⟩, rfl, rfl⟩, ?_⟩
      replace hS := (hS.sel 6 [0, 0, 0, 0] rfl)
      exact ⟨_, _, _, _, _, _, congrArg (fun m : Int => Value.tuple #[.agg #[.int .i64 cap, .slice a3 (enP (P ++ [PR.mk ps a2 c2])).length c3, .slice a5 (bos (B ++ [true])).length c5], .int .i64 m, .int .i64 0]) (by simp), hS⟩
theorem rrel_bad {g w : World} {L : List HP} (cap : Int) (P : List PR) (a : Option Addr) (c : Nat) (B : List Bool) (b : Option Addr) (d : Nat) (n : Int) (hB : B.length ≤ 1000) (h0 : liveR B n = false) (hS : St g (Sh 4 1 (bos B) b d :: L) w) :
    Sp Try.prog 21 [.agg #[.int .i64 cap, .slice a (List.length (enP P)) c, .slice b (List.length (bos B)) d], .int .i64 n] w (fun v w' => v = .tuple #[.agg #[.int .i64 cap, .slice a (List.length (enP P)) c, .slice b (List.length (bos B)) d], .int .i64 4] ∧ St g (Sh 4 1 (bos B) b d :: L) w') := by
  refine Sp.enter Try.func21 rfl (by kernel_rfl) (by kernel_rfl) ?_
  have _ := hB
  refine WC.seq ?_
  refine WC.region ?_
  refine WL.box rfl rfl #[.int .i64 cap, .slice a (List.length (enP P)) c, .slice b (List.length (bos B)) d] hS rfl rfl (fun b1 w hS => ?_)
  refine WL.new rfl rfl zv_49 hS (fun b2 w hS => ?_)
  refine WL.r 1 rfl ?_
  refine WL.nil ?_
  refine WC.seq ?_
  refine WC.seq ?_
  refine WC.region ?_
  refine WL.ldF rfl rfl 1 hS rfl rfl ag_49 ?_
  refine WL.r 1 rfl ?_
  refine WL.call rfl rfl (rlive_spec (cap := cap) (P := P) (a := a) (c := c) (B := B) (b := b) (d := d) (n := n) (hB := (by omega)) (hS := (hS.sel 3 [2, 0, 0] rfl))) rfl ?_
  clear hS; rintro _ w ⟨rfl, hS⟩
  replace hS : St g (Sh 4 1 (bos B) b d :: cel b2 #[.int .i64 0, .slice none 0 0, .slice none 0 0] 49 :: cel b1 #[.int .i64 cap, .slice a (List.length (enP P)) c, .slice b (List.length (bos B)) d] 49 :: L) w := hS
  refine WL.r 1 rfl ?_
  refine WL.nil ?_
  refine WC.ifT rfl (by rw [h0]; rfl) ?_
  refine WC.seq ?_
  refine WC.region ?_
  refine WL.ldF rfl rfl 2 hS rfl rfl ag_49 ?_
  refine WL.stF rfl rfl rfl 1 hS rfl rfl rfl rfl rfl ag_49 (fun w hS => ?_)
  replace hS : St g (Sh 4 1 (bos B) b d :: cel b2 #[.int .i64 cap, .slice a (List.length (enP P)) c, .slice b (List.length (bos B)) d] 49 :: cel b1 #[.int .i64 cap, .slice a (List.length (enP P)) c, .slice b (List.length (bos B)) d] 49 :: L) w := hS
  refine WL.r 1 rfl ?_
  refine WL.nil ?_
  as_aux_lemma =>
    refine WC.ret ?_
    refine ⟨[.agg #[.int .i64 cap, .slice a (List.length (enP P)) c, .slice b (List.length (bos B)) d], .int .i64 4], ⟨⟨_, rfl, hS.lvF 1 rfl ag_49⟩, rfl⟩, ?_⟩
    replace hS := (hS.sel 3 [0] rfl)
    exact ⟨rfl, hS⟩
theorem rrel_ok {g w : World} {L : List HP} (cap : Int) (P : List PR) (a : Option Addr) (c : Nat) (B : List Bool) (b : Option Addr) (d : Nat) (n : Int) (hB : B.length ≤ 1000) (h0 : liveR B n = true) (hS : St g (Sh 4 1 (bos B) b d :: L) w) :
    Sp Try.prog 21 [.agg #[.int .i64 cap, .slice a (List.length (enP P)) c, .slice b (List.length (bos B)) d], .int .i64 n] w (fun v w' => ∃ (b2 : Option Addr) (d2 : Nat), v = .tuple #[.agg #[.int .i64 cap, .slice a (List.length (enP P)) c, .slice b2 (List.length (bos (B.set (n - 1).toNat false))) d2], .int .i64 0] ∧ St g (Sh 4 1 (bos (B.set (n - 1).toNat false)) b2 d2 :: L) w') := by
  refine Sp.enter Try.func21 rfl (by kernel_rfl) (by kernel_rfl) ?_
  have _ := hB
  refine WC.seq ?_
  refine WC.region ?_
  refine WL.box rfl rfl #[.int .i64 cap, .slice a (List.length (enP P)) c, .slice b (List.length (bos B)) d] hS rfl rfl (fun b1 w hS => ?_)
  refine WL.new rfl rfl zv_49 hS (fun b2 w hS => ?_)
  refine WL.r 1 rfl ?_
  refine WL.nil ?_
  refine WC.seq ?_
  refine WC.seq ?_
  refine WC.region ?_
  refine WL.ldF rfl rfl 1 hS rfl rfl ag_49 ?_
  refine WL.r 1 rfl ?_
  refine WL.call rfl rfl (rlive_spec (cap := cap) (P := P) (a := a) (c := c) (B := B) (b := b) (d := d) (n := n) (hB := (by omega)) (hS := (hS.sel 3 [2, 0, 0] rfl))) rfl ?_
  clear hS; rintro _ w ⟨rfl, hS⟩
  replace hS : St g (Sh 4 1 (bos B) b d :: cel b2 #[.int .i64 0, .slice none 0 0, .slice none 0 0] 49 :: cel b1 #[.int .i64 cap, .slice a (List.length (enP P)) c, .slice b (List.length (bos B)) d] 49 :: L) w := hS
  refine WL.r 1 rfl ?_
  refine WL.nil ?_
  refine WC.ifF rfl (by rw [h0]; decide) ?_
  refine WC.skip ?_
  refine WC.seq ?_
  refine WC.region ?_
  have hbl := bos_len B; have hrg := liveR_rng h0; have hbs := bos_len (B.set (n - 1).toNat false); have hls : (B.set (n - 1).toNat false).length = B.length := List.length_set
  refine WL.run 2 [.slice b (List.length (bos B)) d] rfl (by exact hS.ld 2 rfl rfl) ?_
  replace hS := hS.nil_ 4 1
  refine WL.app rfl rfl 0 (bos B) el_47 hS rfl (hS.srcS 1 rfl) (List.nil_append _) (Rm.of (by first | omega | (simp <;> omega)) (by decide)) rfl rfl (fun a1 c1 w hS => ?_)
  replace hS : St g (Own 4 1 (bos B) a1 c1 :: Sh 4 1 (bos B) b d :: cel b2 #[.int .i64 0, .slice none 0 0, .slice none 0 0] 49 :: cel b1 #[.int .i64 cap, .slice a (List.length (enP P)) c, .slice b (List.length (bos B)) d] 49 :: L) w := hS
  refine WL.r 1 rfl ?_
  refine WL.st rfl rfl rfl 3 hS rfl rfl rfl rfl rfl rfl (fun w hS => ?_)
  replace hS : St g (Own 4 1 (bos B) a1 c1 :: Sh 4 1 (bos B) b d :: cel b2 #[.int .i64 0, .slice none 0 0, .slice none 0 0] 49 :: cel b1 #[.int .i64 cap, .slice a (List.length (enP P)) c, .slice a1 (List.length (bos B)) c1] 49 :: L) w := hS
  refine WL.nil ?_
  as_aux_lemma =>
    refine WC.seq ?_
    refine WC.region ?_
    refine WL.run 4 [.slice a1 (List.length (bos B)) c1] rfl (by exact hS.ld 3 rfl rfl) ?_
    refine WL.nw 18 rfl (w64 (by omega)) ?_
    obtain ⟨x, hx⟩ : ∃ x, B[(n - 1).toNat]? = some x := ⟨_, List.getElem?_eq_getElem (by omega)⟩
    refine WL.ix rfl rfl (i := n - 1) ((n - 1).toNat) el_47 rfl rfl (by omega) (by omega) (hS.rdO 0 rfl (bos_at hx)).1 ?_
    refine WL.stE rfl rfl rfl 0 ((n - 1).toNat) 0 [.bool x] (bos (B.set (n - 1).toNat false)) hS rfl (bos_at hx) rfl rfl rfl rfl rfl (bos_set _ _ _) (fun w hS => ?_)
    replace hS : St g (Own 4 1 (bos (B.set (n - 1).toNat false)) a1 c1 :: Sh 4 1 (bos B) b d :: cel b2 #[.int .i64 0, .slice none 0 0, .slice none 0 0] 49 :: cel b1 #[.int .i64 cap, .slice a (List.length (enP P)) c, .slice a1 (List.length (bos B)) c1] 49 :: L) w := hS
    refine WL.nil ?_
    refine WC.seq ?_
    refine WC.region ?_
    rw [show (bos B).length = (bos (B.set (n - 1).toNat false)).length by omega] at hS; replace hS := hS.share.sel 4 [0, 1, 1] rfl
    replace hS : St g (Sh 4 1 (bos (B.set (n - 1).toNat false)) a1 c1 :: cel b2 #[.int .i64 0, .slice none 0 0, .slice none 0 0] 49 :: cel b1 #[.int .i64 cap, .slice a (List.length (enP P)) c, .slice a1 (List.length (bos (B.set (n - 1).toNat false))) c1] 49 :: L) w := hS
    refine WL.ldF rfl rfl 2 hS rfl rfl ag_49 ?_
    refine WL.stF rfl rfl rfl 1 hS rfl rfl rfl rfl rfl ag_49 (fun w hS => ?_)
    replace hS : St g (Sh 4 1 (bos (B.set (n - 1).toNat false)) a1 c1 :: cel b2 #[.int .i64 cap, .slice a (List.length (enP P)) c, .slice a1 (List.length (bos (B.set (n - 1).toNat false))) c1] 49 :: cel b1 #[.int .i64 cap, .slice a (List.length (enP P)) c, .slice a1 (List.length (bos (B.set (n - 1).toNat false))) c1] 49 :: L) w := hS
    refine WL.r 1 rfl ?_
    refine WL.nil ?_
    refine WC.ret ?_
    refine ⟨[.agg #[.int .i64 cap, .slice a (List.length (enP P)) c, .slice a1 (List.length (bos (B.set (n - 1).toNat false))) c1], .int .i64 0], ⟨⟨_, rfl, hS.lvF 1 rfl ag_49⟩, rfl⟩, ?_⟩
    replace hS := (hS.sel 3 [0] rfl)
    exact ⟨_, _, rfl, hS⟩
theorem ranc_spec {g w : World} {L : List HP} (cap : Int) (P : List PR) (a : Option Addr) (c : Nat) (B : List Bool) (b : Option Addr) (d : Nat) (n : Int) (hP : POk P) (hl : P.length ≤ 1000) (hB : B.length = P.length) (hS : St g (Sh 28 1 (enP P) a c :: Shs prF P :: Sh 4 1 (bos B) b d :: L) w) :
    Sp Try.prog 40 [.agg #[.int .i64 cap, .slice a (List.length (enP P)) c, .slice b (List.length (bos B)) d], .int .i64 n] w (fun v w' => ∃ (ls : List Int) (a2 : Option Addr) (c2 : Nat), v = .slice a2 (List.length (i64s ls)) c2 ∧ St g (Own 3 1 (i64s ls) a2 c2 :: Sh 28 1 (enP P) a c :: Shs prF P :: Sh 4 1 (bos B) b d :: L) w' ∧ (Asc ls) ∧ (∀ u, u ∈ ls ↔ (liveR (pres P B) n = true ∧ liveR (pres P B) u = true ∧ Rch P n u))) := by
  refine Sp.enter Try.func40 rfl (by kernel_rfl) (by kernel_rfl) ?_
  have _ := hB
  have _ := hl
  refine WC.seq ?_
  refine WC.region ?_
  refine WL.box rfl rfl #[.int .i64 cap, .slice a (List.length (enP P)) c, .slice b (List.length (bos B)) d] hS rfl rfl (fun b1 w hS => ?_)
  refine WL.r 1 rfl ?_
  refine WL.nil ?_
  refine WC.seq ?_
  refine WC.seq ?_
  refine WC.region ?_
  have hpl := pres_len P B; have hul := up_len P n; have hbp := bos_len (pres P B); have hbu := bos_len (up P n)
  refine WL.ldF rfl rfl 0 hS rfl rfl ag_49 ?_
  refine WL.r 1 rfl ?_
  refine WL.call rfl rfl (rpre_spec (cap := cap) (P := P) (a := a) (c := c) (B := B) (b := b) (d := d) (n := n) (hP := (by assumption)) (hl := (by omega)) (hB := (by assumption)) (hS := (hS.sel 4 [1, 1, 1, 0] rfl))) rfl ?_
  clear hS; rintro _ w ⟨rfl, hS⟩
  replace hS : St g (Sh 28 1 (enP P) a c :: Shs prF P :: Sh 4 1 (bos B) b d :: cel b1 #[.int .i64 cap, .slice a (List.length (enP P)) c, .slice b (List.length (bos B)) d] 49 :: L) w := hS
  refine WL.r 1 rfl ?_
  refine WL.nil ?_
  refine WC.if_ rfl (fun cd1 => ?_) (fun cd1 => ?_)
  · refine WC.seq ?_
    refine WC.region ?_
    refine WL.r 1 rfl ?_
    refine WL.nil ?_
    refine WC.ret ?_
    refine ⟨[.slice none 0 0], rfl, ?_⟩
    replace hS := hS.nil_ 3 1
    replace hS := (hS.sel 5 [0, 0, 0, 0] rfl)
    exact ⟨[], _, _, rfl, hS, List.Pairwise.nil, fun u => ⟨fun h => (by cases h), fun h => absurd h.1 (by simpa using cd1)⟩⟩
  · refine WC.skip ?_
    refine WC.seq ?_
    refine WC.plan [([0, 2, 3], some (1, [2, 3])), ([], some (4, [])), ([5, 6], none)] (by kernel_rfl) (by kernel_rfl) ?_
    refine WQ.ldF rfl rfl 3 hS rfl rfl ag_49 ?_
    refine WQ.ldF rfl rfl 3 hS rfl rfl ag_49 ?_
    refine WQ.r 1 rfl ?_
    refine WQ.nil ?_
    intro m1
    replace hS := hS.drewN m1; generalize hwm1 : World.drewN _ _ = w at *; clear hwm1
    refine WL.call rfl rfl (present_spec (cap := cap) (P := P) (a := a) (c := c) (B := B) (b := b) (d := d) (hP := (by assumption)) (hl := (by omega)) (hB := (by assumption)) (hS := hS)) rfl ?_
    clear hS; rintro _ w ⟨a1, c1, rfl, hS⟩
    replace hS : St g (Own 4 1 (bos (pres P B)) a1 c1 :: Sh 28 1 (enP P) a c :: Shs prF P :: Sh 4 1 (bos B) b d :: cel b1 #[.int .i64 cap, .slice a (List.length (enP P)) c, .slice b (List.length (bos B)) d] 49 :: L) w := hS
    refine WL.nil ?_
    refine ⟨by exact ⟨RQ.ldF rfl rfl 4 hS rfl rfl ag_49 rfl rfl, RQ.pure rfl rfl rfl rfl⟩, ?_⟩
    refine WQ.nil ?_
    intro m2
    replace hS := hS.drewN m2; generalize hwm2 : World.drewN _ _ = w at *; clear hwm2
    refine WL.call rfl rfl (above_spec (cap := cap) (P := P) (a := a) (c := c) (B := B) (b := b) (d := d) (n := n) (hP := (by assumption)) (hl := (by omega)) (hS := (hS.sel 3 [1, 1, 0] rfl))) rfl ?_
    clear hS; rintro _ w ⟨a2, c2, rfl, hS⟩
    replace hS : St g (Own 4 1 (bos (up P n)) a2 c2 :: Sh 28 1 (enP P) a c :: Shs prF P :: Own 4 1 (bos (pres P B)) a1 c1 :: Sh 4 1 (bos B) b d :: cel b1 #[.int .i64 cap, .slice a (List.length (enP P)) c, .slice b (List.length (bos B)) d] 49 :: L) w := hS
    refine WL.nil ?_
    refine ⟨by exact trivial, ?_⟩
    refine WQ.r 2 rfl ?_
    refine WQ.nil ?_
    intro m3
    replace hS := hS.drewN m3; generalize hwm3 : World.drewN _ _ = w at *; clear hwm3
    as_aux_lemma =>
      refine WC.seq ?_
      refine WC.seq ?_
      refine WC.region ?_
      refine WL.r 1 rfl ?_
      refine WL.nil ?_
      refine WC.block ?_
      refine WC.loop [4, 5, 6, 7] (fun kM vs w => ∃ (k : Nat) (bs : List Bool), vs = [.slice none 0 0, .slice a1 (List.length (bos (pres P B))) c1, .slice a2 (List.length (bos (up P n))) c2, .int .i64 (k : Int)] ∧ St g (Own 4 1 (bos (up P n)) a2 c2 :: Sh 28 1 (enP P) a c :: Shs prF P :: Own 4 1 (bos bs) a1 c1 :: Sh 4 1 (bos B) b d :: cel b1 #[.int .i64 cap, .slice a (List.length (enP P)) c, .slice b (List.length (bos B)) d] 49 :: L) w ∧ (k ≤ P.length) ∧ (bs.length = P.length) ∧ (∀ (j : Nat) (x y z : Bool), (pres P B)[j]? = some x → (up P n)[j]? = some y → bs[j]? = some z → z = if j < k then (x && y) else x) ∧ (P.length - k) = kM) ((List.length P) - 0) ⟨0, pres P B, rfl, hS, (Nat.zero_le _), (pres_len P B), (fun j x y z h1 _ h3 => by rw [if_neg (by omega)]; rw [h1] at h3; cases h3; rfl), rfl⟩ ?_
      clear hS; rintro _ _ w j ⟨k, bs, rfl, hS, hk, hbl, hA, rfl⟩
      refine WC.seq ?_
      refine WC.seq ?_
      refine WC.region ?_
      refine WL.r 4 rfl ?_
      refine WL.nil ?_
      refine WC.ifP rfl (fun cd2 => ?_) (fun cd2 => ?_)
      · refine WC.skip ?_
        refine WC.seq ?_
        refine WC.block ?_
        refine WC.region ?_
        refine WL.r 4 rfl ?_
        obtain ⟨x, hx⟩ : ∃ x, bs[k]? = some x := ⟨_, List.getElem?_eq_getElem (by omega)⟩; obtain ⟨y, hy⟩ : ∃ y, (up P n)[k]? = some y := ⟨_, List.getElem?_eq_getElem (by omega)⟩; have hbb := bos_len bs
        refine WL.ix rfl rfl (i := (k : Int)) (k) el_47 rfl rfl (by omega) (by omega) (hS.rdO 3 rfl (bos_at hx)).1 ?_
        refine WL.run 2 [.bool x] rfl (by exact (hS.rdO 3 rfl (bos_at hx)).2 0 _ rfl) ?_
        by_cases cg1 : x = true
        · refine WL.reb 29 (.bool true) (congrArg Value.bool cg1) ?_
          refine WL.ung rfl rfl rfl ?_
          refine WL.r 1 rfl ?_
          refine WL.ung rfl rfl rfl ?_
          refine WL.r 1 rfl ?_
          refine WL.ung rfl rfl rfl ?_
          refine WL.ix rfl rfl (i := (k : Int)) (k) el_47 rfl rfl (by omega) (by omega) (hS.rdO 0 rfl (bos_at hy)).1 ?_
          refine WL.ung rfl rfl rfl ?_
          refine WL.run 2 [.bool y] rfl (by exact (hS.rdO 0 rfl (bos_at hy)).2 0 _ rfl) ?_
          refine WL.ix rfl rfl (i := (k : Int)) (k) el_47 rfl rfl (by omega) (by omega) (hS.rdO 3 rfl (bos_at hx)).1 ?_
          refine WL.stE rfl rfl rfl 3 (k) 0 [.bool x] (bos (bs.set k y)) hS rfl (bos_at hx) rfl rfl rfl rfl rfl (bos_set _ _ _) (fun w hS => ?_)
          replace hS : St g (Own 4 1 (bos (up P n)) a2 c2 :: Sh 28 1 (enP P) a c :: Shs prF P :: Own 4 1 (bos (bs.set k y)) a1 c1 :: Sh 4 1 (bos B) b d :: cel b1 #[.int .i64 cap, .slice a (List.length (enP P)) c, .slice b (List.length (bos B)) d] 49 :: L) w := hS
          refine WL.nil ?_
          as_aux_lemma =>
            refine WC.region ?_
            refine WL.r 2 rfl ?_
            refine WL.nw 22 rfl (w64 (by omega)) ?_
            refine WL.r 1 rfl ?_
            refine WL.nil ?_
            exact ⟨_, by omega, k + 1, bs.set k y, rfl, hS, (by omega), (by rw [List.length_set]; exact hbl), (anc_step hA hx hy (by rw [show x = true from cg1]; rfl)), rfl⟩
        · refine WL.reb 29 (.bool false) (congrArg Value.bool (Bool.eq_false_iff.2 cg1)) ?_
          refine WL.skp rfl rfl rfl rfl ?_
          refine WL.skp rfl rfl rfl rfl ?_
          refine WL.skp rfl rfl rfl rfl ?_
          refine WL.skp rfl rfl rfl rfl ?_
          refine WL.r 1 rfl ?_
          refine WL.ix rfl rfl (i := (k : Int)) (k) el_47 rfl rfl (by omega) (by omega) (hS.rdO 3 rfl (bos_at hx)).1 ?_
          refine WL.stE rfl rfl rfl 3 (k) 0 [.bool x] (bos (bs.set k false)) hS rfl (bos_at hx) rfl rfl rfl rfl rfl (bos_set _ _ _) (fun w hS => ?_)
          replace hS : St g (Own 4 1 (bos (up P n)) a2 c2 :: Sh 28 1 (enP P) a c :: Shs prF P :: Own 4 1 (bos (bs.set k false)) a1 c1 :: Sh 4 1 (bos B) b d :: cel b1 #[.int .i64 cap, .slice a (List.length (enP P)) c, .slice b (List.length (bos B)) d] 49 :: L) w := hS
          refine WL.nil ?_
          as_aux_lemma =>
            refine WC.region ?_
            refine WL.r 2 rfl ?_
            refine WL.nw 22 rfl (w64 (by omega)) ?_
            refine WL.r 1 rfl ?_
            refine WL.nil ?_
            exact ⟨_, by omega, k + 1, bs.set k false, rfl, hS, (by omega), (by rw [List.length_set]; exact hbl), (anc_step hA hx hy (by rw [show x = false by simpa using cg1]; rfl)), rfl⟩
      · refine WC.exit ?_
        refine WC.seq ?_
        refine WC.region ?_
        refine WL.reb 5 (.slice a1 (List.length (bos bs)) c1) (congrArg (fun m => Value.slice a1 m c1) (by rw [bos_len, bos_len, pres_len, hbl])) ?_
        refine WL.r 1 rfl ?_
        replace hS := (hS.at_ 3 rfl).share
        replace hS : St g (Sh 4 1 (bos bs) a1 c1 :: Own 4 1 (bos (up P n)) a2 c2 :: Sh 28 1 (enP P) a c :: Shs prF P :: Sh 4 1 (bos B) b d :: cel b1 #[.int .i64 cap, .slice a (List.length (enP P)) c, .slice b (List.length (bos B)) d] 49 :: L) w := hS
        refine WL.call rfl rfl (numbers_spec (bs := bs) (a := a1) (c := c1) (hl := (by omega)) (hS := hS)) rfl ?_
        clear hS; rintro _ w ⟨a3, c3, rfl, hS⟩
        replace hS : St g (Own 3 1 (i64s (numL bs)) a3 c3 :: Sh 4 1 (bos bs) a1 c1 :: Own 4 1 (bos (up P n)) a2 c2 :: Sh 28 1 (enP P) a c :: Shs prF P :: Sh 4 1 (bos B) b d :: cel b1 #[.int .i64 cap, .slice a (List.length (enP P)) c, .slice b (List.length (bos B)) d] 49 :: L) w := hS
        refine WL.r 1 rfl ?_
        refine WL.nil ?_
        as_aux_lemma =>
          refine WC.ret ?_
          refine ⟨[.slice a3 (List.length (i64s (numL bs))) c3], rfl, ?_⟩
          replace hS := (hS.sel 7 [0, 2, 2, 2] rfl)
          exact ⟨_, _, _, rfl, hS, (numL_all _).1, fun u => by
            rw [and_num (l := pres P B) (m := up P n) (by rw [pres_len, up_len]) (by rw [hbl, pres_len]) (fun j x y z h1 h2 h3 => by
              have h9 := hA j x y z h1 h2 h3
              rw [if_pos (by have := (List.getElem?_eq_some_iff.1 h1).1; omega)] at h9; exact h9), numL_live, up_num hP]
            simp at cd1
            simp [cd1]⟩
theorem rbase_spec {g w : World} {L : List HP} (cap : Int) (P : List PR) (a : Option Addr) (c : Nat) (B : List Bool) (b : Option Addr) (d : Nat) (x y : Int) (hP : POk P) (hl : P.length ≤ 1000) (hB : B.length = P.length) (hS : St g (Sh 28 1 (enP P) a c :: Shs prF P :: Sh 4 1 (bos B) b d :: L) w) :
    Sp Try.prog 41 [.agg #[.int .i64 cap, .slice a (List.length (enP P)) c, .slice b (List.length (bos B)) d], .int .i64 x, .int .i64 y] w (fun v w' => v = .int .i64 (baseR P B x y) ∧ St g (Sh 28 1 (enP P) a c :: Shs prF P :: Sh 4 1 (bos B) b d :: L) w') := by
  refine Sp.enter Try.func41 rfl (by kernel_rfl) (by kernel_rfl) ?_
  have _ := hB
  have _ := hl
  have _ := hP
  refine WC.seq ?_
  refine WC.region ?_
  refine WL.box rfl rfl #[.int .i64 cap, .slice a (List.length (enP P)) c, .slice b (List.length (bos B)) d] hS rfl rfl (fun b1 w hS => ?_)
  refine WL.r 1 rfl ?_
  refine WL.nil ?_
  refine WC.seq ?_
  refine WC.seq ?_
  refine WC.region ?_
  refine WL.ldF rfl rfl 0 hS rfl rfl ag_49 ?_
  refine WL.r 1 rfl ?_
  refine WL.call rfl rfl (rlive_spec (cap := cap) (P := P) (a := a) (c := c) (B := B) (b := b) (d := d) (n := x) (hB := (by omega)) (hS := (hS.sel 4 [3, 0, 0, 0] rfl))) rfl ?_
  clear hS; rintro _ w ⟨rfl, hS⟩
  replace hS : St g (Sh 4 1 (bos B) b d :: cel b1 #[.int .i64 cap, .slice a (List.length (enP P)) c, .slice b (List.length (bos B)) d] 49 :: Sh 28 1 (enP P) a c :: Shs prF P :: L) w := hS
  refine WL.r 1 rfl ?_
  refine WL.r 1 rfl ?_
  by_cases cg1 : (! (liveR B x)) = true
  · refine WL.reb 11 (.bool true) (congrArg Value.bool cg1) ?_
    refine WL.skp rfl rfl rfl rfl ?_
    refine WL.skp rfl rfl rfl rfl ?_
    refine WL.skp rfl rfl rfl rfl ?_
    refine WL.skp rfl rfl rfl rfl ?_
    refine WL.r 1 rfl ?_
    refine WL.nil ?_
    refine WC.ifT rfl rfl ?_
    refine WC.seq ?_
    refine WC.region ?_
    refine WL.r 1 rfl ?_
    refine WL.nil ?_
    as_aux_lemma =>
      refine WC.ret ?_
      refine ⟨[.int .i64 0], rfl, ?_⟩
      replace hS := (hS.sel 4 [2, 2, 0] rfl)
      first | exact ⟨congrArg (Value.int .i64) (if_neg (fun h => by first | (rw [h.1] at cg1; cases cg1) | (rw [h.2] at cd1; cases cd1))).symm, hS⟩
  · refine WL.reb 11 (.bool false) (congrArg Value.bool (Bool.eq_false_iff.2 cg1)) ?_
    refine WL.ung rfl rfl rfl ?_
    refine WL.ldF rfl rfl 1 hS rfl rfl ag_49 ?_
    refine WL.ung rfl rfl rfl ?_
    refine WL.r 1 rfl ?_
    refine WL.ung rfl rfl rfl ?_
    refine WL.call rfl rfl (rlive_spec (cap := cap) (P := P) (a := a) (c := c) (B := B) (b := b) (d := d) (n := y) (hB := (by omega)) (hS := hS)) rfl ?_
    clear hS; rintro _ w ⟨rfl, hS⟩
    replace hS : St g (Sh 4 1 (bos B) b d :: cel b1 #[.int .i64 cap, .slice a (List.length (enP P)) c, .slice b (List.length (bos B)) d] 49 :: Sh 28 1 (enP P) a c :: Shs prF P :: L) w := hS
    refine WL.ung rfl rfl rfl ?_
    refine WL.r 1 rfl ?_
    refine WL.r 1 rfl ?_
    refine WL.nil ?_
    as_aux_lemma =>
      refine WC.if_ rfl (fun cd1 => ?_) (fun cd1 => ?_)
      · refine WC.seq ?_
        refine WC.region ?_
        refine WL.r 1 rfl ?_
        refine WL.nil ?_
        refine WC.ret ?_
        refine ⟨[.int .i64 0], rfl, ?_⟩
        replace hS := (hS.sel 4 [2, 2, 0] rfl)
        first | exact ⟨congrArg (Value.int .i64) (if_neg (fun h => by first | (rw [h.1] at cg1; cases cg1) | (rw [h.2] at cd1; cases cd1))).symm, hS⟩
      · refine WC.skip ?_
        refine WC.seq ?_
        refine WC.region ?_
        refine WL.ldF rfl rfl 1 hS rfl rfl ag_49 ?_
        refine WL.r 2 rfl ?_
        refine WL.call rfl rfl (common_spec (cap := cap) (P := P) (a := a) (c := c) (B := B) (b := b) (d := d) (x := x) (y := y) (hP := (by assumption)) (hl := (by omega)) (hS := (hS.sel 4 [2, 2, 0, 0] rfl))) rfl ?_
        clear hS; rintro _ w ⟨rfl, hS⟩
        replace hS : St g (Sh 28 1 (enP P) a c :: Shs prF P :: Sh 4 1 (bos B) b d :: cel b1 #[.int .i64 cap, .slice a (List.length (enP P)) c, .slice b (List.length (bos B)) d] 49 :: L) w := hS
        refine WL.r 1 rfl ?_
        refine WL.nil ?_
        refine WC.ret ?_
        refine ⟨[.int .i64 (comR P x y)], rfl, ?_⟩
        replace hS := (hS.sel 4 [0, 0, 0] rfl)
        exact ⟨congrArg (Value.int .i64) (if_pos ⟨by simpa using cg1, by simpa using cd1⟩).symm, hS⟩
end Go.Proofs.Ytjoilgpleaemcaa
