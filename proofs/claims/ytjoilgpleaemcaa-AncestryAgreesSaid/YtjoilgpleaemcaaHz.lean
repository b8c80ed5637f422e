/-
  The law AncestryAgrees, walked.
  Conditions: the arguments lie in their kinds.
-/
import Derived.Test.YtjoilgpleaemcaaHx
namespace Go.Proofs.Ytjoilgpleaemcaa
open Go Go.V

def relR (B : List Bool) (n : Int) : Int := if liveR B n = true then 0 else 4
noncomputable def addR (P : List PR) (B : List Bool) (cap : Int) (ps : List Int) : Int := if faultR P B cap ps = 0 then (P.length : Int) + 1 else 0
theorem rel_step {xs xs2 : List VN} {q : Nat} {P : List PR} {B B2 : List Bool} {la n : Int} (hR : RA xs P B la) (hG : GOk xs q) (h : RelQ xs n xs2) (h2 : (liveR B n = true ∧ B2 = B.set (n - 1).toNat false) ∨ (liveR B n = false ∧ B2 = B)) : RA xs2 P B2 la := by
  rcases h2 with ⟨h2, rfl⟩ | ⟨h2, rfl⟩
  · exact hR.rel hG h (by rw [hR.live]; exact h2)
  · rw [h.same (by rw [hR.live]; exact h2)]; exact hR
theorem add_step {xs xs2 : List VN} {q : Nat} {P P2 : List PR} {B B2 : List Bool} {cap la la2 : Int} {ps : List Int} (hR : RA xs P B la) (hI : GI xs q cap la) (hK : KO xs) (h : AddP xs cap la ps xs2 la2) (h2 : (faultR P B cap ps = 0 ∧ ∃ (e2 : Option Addr) (f2 : Nat), P2 = P ++ [PR.mk ps e2 f2] ∧ B2 = B ++ [true]) ∨ (faultR P B cap ps ≠ 0 ∧ P2 = P ∧ B2 = B)) : RA xs2 P2 B2 la2 := by
  rw [hR.fault hI.ok hK] at h2
  rcases h2 with ⟨h2, e2, f2, rfl, rfl⟩ | ⟨h2, rfl, rfl⟩
  · exact hR.add (r := PR.mk ps e2 f2) hI h h2
  · obtain ⟨_, rfl, rfl⟩ := (h.facts hI.le).resolve_right (fun k => h2 k.1)
    exact hR
set_option maxHeartbeats 1000000 in
set_option maxRecDepth 8192 in
theorem same_spec {g w : World} {L : List HP} (p m : Nat) (cap last : Int) (xs : List VN) (q : Nat) (P : List PR) (a : Option Addr) (c : Nat) (B : List Bool) (b : Option Addr) (d : Nat) (hI : GI xs q cap last) (hK : KO xs) (hR : RA xs P B last) (hla : last ≤ 100) (hS : St g (cel p #[.int .i64 cap, .int .i64 last, .map (some m)] 60 :: blk m (.map (mE (List.map vK xs)) q) :: Shs vF xs :: Sh 28 1 (enP P) a c :: Shs prF P :: Sh 4 1 (bos B) b d :: L) w) :
    Sp Try.prog 23 [.pointer (some ⟨p, 0, none⟩), .agg #[.int .i64 cap, .slice a (List.length (enP P)) c, .slice b (List.length (bos B)) d]] w (fun v w' => v = .bool true ∧ St g (cel p #[.int .i64 cap, .int .i64 last, .map (some m)] 60 :: blk m (.map (mE (List.map vK xs)) q) :: Shs vF xs :: Sh 28 1 (enP P) a c :: Shs prF P :: Sh 4 1 (bos B) b d :: L) w') := by
  refine Sp.enter Try.func23 rfl (by kernel_rfl) (by kernel_rfl) ?_
  have _ := hla
  refine WC.seq ?_
  refine WC.region ?_
  have hG := hI.ok; have hP := hR.pok; have hlen := hR.len; have hB := hR.lenB; obtain ⟨ss, hs⟩ := keys_ex hG.uniq; have hsn := hR.vers hG hK hs; have hkl := keys_len hs.perm; have hnum := hG.num; have hel := enP_len P
  refine WL.box rfl rfl #[.int .i64 cap, .slice a (List.length (enP P)) c, .slice b (List.length (bos B)) d] hS rfl rfl (fun b1 w hS => ?_)
  refine WL.r 1 rfl ?_
  refine WL.nil ?_
  refine WC.seq ?_
  refine WC.seq ?_
  refine WC.plan [([0, 2], some (1, [2])), ([], some (3, [])), ([], some (4, [])), ([5], none)] (by kernel_rfl) (by kernel_rfl) ?_
  refine WQ.r 1 rfl ?_
  refine WQ.ldF rfl rfl 0 hS rfl rfl ag_49 ?_
  refine WQ.nil ?_
  intro m1
  replace hS := hS.drewN m1; generalize hwm1 : World.drewN _ _ = w at *; clear hwm1
  refine WL.call rfl rfl (vers_spec (p := p) (m := m) (cap := cap) (last := last) (xs := xs) (q := q) (ss := ss) (ht := (by first | assumption | exact (GI.ok (by assumption)).toVOk)) (hp := hs.perm) (hs := hs.le) (hS := (hS.sel 4 [1, 1, 1, 0] rfl))) rfl ?_
  clear hS; rintro _ w ⟨a1, c1, rfl, hS⟩
  replace hS : St g (Own 3 1 (i64s ss) a1 c1 :: cel p #[.int .i64 cap, .int .i64 last, .map (some m)] 60 :: blk m (.map (mE (List.map vK xs)) q) :: Shs vF xs :: cel b1 #[.int .i64 cap, .slice a (List.length (enP P)) c, .slice b (List.length (bos B)) d] 49 :: Sh 28 1 (enP P) a c :: Shs prF P :: Sh 4 1 (bos B) b d :: L) w := hS
  refine WL.nil ?_
  refine ⟨by exact RQ.ldF rfl rfl 4 hS rfl rfl ag_49 rfl rfl, ?_⟩
  refine WQ.nil ?_
  intro m2
  replace hS := hS.drewN m2; generalize hwm2 : World.drewN _ _ = w at *; clear hwm2
  refine WL.call rfl rfl (rvers_spec (cap := cap) (P := P) (a := a) (c := c) (B := B) (b := b) (d := d) (hP := (by assumption)) (hl := (by omega)) (hB := (by assumption)) (hS := (hS.sel 8 [5, 5, 5, 0, 0, 0, 0, 0] rfl))) rfl ?_
  clear hS; rintro _ w ⟨a2, c2, rfl, hS⟩
  replace hS : St g (Own 3 1 (i64s (numL (pres P B))) a2 c2 :: Sh 28 1 (enP P) a c :: Shs prF P :: Sh 4 1 (bos B) b d :: Own 3 1 (i64s ss) a1 c1 :: cel p #[.int .i64 cap, .int .i64 last, .map (some m)] 60 :: blk m (.map (mE (List.map vK xs)) q) :: Shs vF xs :: cel b1 #[.int .i64 cap, .slice a (List.length (enP P)) c, .slice b (List.length (bos B)) d] 49 :: L) w := hS
  refine WL.nil ?_
  refine ⟨by exact trivial, ?_⟩
  refine WQ.nil ?_
  intro m3
  replace hS := hS.drewN m3; generalize hwm3 : World.drewN _ _ = w at *; clear hwm3
  replace hS := (hS.at_ 4 rfl).share
  replace hS : St g (Sh 3 1 (i64s ss) a1 c1 :: Own 3 1 (i64s (numL (pres P B))) a2 c2 :: Sh 28 1 (enP P) a c :: Shs prF P :: Sh 4 1 (bos B) b d :: cel p #[.int .i64 cap, .int .i64 last, .map (some m)] 60 :: blk m (.map (mE (List.map vK xs)) q) :: Shs vF xs :: cel b1 #[.int .i64 cap, .slice a (List.length (enP P)) c, .slice b (List.length (bos B)) d] 49 :: L) w := hS
  replace hS := (hS.at_ 1 rfl).share
  replace hS : St g (Sh 3 1 (i64s (numL (pres P B))) a2 c2 :: Sh 3 1 (i64s ss) a1 c1 :: Sh 28 1 (enP P) a c :: Shs prF P :: Sh 4 1 (bos B) b d :: cel p #[.int .i64 cap, .int .i64 last, .map (some m)] 60 :: blk m (.map (mE (List.map vK xs)) q) :: Shs vF xs :: cel b1 #[.int .i64 cap, .slice a (List.length (enP P)) c, .slice b (List.length (bos B)) d] 49 :: L) w := hS
  refine WL.call rfl rfl (sameI (xs := ss) (ys := numL (pres P B)) (a := a1) (b := a2) (c := c1) (d := c2) (hl := (by omega)) (hS := (hS.sel 2 [1, 0] rfl))) rfl ?_
  clear hS; rintro _ w ⟨ok1, rfl, hS, f1⟩
  replace hS : St g (Sh 3 1 (i64s ss) a1 c1 :: Sh 3 1 (i64s (numL (pres P B))) a2 c2 :: Sh 28 1 (enP P) a c :: Shs prF P :: Sh 4 1 (bos B) b d :: cel p #[.int .i64 cap, .int .i64 last, .map (some m)] 60 :: blk m (.map (mE (List.map vK xs)) q) :: Shs vF xs :: cel b1 #[.int .i64 cap, .slice a (List.length (enP P)) c, .slice b (List.length (bos B)) d] 49 :: L) w := hS
  refine WL.nil ?_
  refine ⟨by exact trivial, ?_⟩
  refine WQ.r 1 rfl ?_
  refine WQ.nil ?_
  intro m4
  replace hS := hS.drewN m4; generalize hwm4 : World.drewN _ _ = w at *; clear hwm4
  as_aux_lemma =>
    refine WC.ifF rfl (by rw [f1.2 hsn]; simp) ?_
    refine WC.skip ?_
    refine WC.seq ?_
    refine WC.seq ?_
    refine WC.region ?_
    refine WL.r 1 rfl ?_
    refine WL.nil ?_
    refine WC.block ?_
    refine WC.loop [0, 3, 5] (fun kM vs w => ∃ (n : Int), vs = [.pointer (some ⟨p, 0, none⟩), .pointer (some ⟨b1, 0, none⟩), .int .i64 n] ∧ St g (Sh 3 1 (i64s ss) a1 c1 :: Sh 3 1 (i64s (numL (pres P B))) a2 c2 :: Sh 28 1 (enP P) a c :: Shs prF P :: Sh 4 1 (bos B) b d :: cel p #[.int .i64 cap, .int .i64 last, .map (some m)] 60 :: blk m (.map (mE (List.map vK xs)) q) :: Shs vF xs :: cel b1 #[.int .i64 cap, .slice a (List.length (enP P)) c, .slice b (List.length (bos B)) d] 49 :: L) w ∧ (-1 ≤ n ∧ n ≤ P.length + 2) ∧ (((P.length : Int) + 3 - n).toNat) = kM) (((List.length P : Int) + 3 - (-1)).toNat) ⟨-1, rfl, hS, (by omega), rfl⟩ ?_
    clear hS; rintro _ _ w j ⟨n, rfl, hS, hn, rfl⟩
    refine WC.seq ?_
    refine WC.seq ?_
    refine WC.region ?_
    refine WL.run 5 [.slice a (List.length (enP P)) c] rfl (by exact hS.ld 8 rfl rfl) ?_
    refine WL.nw 17 rfl (w64 (by omega)) ?_
    refine WL.r 1 rfl ?_
    refine WL.nil ?_
    refine WC.ifP rfl (fun cd1 => ?_) (fun cd1 => ?_)
    · refine WC.skip ?_
      refine WC.seq ?_
      refine WC.block ?_
      refine WC.seq ?_
      refine WC.seq ?_
      refine WC.plan [([0, 1, 3, 4], some (2, [3, 4])), ([], some (5, [])), ([6, 7, 8, 9, 11, 12], some (10, [11, 12])), ([], some (13, [])), ([14, 15, 16, 17, 18, 20, 21], some (19, [20, 21])), ([], some (22, [])), ([], some (23, [])), ([24, 25], none)] (by kernel_rfl) (by kernel_rfl) ?_
      refine WQ.r 2 rfl ?_
      refine WQ.ldF rfl rfl 8 hS rfl rfl ag_49 ?_
      refine WQ.r 1 rfl ?_
      refine WQ.nil ?_
      intro m5
      replace hS := hS.drewN m5; generalize hwm5 : World.drewN _ _ = w at *; clear hwm5
      refine WL.call rfl rfl (live_spec (p := p) (m := m) (cap := cap) (last := last) (xs := xs) (q := q) (n := n) (hu := (by first | assumption | exact (GI.ok (by assumption)).uniq)) (hS := (hS.sel 8 [5, 5, 5, 0, 0, 0, 0, 0] rfl))) rfl ?_
      clear hS; rintro _ w ⟨rfl, hS⟩
      replace hS : St g (cel p #[.int .i64 cap, .int .i64 last, .map (some m)] 60 :: blk m (.map (mE (List.map vK xs)) q) :: Shs vF xs :: Sh 3 1 (i64s ss) a1 c1 :: Sh 3 1 (i64s (numL (pres P B))) a2 c2 :: Sh 28 1 (enP P) a c :: Shs prF P :: Sh 4 1 (bos B) b d :: cel b1 #[.int .i64 cap, .slice a (List.length (enP P)) c, .slice b (List.length (bos B)) d] 49 :: L) w := hS
      refine WL.nil ?_
      refine ⟨by exact ⟨RQ.ldF rfl rfl 8 hS rfl rfl ag_49 rfl rfl, RQ.pure rfl rfl rfl rfl⟩, ?_⟩
      refine WQ.nil ?_
      intro m6
      replace hS := hS.drewN m6; generalize hwm6 : World.drewN _ _ = w at *; clear hwm6
      refine WL.call rfl rfl (rlive_spec (cap := cap) (P := P) (a := a) (c := c) (B := B) (b := b) (d := d) (n := n) (hB := (by omega)) (hS := (hS.sel 8 [7, 0, 0, 0, 0, 0, 0, 0] rfl))) rfl ?_
      clear hS; rintro _ w ⟨rfl, hS⟩
      replace hS : St g (Sh 4 1 (bos B) b d :: cel p #[.int .i64 cap, .int .i64 last, .map (some m)] 60 :: blk m (.map (mE (List.map vK xs)) q) :: Shs vF xs :: Sh 3 1 (i64s ss) a1 c1 :: Sh 3 1 (i64s (numL (pres P B))) a2 c2 :: Sh 28 1 (enP P) a c :: Shs prF P :: cel b1 #[.int .i64 cap, .slice a (List.length (enP P)) c, .slice b (List.length (bos B)) d] 49 :: L) w := hS
      refine WL.nil ?_
      refine ⟨by exact trivial, ?_⟩
      refine WQ.r 2 rfl ?_
      refine WQ.reb 28 (.bool false) (congrArg Value.bool (Bool.eq_false_iff.2 ((by rw [hR.live]; simp)))) ?_
      refine WQ.ung rfl rfl rfl ?_
      refine WQ.r 1 rfl ?_
      refine WQ.ung rfl rfl rfl ?_
      refine WQ.r 1 rfl ?_
      refine WQ.ung rfl rfl rfl ?_
      refine WQ.ldF rfl rfl 8 hS rfl rfl ag_49 ?_
      refine WQ.ung rfl rfl rfl ?_
      refine WQ.r 1 rfl ?_
      refine WQ.nil ?_
      intro m7
      replace hS := hS.drewN m7; generalize hwm7 : World.drewN _ _ = w at *; clear hwm7
      refine WL.ung rfl rfl rfl ?_
      refine WL.call rfl rfl (pre_spec (p := p) (m := m) (cap := cap) (last := last) (xs := xs) (q := q) (n := n) (hu := (by first | assumption | exact (GI.ok (by assumption)).uniq)) (hS := (hS.sel 4 [1, 1, 1, 0] rfl))) rfl ?_
      clear hS; rintro _ w ⟨rfl, hS⟩
      replace hS : St g (cel p #[.int .i64 cap, .int .i64 last, .map (some m)] 60 :: blk m (.map (mE (List.map vK xs)) q) :: Shs vF xs :: Sh 4 1 (bos B) b d :: Sh 3 1 (i64s ss) a1 c1 :: Sh 3 1 (i64s (numL (pres P B))) a2 c2 :: Sh 28 1 (enP P) a c :: Shs prF P :: cel b1 #[.int .i64 cap, .slice a (List.length (enP P)) c, .slice b (List.length (bos B)) d] 49 :: L) w := hS
      refine WL.nil ?_
      refine ⟨by exact ⟨RQ.ung rfl rfl rfl (RQ.ldF rfl rfl 8 hS rfl rfl ag_49 rfl rfl), RQ.ung rfl rfl rfl (RQ.pure rfl rfl rfl rfl)⟩, ?_⟩
      refine WQ.nil ?_
      intro m8
      replace hS := hS.drewN m8; generalize hwm8 : World.drewN _ _ = w at *; clear hwm8
      refine WL.ung rfl rfl rfl ?_
      refine WL.call rfl rfl (rpre_spec (cap := cap) (P := P) (a := a) (c := c) (B := B) (b := b) (d := d) (n := n) (hP := (by assumption)) (hl := (by omega)) (hB := (by assumption)) (hS := (hS.sel 8 [6, 6, 3, 0, 0, 0, 0, 0] rfl))) rfl ?_
      clear hS; rintro _ w ⟨rfl, hS⟩
      replace hS : St g (Sh 28 1 (enP P) a c :: Shs prF P :: Sh 4 1 (bos B) b d :: cel p #[.int .i64 cap, .int .i64 last, .map (some m)] 60 :: blk m (.map (mE (List.map vK xs)) q) :: Shs vF xs :: Sh 3 1 (i64s ss) a1 c1 :: Sh 3 1 (i64s (numL (pres P B))) a2 c2 :: cel b1 #[.int .i64 cap, .slice a (List.length (enP P)) c, .slice b (List.length (bos B)) d] 49 :: L) w := hS
      refine WL.nil ?_
      refine ⟨by exact trivial, ?_⟩
      refine WQ.ung rfl rfl rfl ?_
      refine WQ.r 3 rfl ?_
      refine WQ.reb 37 (.bool false) (congrArg Value.bool (Bool.eq_false_iff.2 ((by rw [hR.pre hG hK]; simp)))) ?_
      refine WQ.ung rfl rfl rfl ?_
      refine WQ.r 1 rfl ?_
      refine WQ.ung rfl rfl rfl ?_
      refine WQ.r 1 rfl ?_
      refine WQ.ung rfl rfl rfl ?_
      refine WQ.ldF rfl rfl 8 hS rfl rfl ag_49 ?_
      refine WQ.ung rfl rfl rfl ?_
      refine WQ.r 1 rfl ?_
      refine WQ.nil ?_
      intro m9
      replace hS := hS.drewN m9; generalize hwm9 : World.drewN _ _ = w at *; clear hwm9
      refine WL.ung rfl rfl rfl ?_
      refine WL.call rfl rfl (anc_spec (p := p) (m := m) (cap := cap) (last := last) (xs := xs) (q := q) (n := n) (hu := (by first | assumption | exact (GI.ok (by assumption)).uniq)) (hl := (Nat.le_trans (hG.lenA _) (by decide))) (hS := (hS.sel 6 [3, 3, 3, 0, 0, 0] rfl))) rfl ?_
      clear hS; rintro _ w ⟨a3, c3, rfl, hS⟩
      replace hS : St g (Own 3 1 (i64s (abG xs n)) a3 c3 :: cel p #[.int .i64 cap, .int .i64 last, .map (some m)] 60 :: blk m (.map (mE (List.map vK xs)) q) :: Shs vF xs :: Sh 28 1 (enP P) a c :: Shs prF P :: Sh 4 1 (bos B) b d :: Sh 3 1 (i64s ss) a1 c1 :: Sh 3 1 (i64s (numL (pres P B))) a2 c2 :: cel b1 #[.int .i64 cap, .slice a (List.length (enP P)) c, .slice b (List.length (bos B)) d] 49 :: L) w := hS
      refine WL.nil ?_
      refine ⟨by exact ⟨RQ.ung rfl rfl rfl (RQ.ldF rfl rfl 9 hS rfl rfl ag_49 rfl rfl), RQ.ung rfl rfl rfl (RQ.pure rfl rfl rfl rfl)⟩, ?_⟩
      refine WQ.nil ?_
      intro m10
      replace hS := hS.drewN m10; generalize hwm10 : World.drewN _ _ = w at *; clear hwm10
      refine WL.ung rfl rfl rfl ?_
      refine WL.call rfl rfl (ranc_spec (cap := cap) (P := P) (a := a) (c := c) (B := B) (b := b) (d := d) (n := n) (hP := (by assumption)) (hl := (by omega)) (hB := (by assumption)) (hS := (hS.sel 7 [4, 4, 4, 0, 0, 0, 0] rfl))) rfl ?_
      clear hS; rintro _ w ⟨ls1, a4, c4, rfl, hS, f2, f3⟩
      replace hS : St g (Own 3 1 (i64s ls1) a4 c4 :: Sh 28 1 (enP P) a c :: Shs prF P :: Sh 4 1 (bos B) b d :: Own 3 1 (i64s (abG xs n)) a3 c3 :: cel p #[.int .i64 cap, .int .i64 last, .map (some m)] 60 :: blk m (.map (mE (List.map vK xs)) q) :: Shs vF xs :: Sh 3 1 (i64s ss) a1 c1 :: Sh 3 1 (i64s (numL (pres P B))) a2 c2 :: cel b1 #[.int .i64 cap, .slice a (List.length (enP P)) c, .slice b (List.length (bos B)) d] 49 :: L) w := hS
      refine WL.nil ?_
      refine ⟨by exact trivial, ?_⟩
      refine WQ.nil ?_
      intro m11
      replace hS := hS.drewN m11; generalize hwm11 : World.drewN _ _ = w at *; clear hwm11
      refine WL.ung rfl rfl rfl ?_
      replace hS := (hS.at_ 4 rfl).share
      replace hS : St g (Sh 3 1 (i64s (abG xs n)) a3 c3 :: Own 3 1 (i64s ls1) a4 c4 :: Sh 28 1 (enP P) a c :: Shs prF P :: Sh 4 1 (bos B) b d :: cel p #[.int .i64 cap, .int .i64 last, .map (some m)] 60 :: blk m (.map (mE (List.map vK xs)) q) :: Shs vF xs :: Sh 3 1 (i64s ss) a1 c1 :: Sh 3 1 (i64s (numL (pres P B))) a2 c2 :: cel b1 #[.int .i64 cap, .slice a (List.length (enP P)) c, .slice b (List.length (bos B)) d] 49 :: L) w := hS
      replace hS := (hS.at_ 1 rfl).share
      replace hS : St g (Sh 3 1 (i64s ls1) a4 c4 :: Sh 3 1 (i64s (abG xs n)) a3 c3 :: Sh 28 1 (enP P) a c :: Shs prF P :: Sh 4 1 (bos B) b d :: cel p #[.int .i64 cap, .int .i64 last, .map (some m)] 60 :: blk m (.map (mE (List.map vK xs)) q) :: Shs vF xs :: Sh 3 1 (i64s ss) a1 c1 :: Sh 3 1 (i64s (numL (pres P B))) a2 c2 :: cel b1 #[.int .i64 cap, .slice a (List.length (enP P)) c, .slice b (List.length (bos B)) d] 49 :: L) w := hS
      refine WL.call rfl rfl (sameI (xs := abG xs n) (ys := ls1) (a := a3) (b := a4) (c := c3) (d := c4) (hl := (Nat.le_trans (hG.lenA _) (by decide))) (hS := (hS.sel 2 [1, 0] rfl))) rfl ?_
      clear hS; rintro _ w ⟨ok2, rfl, hS, f4⟩
      replace hS : St g (Sh 3 1 (i64s (abG xs n)) a3 c3 :: Sh 3 1 (i64s ls1) a4 c4 :: Sh 28 1 (enP P) a c :: Shs prF P :: Sh 4 1 (bos B) b d :: cel p #[.int .i64 cap, .int .i64 last, .map (some m)] 60 :: blk m (.map (mE (List.map vK xs)) q) :: Shs vF xs :: Sh 3 1 (i64s ss) a1 c1 :: Sh 3 1 (i64s (numL (pres P B))) a2 c2 :: cel b1 #[.int .i64 cap, .slice a (List.length (enP P)) c, .slice b (List.length (bos B)) d] 49 :: L) w := hS
      refine WL.nil ?_
      refine ⟨by exact trivial, ?_⟩
      refine WQ.ung rfl rfl rfl ?_
      refine WQ.r 1 rfl ?_
      refine WQ.r 1 rfl ?_
      refine WQ.nil ?_
      intro m12
      replace hS := hS.drewN m12; generalize hwm12 : World.drewN _ _ = w at *; clear hwm12
      as_aux_lemma =>
        refine WC.ifF rfl (by rw [f4.2 (hR.anc hG hK f2 f3).symm]; rfl) ?_
        refine WC.skip ?_
        refine WC.seq ?_
        refine WC.region ?_
        obtain ⟨mm, hmm⟩ : ∃ mm : Nat, (P.length : Int) + 2 = Int.ofNat (mm + 1) := ⟨P.length + 1, by simp; omega⟩
        refine WL.r 2 rfl ?_
        refine WL.nw 48 rfl (w64 (by omega)) ?_
        refine WL.r 1 rfl ?_
        refine WL.nw 49 rfl (w64 (by omega)) ?_
        refine WL.run 4 [.slice a (List.length (enP P)) c] rfl (by exact hS.ld 10 rfl rfl) ?_
        refine WL.reb 53 (.int .i64 (Int.ofNat (mm + 1))) (congrArg (Value.int .i64) (by rw [w64 (by omega)]; omega)) ?_
        refine WL.r 1 rfl ?_
        refine WL.r 1 rfl ?_
        refine WL.nil ?_
        refine WC.seq ?_
        refine WC.plan [([0, 1, 2, 4, 5, 6], some (3, [4, 5, 6])), ([], some (7, [])), ([8, 9, 10, 11, 12, 14, 15, 16], some (13, [14, 15, 16])), ([], some (17, [])), ([18, 19], none)] (by kernel_rfl) (by kernel_rfl) ?_
        refine WQ.r 3 rfl ?_
        refine WQ.ldF rfl rfl 10 hS rfl rfl ag_49 ?_
        refine WQ.r 2 rfl ?_
        refine WQ.nil ?_
        intro m13
        replace hS := hS.drewN m13; generalize hwm13 : World.drewN _ _ = w at *; clear hwm13
        refine WL.call rfl rfl (base_spec (p := p) (m := m) (cap := cap) (last := last) (xs := xs) (q := q) (n1 := n) (n2 := Int.tmod ((n * 7) + 3) (Int.ofNat (mm + 1))) (hG := (by first | assumption | exact GI.ok (by assumption))) (hS := (hS.sel 8 [5, 5, 5, 0, 0, 0, 0, 0] rfl))) rfl ?_
        clear hS; rintro _ w ⟨rfl, hS⟩
        replace hS : St g (cel p #[.int .i64 cap, .int .i64 last, .map (some m)] 60 :: blk m (.map (mE (List.map vK xs)) q) :: Shs vF xs :: Sh 3 1 (i64s (abG xs n)) a3 c3 :: Sh 3 1 (i64s ls1) a4 c4 :: Sh 28 1 (enP P) a c :: Shs prF P :: Sh 4 1 (bos B) b d :: Sh 3 1 (i64s ss) a1 c1 :: Sh 3 1 (i64s (numL (pres P B))) a2 c2 :: cel b1 #[.int .i64 cap, .slice a (List.length (enP P)) c, .slice b (List.length (bos B)) d] 49 :: L) w := hS
        refine WL.nil ?_
        refine ⟨by exact ⟨RQ.ldF rfl rfl 10 hS rfl rfl ag_49 rfl rfl, RQ.pure rfl rfl rfl rfl, RQ.pure rfl rfl rfl rfl⟩, ?_⟩
        refine WQ.nil ?_
        intro m14
        replace hS := hS.drewN m14; generalize hwm14 : World.drewN _ _ = w at *; clear hwm14
        refine WL.call rfl rfl (rbase_spec (cap := cap) (P := P) (a := a) (c := c) (B := B) (b := b) (d := d) (x := n) (y := Int.tmod ((n * 7) + 3) (Int.ofNat (mm + 1))) (hP := (by assumption)) (hl := (by omega)) (hB := (by assumption)) (hS := (hS.sel 8 [5, 5, 5, 0, 0, 0, 0, 0] rfl))) rfl ?_
        clear hS; rintro _ w ⟨rfl, hS⟩
        replace hS : St g (Sh 28 1 (enP P) a c :: Shs prF P :: Sh 4 1 (bos B) b d :: cel p #[.int .i64 cap, .int .i64 last, .map (some m)] 60 :: blk m (.map (mE (List.map vK xs)) q) :: Shs vF xs :: Sh 3 1 (i64s (abG xs n)) a3 c3 :: Sh 3 1 (i64s ls1) a4 c4 :: Sh 3 1 (i64s ss) a1 c1 :: Sh 3 1 (i64s (numL (pres P B))) a2 c2 :: cel b1 #[.int .i64 cap, .slice a (List.length (enP P)) c, .slice b (List.length (bos B)) d] 49 :: L) w := hS
        refine WL.nil ?_
        refine ⟨by exact trivial, ?_⟩
        refine WQ.r 2 rfl ?_
        refine WQ.reb 64 (.bool false) (congrArg Value.bool (decide_eq_false ((by rw [hR.base hG]; simp)))) ?_
        refine WQ.ung rfl rfl rfl ?_
        refine WQ.r 1 rfl ?_
        refine WQ.ung rfl rfl rfl ?_
        refine WQ.r 1 rfl ?_
        refine WQ.ung rfl rfl rfl ?_
        refine WQ.r 1 rfl ?_
        refine WQ.ung rfl rfl rfl ?_
        refine WQ.ldF rfl rfl 10 hS rfl rfl ag_49 ?_
        refine WQ.ung rfl rfl rfl ?_
        refine WQ.r 1 rfl ?_
        refine WQ.ung rfl rfl rfl ?_
        refine WQ.r 1 rfl ?_
        refine WQ.nil ?_
        intro m15
        replace hS := hS.drewN m15; generalize hwm15 : World.drewN _ _ = w at *; clear hwm15
        refine WL.ung rfl rfl rfl ?_
        refine WL.call rfl rfl (base_spec (p := p) (m := m) (cap := cap) (last := last) (xs := xs) (q := q) (n1 := Int.tmod ((n * 7) + 3) (Int.ofNat (mm + 1))) (n2 := n) (hG := (by first | assumption | exact GI.ok (by assumption))) (hS := (hS.sel 6 [3, 3, 3, 0, 0, 0] rfl))) rfl ?_
        clear hS; rintro _ w ⟨rfl, hS⟩
        replace hS : St g (cel p #[.int .i64 cap, .int .i64 last, .map (some m)] 60 :: blk m (.map (mE (List.map vK xs)) q) :: Shs vF xs :: Sh 28 1 (enP P) a c :: Shs prF P :: Sh 4 1 (bos B) b d :: Sh 3 1 (i64s (abG xs n)) a3 c3 :: Sh 3 1 (i64s ls1) a4 c4 :: Sh 3 1 (i64s ss) a1 c1 :: Sh 3 1 (i64s (numL (pres P B))) a2 c2 :: cel b1 #[.int .i64 cap, .slice a (List.length (enP P)) c, .slice b (List.length (bos B)) d] 49 :: L) w := hS
        refine WL.nil ?_
        refine ⟨by exact ⟨RQ.ung rfl rfl rfl (RQ.ldF rfl rfl 10 hS rfl rfl ag_49 rfl rfl), RQ.ung rfl rfl rfl (RQ.pure rfl rfl rfl rfl), RQ.ung rfl rfl rfl (RQ.pure rfl rfl rfl rfl)⟩, ?_⟩
        refine WQ.nil ?_
        intro m16
        replace hS := hS.drewN m16; generalize hwm16 : World.drewN _ _ = w at *; clear hwm16
        refine WL.ung rfl rfl rfl ?_
        refine WL.call rfl rfl (rbase_spec (cap := cap) (P := P) (a := a) (c := c) (B := B) (b := b) (d := d) (x := Int.tmod ((n * 7) + 3) (Int.ofNat (mm + 1))) (y := n) (hP := (by assumption)) (hl := (by omega)) (hB := (by assumption)) (hS := (hS.sel 6 [3, 3, 3, 0, 0, 0] rfl))) rfl ?_
        clear hS; rintro _ w ⟨rfl, hS⟩
        replace hS : St g (Sh 28 1 (enP P) a c :: Shs prF P :: Sh 4 1 (bos B) b d :: cel p #[.int .i64 cap, .int .i64 last, .map (some m)] 60 :: blk m (.map (mE (List.map vK xs)) q) :: Shs vF xs :: Sh 3 1 (i64s (abG xs n)) a3 c3 :: Sh 3 1 (i64s ls1) a4 c4 :: Sh 3 1 (i64s ss) a1 c1 :: Sh 3 1 (i64s (numL (pres P B))) a2 c2 :: cel b1 #[.int .i64 cap, .slice a (List.length (enP P)) c, .slice b (List.length (bos B)) d] 49 :: L) w := hS
        refine WL.nil ?_
        refine ⟨by exact trivial, ?_⟩
        refine WQ.ung rfl rfl rfl ?_
        refine WQ.r 2 rfl ?_
        refine WQ.nil ?_
        intro m17
        replace hS := hS.drewN m17; generalize hwm17 : World.drewN _ _ = w at *; clear hwm17
        as_aux_lemma =>
          refine WC.ifF rfl (decide_eq_false ((by rw [hR.base hG]; simp))) ?_
          refine WC.skip ?_
          refine WC.region ?_
          refine WL.r 2 rfl ?_
          refine WL.nw 20 rfl (w64 (by omega)) ?_
          refine WL.r 1 rfl ?_
          refine WL.nil ?_
          exact ⟨_, by omega, n + 1, rfl, (hS.sel 10 [8, 8, 0, 0, 0, 0, 0, 0] rfl), (by omega), rfl⟩
    · refine WC.exit ?_
      refine WC.seq ?_
      refine WC.region ?_
      refine WL.r 1 rfl ?_
      refine WL.nil ?_
      refine WC.ret ?_
      refine ⟨[.bool true], rfl, ?_⟩
      replace hS := (hS.sel 9 [5, 5, 5, 2, 2, 2] rfl)
      exact ⟨rfl, hS⟩
theorem rnew_spec {g w : World} {L : List HP} (cap : Int) (hS : St g (L) w) :
    Sp Try.prog 20 [.int .i64 cap] w (fun v w' => v = .agg #[.int .i64 cap, .slice none 0 0, .slice none 0 0] ∧ St g (L) w') := by
  refine Sp.enter Try.func20 rfl (by kernel_rfl) (by kernel_rfl) ?_
  refine WC.seq ?_
  refine WC.region ?_
  refine WL.new rfl rfl zv_49 hS (fun b1 w hS => ?_)
  refine WL.nil ?_
  refine WC.seq ?_
  refine WC.region ?_
  refine WL.r 1 rfl ?_
  refine WL.build rfl rfl (cs := [.int .i64 cap, .slice none 0 0, .slice none 0 0]) zv_49 rfl rfl ?_
  refine WL.stF rfl rfl rfl 0 hS rfl rfl rfl rfl rfl ag_49 (fun w hS => ?_)
  replace hS : St g (cel b1 #[.int .i64 cap, .slice none 0 0, .slice none 0 0] 49 :: L) w := hS
  refine WL.nil ?_
  refine WC.ret ?_
  refine ⟨[.agg #[.int .i64 cap, .slice none 0 0, .slice none 0 0]], ⟨⟨_, rfl, hS.lvF 0 rfl ag_49⟩, trivial⟩, ?_⟩
  replace hS := (hS.sel 1 [] rfl)
  exact ⟨rfl, hS⟩
theorem rrel_spec {g w : World} {L : List HP} (cap : Int) (P : List PR) (a : Option Addr) (c : Nat) (B : List Bool) (b : Option Addr) (d : Nat) (n : Int) (hB : B.length ≤ 1000) (hS : St g (Sh 4 1 (bos B) b d :: L) w) :
    Sp Try.prog 21 [.agg #[.int .i64 cap, .slice a (List.length (enP P)) c, .slice b (List.length (bos B)) d], .int .i64 n] w (fun v w' => ∃ (B2 : List Bool) (b2 : Option Addr) (d2 : Nat), v = .tuple #[.agg #[.int .i64 cap, .slice a (List.length (enP P)) c, .slice b2 (List.length (bos B2)) d2], .int .i64 (relR B n)] ∧ St g (Sh 4 1 (bos B2) b2 d2 :: L) w' ∧ ((liveR B n = true ∧ B2 = B.set (n - 1).toNat false) ∨ (liveR B n = false ∧ B2 = B))) := by
  cases h0 : liveR B n with
  | true =>
    have e : relR B n = 0 := if_pos h0
    rw [e]
    exact (rrel_ok cap P a c B b d n hB h0 hS).mono fun v w' ⟨b2, d2, hv, hS'⟩ => ⟨_, b2, d2, hv, hS', .inl ⟨rfl, rfl⟩⟩
  | false =>
    have e : relR B n = 4 := if_neg (by rw [h0]; decide)
    rw [e]
    exact (rrel_bad cap P a c B b d n hB h0 hS).mono fun v w' ⟨hv, hS'⟩ => ⟨_, b, d, hv, hS', .inr ⟨rfl, rfl⟩⟩
theorem radd_spec {g w : World} {L : List HP} (cap : Int) (P : List PR) (a : Option Addr) (c : Nat) (B : List Bool) (b : Option Addr) (d : Nat) (ps : List Int) (e : Option Addr) (f : Nat) (hP : POk P) (hl : P.length ≤ 1000) (hB : B.length = P.length) (hpl : ps.length ≤ 1000) (hS : St g (Sh 28 1 (enP P) a c :: Shs prF P :: Sh 4 1 (bos B) b d :: Sh 3 1 (i64s ps) e f :: L) w) :
    Sp Try.prog 22 [.agg #[.int .i64 cap, .slice a (List.length (enP P)) c, .slice b (List.length (bos B)) d], .slice e (List.length (i64s ps)) f] w (fun v w' => ∃ (P2 : List PR) (a2 : Option Addr) (c2 : Nat) (B2 : List Bool) (b2 : Option Addr) (d2 : Nat), v = .tuple #[.agg #[.int .i64 cap, .slice a2 (List.length (enP P2)) c2, .slice b2 (List.length (bos B2)) d2], .int .i64 (addR P B cap ps), .int .i64 (faultR P B cap ps)] ∧ St g (Sh 28 1 (enP P2) a2 c2 :: Shs prF P2 :: Sh 4 1 (bos B2) b2 d2 :: Sh 3 1 (i64s ps) e f :: L) w' ∧ ((faultR P B cap ps = 0 ∧ ∃ (e2 : Option Addr) (f2 : Nat), P2 = P ++ [PR.mk ps e2 f2] ∧ B2 = B ++ [true]) ∨ (faultR P B cap ps ≠ 0 ∧ P2 = P ∧ B2 = B))) := by
  by_cases h0 : faultR P B cap ps = 0
  · rw [addR, if_pos h0, h0]
    exact (radd_ok cap P a c B b d ps e f hP hl hB hpl h0 hS).mono fun v w' ⟨e2, f2, a2, c2, b2, d2, hv, hS'⟩ => ⟨_, a2, c2, _, b2, d2, hv, hS', .inl ⟨rfl, e2, f2, rfl, rfl⟩⟩
  · rw [addR, if_neg h0]
    exact (radd_bad cap P a c B b d ps e f hP hl hB hpl h0 hS).mono fun v w' ⟨hv, hS'⟩ => ⟨_, a, c, _, b, d, hv, hS', .inr ⟨h0, rfl, rfl⟩⟩
set_option maxHeartbeats 1000000 in
set_option maxRecDepth 8192 in
theorem law_agrees {g w : World} {L : List HP} (cap : Int) (ls : List Cg) (a : Option Addr) (c : Nat) (hc : Ir cap) (hls : ∀ z ∈ ls, CgOk z ∧ z.ps.length ≤ maxLen) (hS : St g (Sh 38 3 (enG ls) a c :: Shs cgF ls :: L) w) :
    Sp Try.prog 7 [.int .i64 cap, .slice a (List.length (enG ls)) c] w (fun v w' => v = .bool true ∧ St g (L) w') := by
  refine Sp.enter Try.func7 rfl (by kernel_rfl) (by kernel_rfl) ?_
  refine WC.seq ?_
  refine WC.region ?_
  refine WL.r 1 rfl ?_
  refine WL.nil ?_
  refine WC.seq ?_
  refine WC.seq ?_
  refine WC.region ?_
  have hel := enG_len ls
  refine WL.r 3 rfl ?_
  refine WL.nil ?_
  refine WC.ifP rfl (fun cd1 => ?_) (fun cd1 => ?_)
  · refine WC.seq ?_
    refine WC.region ?_
    refine WL.call rfl rfl (awake_spec   (hS := hS)) rfl ?_
    clear hS; rintro _ w ⟨rfl, hS⟩
    replace hS : St g (Sh 38 3 (enG ls) a c :: Shs cgF ls :: L) w := hS
    refine WL.r 1 rfl ?_
    refine WL.nil ?_
    refine WC.ret ?_
    refine ⟨[.bool true], rfl, ?_⟩
    replace hS := (hS.sel 2 [] rfl)
    exact ⟨rfl, hS⟩
  · refine WC.skip ?_
    refine WC.seq ?_
    refine WC.region ?_
    refine WL.r 1 rfl ?_
    refine WL.call rfl rfl (mod_spec (k := cap) (n := 14) (hk := hc) (hn := (by omega)) (hS := hS)) rfl ?_
    clear hS; rintro _ w ⟨rfl, hS⟩
    replace hS : St g (Sh 38 3 (enG ls) a c :: Shs cgF ls :: L) w := hS
    refine WL.r 1 rfl ?_
    refine WL.nw 25 rfl (w64 (by omega)) ?_
    refine WL.r 1 rfl ?_
    refine WL.nil ?_
    refine WC.seq ?_
    refine WC.region ?_
    refine WL.r 1 rfl ?_
    refine WL.call rfl rfl (new_ok (cap := 1 + (cap % 14)) (hc := (by omega)) (hS := hS)) rfl ?_
    clear hS; rintro _ w ⟨p1, m1, rfl, hS⟩
    replace hS : St g (cel p1 #[.int .i64 (1 + (cap % 14)), .int .i64 0, .map (some m1)] 60 :: blk m1 (.map (mE (List.map vK [])) 0) :: Shs vF [] :: Sh 38 3 (enG ls) a c :: Shs cgF ls :: L) w := hS
    refine WL.r 5 rfl ?_
    refine WL.nil ?_
    as_aux_lemma =>
      refine WC.seq ?_
      refine WC.region ?_
      refine WL.r 1 rfl ?_
      refine WL.call rfl rfl (rnew_spec (cap := 1 + (cap % 14))  (hS := hS)) rfl ?_
      clear hS; rintro _ w ⟨rfl, hS⟩
      replace hS : St g (cel p1 #[.int .i64 (1 + (cap % 14)), .int .i64 0, .map (some m1)] 60 :: blk m1 (.map (mE (List.map vK [])) 0) :: Shs vF [] :: Sh 38 3 (enG ls) a c :: Shs cgF ls :: L) w := hS
      refine WL.new rfl rfl zv_49 hS (fun b1 w hS => ?_)
      refine WL.stF rfl rfl rfl 0 hS rfl rfl rfl rfl rfl ag_49 (fun w hS => ?_)
      replace hS : St g (cel b1 #[.int .i64 (1 + (cap % 14)), .slice none 0 0, .slice none 0 0] 49 :: cel p1 #[.int .i64 (1 + (cap % 14)), .int .i64 0, .map (some m1)] 60 :: blk m1 (.map (mE (List.map vK [])) 0) :: Shs vF [] :: Sh 38 3 (enG ls) a c :: Shs cgF ls :: L) w := hS
      refine WL.nil ?_
      refine WC.seq ?_
      refine WC.seq ?_
      refine WC.region ?_
      refine WL.call rfl rfl (awake_spec   (hS := hS)) rfl ?_
      clear hS; rintro _ w ⟨rfl, hS⟩
      replace hS : St g (cel b1 #[.int .i64 (1 + (cap % 14)), .slice none 0 0, .slice none 0 0] 49 :: cel p1 #[.int .i64 (1 + (cap % 14)), .int .i64 0, .map (some m1)] 60 :: blk m1 (.map (mE (List.map vK [])) 0) :: Shs vF [] :: Sh 38 3 (enG ls) a c :: Shs cgF ls :: L) w := hS
      refine WL.r 2 rfl ?_
      refine WL.ung rfl rfl rfl ?_
      refine WL.r 1 rfl ?_
      refine WL.ung rfl rfl rfl ?_
      refine WL.r 2 rfl ?_
      refine WL.rG 4 rfl (fun j => ?_)
      refine WL.nil ?_
      refine WC.ifF rfl (by simp) ?_
      refine WC.skip ?_
      as_aux_lemma =>
        refine WC.seq ?_
        refine WC.seq ?_
        refine WC.region ?_
        refine WL.r 1 rfl ?_
        refine WL.nil ?_
        refine WC.block ?_
        replace hS := ((hS.nil_ 28 1).share.nil_ 4 1).share.shsNil prF
        replace hS : St g (Shs prF [] :: Sh 4 1 (bos []) none 0 :: Sh 28 1 (enP []) none 0 :: cel b1 #[.int .i64 (1 + (cap % 14)), .slice none (List.length (enP [])) 0, .slice none (List.length (bos [])) 0] 49 :: cel p1 #[.int .i64 (1 + (cap % 14)), .int .i64 0, .map (some m1)] 60 :: blk m1 (.map (mE (List.map vK [])) 0) :: Shs vF [] :: Sh 38 3 (enG ls) a c :: Shs cgF ls :: L) w := hS
        refine WC.loop [1, 6, 8, 9] (fun kM vs w => ∃ (k : Nat) (xs : List VN) (q : Nat) (la : Int) (P : List PR) (ap : Option Addr) (cp : Nat) (B : List Bool) (ab : Option Addr) (cb : Nat), vs = [.slice a (List.length (enG ls)) c, .pointer (some ⟨p1, 0, none⟩), .pointer (some ⟨b1, 0, none⟩), .int .i64 (k : Int)] ∧ St g (Shs prF P :: Sh 4 1 (bos B) ab cb :: Sh 28 1 (enP P) ap cp :: cel b1 #[.int .i64 (1 + (cap % 14)), .slice ap (List.length (enP P)) cp, .slice ab (List.length (bos B)) cb] 49 :: cel p1 #[.int .i64 (1 + (cap % 14)), .int .i64 la, .map (some m1)] 60 :: blk m1 (.map (mE (List.map vK xs)) q) :: Shs vF xs :: Sh 38 3 (enG ls) a c :: Shs cgF ls :: L) w ∧ (k ≤ ls.length) ∧ (GI xs q (1 + cap % 14) la) ∧ (KO xs) ∧ (RA xs P B la) ∧ (la ≤ k) ∧ (ls.length - k) = kM) ((List.length ls) - 0) ⟨0, [], 0, 0, [], none, 0, [], none, 0, rfl, hS, (Nat.zero_le _), (⟨GOk.nil, fun _ h => (by cases h), by decide, by omega⟩), (KO.nil), (RA.nil), (by decide), rfl⟩ ?_
        clear hS; rintro _ _ w j ⟨k, xs, q, la, P, ap, cp, B, ab, cb, rfl, hS, hk, hI, hK, hR, hla, rfl⟩
        refine WC.seq ?_
        refine WC.seq ?_
        refine WC.region ?_
        refine WL.r 4 rfl ?_
        refine WL.nil ?_
        refine WC.ifP rfl (fun cd2 => ?_) (fun cd2 => ?_)
        · refine WC.skip ?_
          refine WC.seq ?_
          refine WC.block ?_
          refine WC.seq ?_
          refine WC.plan [([0, 1, 4, 5, 6], some (2, [4, 5, 6])), ([], some (3, [4, 5, 6])), ([], some (7, [])), ([8, 9, 10, 11, 12], none)] (by kernel_rfl) (by kernel_rfl) ?_
          obtain ⟨z, hz⟩ : ∃ z, ls[k]? = some z := ⟨_, List.getElem?_eq_getElem (by omega)⟩; obtain ⟨hz1, hz2⟩ := hls z (List.mem_of_getElem? hz); have hla0 := hI.la; have hP := hR.pok; have hlen := hR.len; have hB := hR.lenB; have hel := enP_len P
          replace hS : St g (Sh 3 1 (i64s z.ps) z.a z.c :: Shs prF P :: Sh 4 1 (bos B) ab cb :: Sh 28 1 (enP P) ap cp :: cel b1 #[.int .i64 (1 + (cap % 14)), .slice ap (List.length (enP P)) cp, .slice ab (List.length (bos B)) cb] 49 :: cel p1 #[.int .i64 (1 + (cap % 14)), .int .i64 la, .map (some m1)] 60 :: blk m1 (.map (mE (List.map vK xs)) q) :: Shs vF xs :: Sh 38 3 (enG ls) a c :: Shs cgF ls :: L) w := hS.shsGet 8 rfl (List.mem_of_getElem? hz)
          refine WQ.run 5 [.slice ap (List.length (enP P)) cp] rfl (by exact hS.ld 4 rfl rfl) ?_
          refine WQ.nil ?_
          intro m2
          replace hS := hS.drewN m2; generalize hwm2 : World.drewN _ _ = w at *; clear hwm2
          refine WL.ix rfl rfl (i := (k : Int)) (k) el_33 rfl rfl (by omega) (len_of (enG_at hz)) (hS.rdS 8 rfl (enG_at hz)).1 ?_
          refine WL.nil ?_
          refine ⟨by exact ⟨RQ.pure rfl rfl rfl rfl, RQ.load rfl rfl rfl rfl (hS.ld 4 rfl rfl), RQ.pure rfl rfl rfl rfl⟩, ?_⟩
          refine WQ.nil ?_
          intro m3
          replace hS := hS.drewN m3; generalize hwm3 : World.drewN _ _ = w at *; clear hwm3
          refine WL.ldC rfl rfl [.bool z.rel, .int .i64 z.ver, .slice z.a (List.length (i64s z.ps)) z.c] ag_38 rfl (hS.rdS 8 rfl (enG_at hz)).2 ?_
          refine WL.nil ?_
          refine ⟨by exact ⟨RQ.pure rfl rfl rfl rfl, RQ.load rfl rfl rfl rfl (hS.ld 4 rfl rfl), RQ.pure rfl rfl rfl rfl⟩, ?_⟩
          refine WQ.nil ?_
          intro m4
          replace hS := hS.drewN m4; generalize hwm4 : World.drewN _ _ = w at *; clear hwm4
          refine WL.call rfl rfl (args_spec (z := z) (n := (List.length (enP P) : Int)) (hz := (by assumption)) (hn := (by omega)) (hl := (by assumption)) (hS := hS)) rfl ?_
          clear hS; rintro _ w ⟨ver1, ps1, a1, c1, rfl, hS, f1, f2⟩
          replace hS : St g (Own 3 1 (i64s ps1) a1 c1 :: Sh 3 1 (i64s z.ps) z.a z.c :: Shs prF P :: Sh 4 1 (bos B) ab cb :: Sh 28 1 (enP P) ap cp :: cel b1 #[.int .i64 (1 + (cap % 14)), .slice ap (List.length (enP P)) cp, .slice ab (List.length (bos B)) cb] 49 :: cel p1 #[.int .i64 (1 + (cap % 14)), .int .i64 la, .map (some m1)] 60 :: blk m1 (.map (mE (List.map vK xs)) q) :: Shs vF xs :: Sh 38 3 (enG ls) a c :: Shs cgF ls :: L) w := hS
          refine WL.nil ?_
          refine ⟨by exact trivial, ?_⟩
          refine WQ.r 5 rfl ?_
          refine WQ.nil ?_
          intro m5
          replace hS := hS.drewN m5; generalize hwm5 : World.drewN _ _ = w at *; clear hwm5
          as_aux_lemma =>
            refine WC.seq ?_
            refine WC.seq ?_
            refine WC.region ?_
            refine WL.r 2 rfl ?_
            refine WL.ix rfl rfl (i := (k : Int)) (k) el_33 rfl rfl (by omega) (len_of (enG_at hz)) (hS.rdS 9 rfl (enG_at hz)).1 ?_
            refine WL.run 2 [.bool z.rel] rfl (by exact (hS.rdS 9 rfl (enG_at hz)).2 0 _ rfl) ?_
            refine WL.nil ?_
            refine WC.cut [1, 6, 8, 9, 10, 11, 43, 44, 45, 46, 49, 50, 51, 52, 53, 54, 55, 56, 57, 58, 59, 60, 61, 62, 63, 64] (fun vs w => ∃ (xj : List VN) (qj : Nat) (laj : Int) (Pj : List PR) (apj : Option Addr) (cpj : Nat) (Bj : List Bool) (abj : Option Addr) (cbj : Nat), vs = [.slice a (List.length (enG ls)) c, .pointer (some ⟨p1, 0, none⟩), .pointer (some ⟨b1, 0, none⟩), .int .i64 (k : Int), .int .i64 ver1, .slice a1 (List.length (i64s ps1)) c1, .int .i64 (k : Int), .slice a (List.length (enG ls)) c, .int .i64 (List.length (enG ls) : Int), .bool (decide ((k : Int) < (List.length (enG ls) : Int))), .tuple #[.int .i64 ver1, .slice a1 (List.length (i64s ps1)) c1], .slice a (List.length (enG ls)) c, .int .i64 (k : Int), .pointer (some ⟨bo a, (oo a) + (k * 3), none⟩), .agg #[.bool z.rel, .int .i64 z.ver, .slice z.a (List.length (i64s z.ps)) z.c], .pointer (some ⟨b1, 1, none⟩), .slice ap (List.length (enP P)) cp, .int .i64 (List.length (enP P) : Int), .tuple #[.int .i64 ver1, .slice a1 (List.length (i64s ps1)) c1], .int .i64 ver1, .slice a1 (List.length (i64s ps1)) c1, .slice a (List.length (enG ls)) c, .int .i64 (k : Int), .pointer (some ⟨bo a, (oo a) + (k * 3), none⟩), .pointer (some ⟨bo a, (oo a) + (k * 3), none⟩), .bool z.rel] ∧ St g (Shs prF Pj :: Sh 4 1 (bos Bj) abj cbj :: Sh 28 1 (enP Pj) apj cpj :: cel b1 #[.int .i64 (1 + (cap % 14)), .slice apj (List.length (enP Pj)) cpj, .slice abj (List.length (bos Bj)) cbj] 49 :: cel p1 #[.int .i64 (1 + (cap % 14)), .int .i64 laj, .map (some m1)] 60 :: blk m1 (.map (mE (List.map vK xj)) qj) :: Shs vF xj :: Sh 38 3 (enG ls) a c :: Shs cgF ls :: L) w ∧ (GI xj qj (1 + cap % 14) laj) ∧ (KO xj) ∧ (RA xj Pj Bj laj) ∧ (laj ≤ k + 1)) ?_ ?_
            · refine WC.if_ rfl (fun cd3 => ?_) (fun cd3 => ?_)
              · refine WC.seq ?_
                refine WC.region ?_
                refine WL.ldF rfl rfl 5 hS rfl rfl ag_49 ?_
                refine WL.r 1 rfl ?_
                refine WL.call rfl rfl (rrel_spec (cap := 1 + (cap % 14)) (P := P) (a := ap) (c := cp) (B := B) (b := ab) (d := cb) (n := ver1) (hB := (by omega)) (hS := (hS.sel 4 [3, 0, 0, 0] rfl))) rfl ?_
                clear hS; rintro _ w ⟨B1, b2, d1, rfl, hS, f3⟩
                replace hS : St g (Sh 4 1 (bos B1) b2 d1 :: Own 3 1 (i64s ps1) a1 c1 :: Sh 3 1 (i64s z.ps) z.a z.c :: Shs prF P :: Sh 28 1 (enP P) ap cp :: cel b1 #[.int .i64 (1 + (cap % 14)), .slice ap (List.length (enP P)) cp, .slice ab (List.length (bos B)) cb] 49 :: cel p1 #[.int .i64 (1 + (cap % 14)), .int .i64 la, .map (some m1)] 60 :: blk m1 (.map (mE (List.map vK xs)) q) :: Shs vF xs :: Sh 38 3 (enG ls) a c :: Shs cgF ls :: L) w := hS
                refine WL.r 3 rfl ?_
                refine WL.new rfl rfl zv_49 hS (fun b3 w hS => ?_)
                refine WL.stF rfl rfl rfl 0 hS rfl rfl rfl rfl rfl ag_49 (fun w hS => ?_)
                replace hS : St g (cel b3 #[.int .i64 (1 + (cap % 14)), .slice ap (List.length (enP P)) cp, .slice b2 (List.length (bos B1)) d1] 49 :: Sh 4 1 (bos B1) b2 d1 :: Own 3 1 (i64s ps1) a1 c1 :: Sh 3 1 (i64s z.ps) z.a z.c :: Shs prF P :: Sh 28 1 (enP P) ap cp :: cel b1 #[.int .i64 (1 + (cap % 14)), .slice ap (List.length (enP P)) cp, .slice ab (List.length (bos B)) cb] 49 :: cel p1 #[.int .i64 (1 + (cap % 14)), .int .i64 la, .map (some m1)] 60 :: blk m1 (.map (mE (List.map vK xs)) q) :: Shs vF xs :: Sh 38 3 (enG ls) a c :: Shs cgF ls :: L) w := hS
                refine WL.r 1 rfl ?_
                refine WL.nil ?_
                refine WC.seq ?_
                refine WC.seq ?_
                refine WC.region ?_
                refine WL.r 2 rfl ?_
                refine WL.call rfl rfl (rel_spec (p := p1) (m := m1) (cap := 1 + (cap % 14)) (last := la) (xs := xs) (q := q) (n := ver1) (hI := (by assumption)) (hS := (hS.sel 10 [7, 7, 7, 0, 0, 0, 0, 0, 0, 0] rfl))) rfl ?_
                clear hS; rintro _ w ⟨xs1, rfl, hS, f4, f5⟩
                replace hS : St g (cel p1 #[.int .i64 (1 + (cap % 14)), .int .i64 la, .map (some m1)] 60 :: blk m1 (.map (mE (List.map vK xs1)) q) :: Shs vF xs1 :: cel b3 #[.int .i64 (1 + (cap % 14)), .slice ap (List.length (enP P)) cp, .slice b2 (List.length (bos B1)) d1] 49 :: Sh 4 1 (bos B1) b2 d1 :: Own 3 1 (i64s ps1) a1 c1 :: Sh 3 1 (i64s z.ps) z.a z.c :: Shs prF P :: Sh 28 1 (enP P) ap cp :: cel b1 #[.int .i64 (1 + (cap % 14)), .slice ap (List.length (enP P)) cp, .slice ab (List.length (bos B)) cb] 49 :: Sh 38 3 (enG ls) a c :: Shs cgF ls :: L) w := hS
                refine WL.r 2 rfl ?_
                refine WL.nil ?_
                as_aux_lemma =>
                  refine WC.ifF rfl (decide_eq_false ((by rw [relR, relE, hR.live]; simp))) ?_
                  refine WC.skip ?_
                  refine WC.region ?_
                  refine WL.ldF rfl rfl 3 hS rfl rfl ag_49 ?_
                  refine WL.stF rfl rfl rfl 9 hS rfl rfl rfl rfl rfl ag_49 (fun w hS => ?_)
                  replace hS : St g (cel p1 #[.int .i64 (1 + (cap % 14)), .int .i64 la, .map (some m1)] 60 :: blk m1 (.map (mE (List.map vK xs1)) q) :: Shs vF xs1 :: cel b3 #[.int .i64 (1 + (cap % 14)), .slice ap (List.length (enP P)) cp, .slice b2 (List.length (bos B1)) d1] 49 :: Sh 4 1 (bos B1) b2 d1 :: Own 3 1 (i64s ps1) a1 c1 :: Sh 3 1 (i64s z.ps) z.a z.c :: Shs prF P :: Sh 28 1 (enP P) ap cp :: cel b1 #[.int .i64 (1 + (cap % 14)), .slice ap (List.length (enP P)) cp, .slice b2 (List.length (bos B1)) d1] 49 :: Sh 38 3 (enG ls) a c :: Shs cgF ls :: L) w := hS
                  refine WL.nil ?_
                  exact ⟨xs1, q, la, P, ap, cp, B1, b2, d1, rfl, (hS.sel 10 [7, 4, 6, 6, 0, 0, 0] rfl), (f4), (hK.rel hI.ok f5), (rel_step hR hI.ok f5 f3), (by omega)⟩
              · refine WC.seq ?_
                refine WC.region ?_
                refine WL.r 2 rfl ?_
                replace hS := (hS.at_ 0 rfl).share
                replace hS : St g (Sh 3 1 (i64s ps1) a1 c1 :: Sh 3 1 (i64s z.ps) z.a z.c :: Shs prF P :: Sh 4 1 (bos B) ab cb :: Sh 28 1 (enP P) ap cp :: cel b1 #[.int .i64 (1 + (cap % 14)), .slice ap (List.length (enP P)) cp, .slice ab (List.length (bos B)) cb] 49 :: cel p1 #[.int .i64 (1 + (cap % 14)), .int .i64 la, .map (some m1)] 60 :: blk m1 (.map (mE (List.map vK xs)) q) :: Shs vF xs :: Sh 38 3 (enG ls) a c :: Shs cgF ls :: L) w := hS
                refine WL.call rfl rfl (add_spec (p := p1) (m := m1) (cap := 1 + (cap % 14)) (last := la) (xs := xs) (q := q) (ps := ps1) (a := a1) (c := c1) (hI := (by assumption)) (hla := (by omega)) (hS := (hS.sel 9 [0, 5, 5, 5, 0, 0, 0, 0, 0] rfl))) rfl ?_
                clear hS; rintro _ w ⟨xs1, q1, last1, rfl, hS, f3, f4⟩
                replace hS : St g (Sh 3 1 (i64s ps1) a1 c1 :: cel p1 #[.int .i64 (1 + (cap % 14)), .int .i64 last1, .map (some m1)] 60 :: blk m1 (.map (mE (List.map vK xs1)) q1) :: Shs vF xs1 :: Sh 3 1 (i64s z.ps) z.a z.c :: Shs prF P :: Sh 4 1 (bos B) ab cb :: Sh 28 1 (enP P) ap cp :: cel b1 #[.int .i64 (1 + (cap % 14)), .slice ap (List.length (enP P)) cp, .slice ab (List.length (bos B)) cb] 49 :: Sh 38 3 (enG ls) a c :: Shs cgF ls :: L) w := hS
                refine WL.r 5 rfl ?_
                refine WL.nil ?_
                refine WC.seq ?_
                refine WC.region ?_
                refine WL.ldF rfl rfl 8 hS rfl rfl ag_49 ?_
                refine WL.r 1 rfl ?_
                refine WL.call rfl rfl (radd_spec (cap := 1 + (cap % 14)) (P := P) (a := ap) (c := cp) (B := B) (b := ab) (d := cb) (ps := ps1) (e := a1) (f := c1) (hP := (by assumption)) (hl := (by omega)) (hB := (by assumption)) (hpl := (by omega)) (hS := (hS.sel 8 [7, 5, 5, 0, 0, 0, 0, 0] rfl))) rfl ?_
                clear hS; rintro _ w ⟨P1, a2, c2, B1, b2, d1, rfl, hS, f5⟩
                replace hS : St g (Sh 28 1 (enP P1) a2 c2 :: Shs prF P1 :: Sh 4 1 (bos B1) b2 d1 :: Sh 3 1 (i64s ps1) a1 c1 :: cel p1 #[.int .i64 (1 + (cap % 14)), .int .i64 last1, .map (some m1)] 60 :: blk m1 (.map (mE (List.map vK xs1)) q1) :: Shs vF xs1 :: Sh 3 1 (i64s z.ps) z.a z.c :: cel b1 #[.int .i64 (1 + (cap % 14)), .slice ap (List.length (enP P)) cp, .slice ab (List.length (bos B)) cb] 49 :: Sh 38 3 (enG ls) a c :: Shs cgF ls :: L) w := hS
                refine WL.r 4 rfl ?_
                refine WL.new rfl rfl zv_49 hS (fun b3 w hS => ?_)
                refine WL.stF rfl rfl rfl 0 hS rfl rfl rfl rfl rfl ag_49 (fun w hS => ?_)
                replace hS : St g (cel b3 #[.int .i64 (1 + (cap % 14)), .slice a2 (List.length (enP P1)) c2, .slice b2 (List.length (bos B1)) d1] 49 :: Sh 28 1 (enP P1) a2 c2 :: Shs prF P1 :: Sh 4 1 (bos B1) b2 d1 :: Sh 3 1 (i64s ps1) a1 c1 :: cel p1 #[.int .i64 (1 + (cap % 14)), .int .i64 last1, .map (some m1)] 60 :: blk m1 (.map (mE (List.map vK xs1)) q1) :: Shs vF xs1 :: Sh 3 1 (i64s z.ps) z.a z.c :: cel b1 #[.int .i64 (1 + (cap % 14)), .slice ap (List.length (enP P)) cp, .slice ab (List.length (bos B)) cb] 49 :: Sh 38 3 (enG ls) a c :: Shs cgF ls :: L) w := hS
                refine WL.r 2 rfl ?_
                refine WL.nil ?_
                as_aux_lemma =>
                  refine WC.seq ?_
                  refine WC.seq ?_
                  refine WC.region ?_
                  refine WL.r 3 rfl ?_
                  refine WL.rG 5 rfl (fun j => ?_)
                  refine WL.prop 97 rfl (bor (dd _) (dd _)) ?_
                  refine WL.nil ?_
                  refine WC.ifF rfl (decide_eq_false ((fun h => h.elim (fun h => h (by rw [addR, addV, hR.fault hI.ok hK, hlen])) (fun h => h (by rw [hR.fault hI.ok hK]))))) ?_
                  refine WC.skip ?_
                  refine WC.region ?_
                  refine WL.ldF rfl rfl 0 hS rfl rfl ag_49 ?_
                  refine WL.stF rfl rfl rfl 9 hS rfl rfl rfl rfl rfl ag_49 (fun w hS => ?_)
                  replace hS : St g (cel b3 #[.int .i64 (1 + (cap % 14)), .slice a2 (List.length (enP P1)) c2, .slice b2 (List.length (bos B1)) d1] 49 :: Sh 28 1 (enP P1) a2 c2 :: Shs prF P1 :: Sh 4 1 (bos B1) b2 d1 :: Sh 3 1 (i64s ps1) a1 c1 :: cel p1 #[.int .i64 (1 + (cap % 14)), .int .i64 last1, .map (some m1)] 60 :: blk m1 (.map (mE (List.map vK xs1)) q1) :: Shs vF xs1 :: Sh 3 1 (i64s z.ps) z.a z.c :: cel b1 #[.int .i64 (1 + (cap % 14)), .slice a2 (List.length (enP P1)) c2, .slice b2 (List.length (bos B1)) d1] 49 :: Sh 38 3 (enG ls) a c :: Shs cgF ls :: L) w := hS
                  refine WL.nil ?_
                  exact ⟨xs1, q1, last1, P1, a2, c2, B1, b2, d1, rfl, (hS.sel 10 [2, 2, 1, 6, 2, 2, 2] rfl), (f3), (hK.add hI.le f4), (add_step hR hI hK f4 f5), (by have := f4.bnd; omega)⟩
            clear hS; rintro _ w j ⟨xj, qj, laj, Pj, apj, cpj, Bj, abj, cbj, rfl, hS, hIj, hKj, hRj, hlaj⟩
            refine WC.seq ?_
            refine WC.region ?_
            have hel2 := enP_len Pj
            refine WL.r 1 rfl ?_
            refine WL.ldF rfl rfl 3 hS rfl rfl ag_49 ?_
            refine WL.call rfl rfl (same_spec (p := p1) (m := m1) (cap := 1 + (cap % 14)) (last := laj) (xs := xj) (q := qj) (P := Pj) (a := apj) (c := cpj) (B := Bj) (b := abj) (d := cbj) (hI := (by assumption)) (hK := (by assumption)) (hR := (by assumption)) (hla := (by omega)) (hS := (hS.sel 7 [4, 4, 4, 2, 0, 0, 0] rfl))) rfl ?_
            clear hS; rintro _ w ⟨rfl, hS⟩
            replace hS : St g (cel p1 #[.int .i64 (1 + (cap % 14)), .int .i64 laj, .map (some m1)] 60 :: blk m1 (.map (mE (List.map vK xj)) qj) :: Shs vF xj :: Sh 28 1 (enP Pj) apj cpj :: Shs prF Pj :: Sh 4 1 (bos Bj) abj cbj :: cel b1 #[.int .i64 (1 + (cap % 14)), .slice apj (List.length (enP Pj)) cpj, .slice abj (List.length (bos Bj)) cbj] 49 :: Sh 38 3 (enG ls) a c :: Shs cgF ls :: L) w := hS
            refine WL.r 1 rfl ?_
            refine WL.nil ?_
            refine WC.ifF rfl rfl ?_
            refine WC.skip ?_
            refine WC.region ?_
            refine WL.r 2 rfl ?_
            refine WL.nw 48 rfl (w64 (by omega)) ?_
            refine WL.r 1 rfl ?_
            refine WL.nil ?_
            exact ⟨_, by omega, k + 1, xj, qj, laj, Pj, apj, cpj, Bj, abj, cbj, rfl, (hS.sel 7 [4, 4, 3, 3, 0, 0, 0] rfl), (by omega), (hIj), (hKj), (hRj), (by omega), rfl⟩
        · refine WC.exit ?_
          refine WC.seq ?_
          refine WC.region ?_
          refine WL.r 1 rfl ?_
          refine WL.nil ?_
          refine WC.ret ?_
          refine ⟨[.bool true], rfl, ?_⟩
          replace hS := (hS.sel 9 [] rfl)
          exact ⟨rfl, hS⟩
end Go.Proofs.Ytjoilgpleaemcaa
