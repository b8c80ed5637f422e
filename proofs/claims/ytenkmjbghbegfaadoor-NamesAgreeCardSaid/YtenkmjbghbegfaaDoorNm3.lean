/-
  Lists of words compared; the example of the chapter.
  Conditions: sizes below a bound.
-/
import Derived.Test.YtenkmjbghbegfaaDoorSet
namespace Go.Proofs.YtenkmjbghbegfaaDoor
open Go Go.V

theorem sameU {g w : World} {L : List HP} (xs ys : List Int) (a b : Option Addr) (c d : Nat) (hl : xs.length ≤ 1000000000) (hS : St g (Sh 31 1 (u64s xs) a c :: Sh 31 1 (u64s ys) b d :: L) w) :
    Sp Tryd.prog 13 [.slice a (List.length (u64s xs)) c, .slice b (List.length (u64s ys)) d] w (fun v w' => ∃ (ok : Bool), v = .bool ok ∧ St g (Sh 31 1 (u64s xs) a c :: Sh 31 1 (u64s ys) b d :: L) w' ∧ (ok = true ↔ xs = ys)) := by
  refine Sp.enter Tryd.func13 rfl (by kernel_rfl) (by kernel_rfl) ?_
  have _ := hl
  refine WC.seq ?_
  refine WC.region ?_
  refine WL.r 1 rfl ?_
  refine WL.nil ?_
  refine WC.seq ?_
  refine WC.seq ?_
  refine WC.region ?_
  have h1 := u64s_len xs; have h2 := u64s_len ys
  refine WL.r 5 rfl ?_
  refine WL.nil ?_
  refine WC.ifP rfl (fun cd1 => ?_) (fun cd1 => ?_)
  · refine WC.seq ?_
    refine WC.region ?_
    refine WL.r 1 rfl ?_
    refine WL.nil ?_
    refine WC.ret ?_
    refine ⟨[.bool false], rfl, ?_⟩
    exact ⟨_, rfl, hS, ⟨fun h => (by cases h), fun h => by rw [h1, h2, h] at cd1; exact absurd rfl cd1⟩⟩
  · refine WC.skip ?_
    refine WC.seq ?_
    refine WC.seq ?_
    refine WC.region ?_
    refine WL.r 1 rfl ?_
    refine WL.nil ?_
    refine WC.block ?_
    refine WC.loop [0, 1, 5] (fun kM vs w => ∃ (k : Nat), vs = [.slice a (List.length (u64s xs)) c, .slice b (List.length (u64s ys)) d, .int .i64 (k : Int)] ∧ St g (Sh 31 1 (u64s xs) a c :: Sh 31 1 (u64s ys) b d :: L) w ∧ (k ≤ xs.length) ∧ (xs.take k = ys.take k) ∧ (xs.length - k) = kM) ((List.length xs) - 0) ⟨0, rfl, hS, (Nat.zero_le _), (rfl), rfl⟩ ?_
    clear hS; rintro _ _ w j ⟨k, rfl, hS, hk, he, rfl⟩
    refine WC.seq ?_
    refine WC.seq ?_
    refine WC.region ?_
    refine WL.r 4 rfl ?_
    refine WL.nil ?_
    as_aux_lemma =>
      refine WC.ifP rfl (fun cd2 => ?_) (fun cd2 => ?_)
      · refine WC.skip ?_
        refine WC.seq ?_
        refine WC.block ?_
        refine WC.seq ?_
        refine WC.plan [([0, 1, 4, 5, 2, 6, 3, 7, 8], none)] (by kernel_rfl) (by kernel_rfl) ?_
        refine WQ.r 4 rfl ?_
        obtain ⟨x, hx⟩ : ∃ x, xs[k]? = some x := ⟨_, List.getElem?_eq_getElem (by omega)⟩
        refine WQ.ix rfl rfl (i := (k : Int)) (k) el_26 rfl rfl (by omega) (len_of (u64s_at hx)) (hS.rdS 0 rfl (u64s_at hx)).1 ?_
        obtain ⟨y, hy⟩ : ∃ y, ys[k]? = some y := ⟨_, List.getElem?_eq_getElem (by omega)⟩
        refine WQ.ix rfl rfl (i := (k : Int)) (k) el_26 rfl rfl (by omega) (len_of (u64s_at hy)) (hS.rdS 1 rfl (u64s_at hy)).1 ?_
        refine WQ.run 3 [.int .u64 x, .int .u64 y] rfl (by exact ⟨(hS.rdS 0 rfl (u64s_at hx)).2 0 _ rfl, (hS.rdS 1 rfl (u64s_at hy)).2 0 _ rfl⟩) ?_
        refine WQ.nil ?_
        intro m1
        replace hS := hS.drewN m1; generalize hwm1 : World.drewN _ _ = w at *; clear hwm1
        refine WC.ifP rfl (fun cd3 => ?_) (fun cd3 => ?_)
        · refine WC.seq ?_
          refine WC.region ?_
          refine WL.r 1 rfl ?_
          refine WL.nil ?_
          refine WC.ret ?_
          refine ⟨[.bool false], rfl, ?_⟩
          exact ⟨_, rfl, hS, ⟨fun h => (by cases h), fun h => by subst h; rw [hx] at hy; cases hy; exact absurd rfl cd3⟩⟩
        · refine WC.skip ?_
          refine WC.region ?_
          refine WL.r 2 rfl ?_
          refine WL.nw 16 rfl (w64 (by omega)) ?_
          refine WL.r 1 rfl ?_
          refine WL.nil ?_
          exact ⟨_, by omega, k + 1, rfl, hS, (by omega), (by rw [List.take_add_one, List.take_add_one, he, hx, hy, Classical.not_not.1 cd3]), rfl⟩
      · refine WC.exit ?_
        refine WC.seq ?_
        refine WC.region ?_
        refine WL.r 1 rfl ?_
        refine WL.nil ?_
        refine WC.ret ?_
        refine ⟨[.bool true], rfl, ?_⟩
        exact ⟨_, rfl, hS, ⟨fun _ => by rw [← List.take_of_length_le (i := k) (l := xs) (by omega), he, List.take_of_length_le (by omega)], fun _ => rfl⟩⟩

set_option maxHeartbeats 1000000 in
set_option maxRecDepth 8192 in
theorem awake_spec {g w : World} {L : List HP} (hS : St g (L) w) :
    Sp Tryd.prog 8 [] w (fun v w' => v = .bool true ∧ St g (L) w') := by
  refine Sp.enter Tryd.func8 rfl (by kernel_rfl) (by kernel_rfl) ?_
  refine WC.seq ?_
  refine WC.region ?_
  refine WL.r 1 rfl ?_
  refine WL.nil ?_
  refine WC.seq ?_
  refine WC.region ?_
  refine WL.call rfl rfl (new_spec   (hS := hS)) rfl ?_
  clear hS; rintro _ w ⟨t1, m1, rfl, hS⟩
  replace hS : St g (cel t1 #[.map (some m1)] 62 :: blk m1 (.map (mE (List.map nbK [])) 0) :: Buns nbF [] :: L) w := hS
  refine WL.r 1 rfl ?_
  refine WL.nil ?_
  refine WC.seq ?_
  refine WC.region ?_
  refine WL.r 3 rfl ?_
  refine WL.ung rfl rfl rfl ?_
  refine WL.call rfl rfl (validName_spec (s := ⟨#[117, 115, 101, 114, 47, 102, 105, 120, 45, 49, 46, 50]⟩)  (hS := hS)) rfl ?_
  clear hS; rintro _ w ⟨rfl, hS⟩
  replace hS : St g (cel t1 #[.map (some m1)] 62 :: blk m1 (.map (mE (List.map nbK [])) 0) :: Buns nbF [] :: L) w := hS
  refine WL.r 2 rfl ?_
  refine WL.reb 8 (.bool true) (congrArg Value.bool (decide_eq_true ((by decide +kernel)))) ?_
  refine WL.ung rfl rfl rfl ?_
  refine WL.call rfl rfl (validName_spec (s := ⟨#[97, 47, 47, 98]⟩)  (hS := hS)) rfl ?_
  clear hS; rintro _ w ⟨rfl, hS⟩
  replace hS : St g (cel t1 #[.map (some m1)] 62 :: blk m1 (.map (mE (List.map nbK [])) 0) :: Buns nbF [] :: L) w := hS
  refine WL.ung rfl rfl rfl ?_
  refine WL.r 1 rfl ?_
  refine WL.prop 10 rfl (bnot (dd _)) ?_
  refine WL.r 2 rfl ?_
  refine WL.reb 12 (.bool true) (congrArg Value.bool (decide_eq_true ((by decide +kernel)))) ?_
  refine WL.ung rfl rfl rfl ?_
  refine WL.r 1 rfl ?_
  refine WL.ung rfl rfl rfl ?_
  refine WL.call rfl rfl (set_add (t := t1) (m := m1) (xs := []) (q := 0) (s := ⟨#[109, 97, 105, 110]⟩) (y := 5) (hv := (by decide +kernel)) (h0 := (by decide)) (hn := (fun _ h => by cases h)) (hl := (by decide)) (hS := hS)) rfl ?_
  clear hS; rintro _ w ⟨b1, rfl, hS⟩
  replace hS : St g (cel t1 #[.map (some m1)] 62 :: blk m1 (.map (mE (List.map nbK ([] ++ [NB.mk ⟨#[109, 97, 105, 110]⟩ 5 [] b1 none 0 0]))) (0 + 1)) :: Buns nbF ([] ++ [NB.mk ⟨#[109, 97, 105, 110]⟩ 5 [] b1 none 0 0]) :: L) w := hS
  refine WL.ung rfl rfl rfl ?_
  refine WL.r 3 rfl ?_
  refine WL.reb 17 (.bool true) (congrArg Value.bool (decide_eq_true (by decide))) ?_
  refine WL.ung rfl rfl rfl ?_
  refine WL.r 1 rfl ?_
  refine WL.ung rfl rfl rfl ?_
  refine WL.call rfl rfl (set_chg (t := t1) (m := m1) (xs := [] ++ [NB.mk ⟨#[109, 97, 105, 110]⟩ 5 [] b1 none 0 0]) (q := 0 + 1) (s := ⟨#[109, 97, 105, 110]⟩) (x := 5) (y := 6) (k := 0) (z := NB.mk ⟨#[109, 97, 105, 110]⟩ 5 [] b1 none 0 0) (hv := (by decide +kernel)) (h0 := (by decide)) (hy := (by decide)) (hz := rfl) (hn := rfl) (hu := (by simp [Uniq])) (hh := rfl) (hlg := (Nat.zero_le _)) (hS := hS)) rfl ?_
  clear hS; rintro _ w ⟨a1, c1, rfl, hS⟩
  replace hS : St g (cel t1 #[.map (some m1)] 62 :: blk m1 (.map (mE (List.map nbK (List.set ([] ++ [NB.mk ⟨#[109, 97, 105, 110]⟩ 5 [] b1 none 0 0]) 0 (NB.mk (NB.mk ⟨#[109, 97, 105, 110]⟩ 5 [] b1 none 0 0).name 6 (lgn (NB.mk ⟨#[109, 97, 105, 110]⟩ 5 [] b1 none 0 0).lg 5) (NB.mk ⟨#[109, 97, 105, 110]⟩ 5 [] b1 none 0 0).b a1 c1 (NB.mk ⟨#[109, 97, 105, 110]⟩ 5 [] b1 none 0 0).born)))) (0 + 1)) :: Buns nbF (List.set ([] ++ [NB.mk ⟨#[109, 97, 105, 110]⟩ 5 [] b1 none 0 0]) 0 (NB.mk (NB.mk ⟨#[109, 97, 105, 110]⟩ 5 [] b1 none 0 0).name 6 (lgn (NB.mk ⟨#[109, 97, 105, 110]⟩ 5 [] b1 none 0 0).lg 5) (NB.mk ⟨#[109, 97, 105, 110]⟩ 5 [] b1 none 0 0).b a1 c1 (NB.mk ⟨#[109, 97, 105, 110]⟩ 5 [] b1 none 0 0).born)) :: L) w := hS
  refine WL.ung rfl rfl rfl ?_
  refine WL.r 3 rfl ?_
  refine WL.reb 22 (.bool true) (congrArg Value.bool (decide_eq_true (by decide))) ?_
  refine WL.ung rfl rfl rfl ?_
  refine WL.r 1 rfl ?_
  refine WL.ung rfl rfl rfl ?_
  refine WL.call rfl rfl (set_staleI (t := t1) (m := m1) (xs := List.set ([] ++ [NB.mk ⟨#[109, 97, 105, 110]⟩ 5 [] b1 none 0 0]) 0 (NB.mk (NB.mk ⟨#[109, 97, 105, 110]⟩ 5 [] b1 none 0 0).name 6 (lgn (NB.mk ⟨#[109, 97, 105, 110]⟩ 5 [] b1 none 0 0).lg 5) (NB.mk ⟨#[109, 97, 105, 110]⟩ 5 [] b1 none 0 0).b a1 c1 (NB.mk ⟨#[109, 97, 105, 110]⟩ 5 [] b1 none 0 0).born)) (q := 0 + 1) (s := ⟨#[109, 97, 105, 110]⟩) (x := 5) (y := 7) (k := 0) (z := NB.mk ⟨#[109, 97, 105, 110]⟩ 6 (lgn [] 5) b1 a1 c1 0) (hv := (by decide +kernel)) (h0 := (by decide)) (hz := rfl) (hn := rfl) (hu := (by simp [Uniq])) (hh := (show (6 : Int) ≠ 5 by decide)) (hS := hS)) rfl ?_
  clear hS; rintro _ w ⟨rfl, hS⟩
  replace hS : St g (cel t1 #[.map (some m1)] 62 :: blk m1 (.map (mE (List.map nbK (List.set ([] ++ [NB.mk ⟨#[109, 97, 105, 110]⟩ 5 [] b1 none 0 0]) 0 (NB.mk (NB.mk ⟨#[109, 97, 105, 110]⟩ 5 [] b1 none 0 0).name 6 (lgn (NB.mk ⟨#[109, 97, 105, 110]⟩ 5 [] b1 none 0 0).lg 5) (NB.mk ⟨#[109, 97, 105, 110]⟩ 5 [] b1 none 0 0).b a1 c1 (NB.mk ⟨#[109, 97, 105, 110]⟩ 5 [] b1 none 0 0).born)))) (0 + 1)) :: Buns nbF (List.set ([] ++ [NB.mk ⟨#[109, 97, 105, 110]⟩ 5 [] b1 none 0 0]) 0 (NB.mk (NB.mk ⟨#[109, 97, 105, 110]⟩ 5 [] b1 none 0 0).name 6 (lgn (NB.mk ⟨#[109, 97, 105, 110]⟩ 5 [] b1 none 0 0).lg 5) (NB.mk ⟨#[109, 97, 105, 110]⟩ 5 [] b1 none 0 0).b a1 c1 (NB.mk ⟨#[109, 97, 105, 110]⟩ 5 [] b1 none 0 0).born)) :: L) w := hS
  refine WL.ung rfl rfl rfl ?_
  refine WL.r 3 rfl ?_
  refine WL.reb 27 (.bool true) (congrArg Value.bool (decide_eq_true (by decide))) ?_
  refine WL.ung rfl rfl rfl ?_
  refine WL.r 1 rfl ?_
  refine WL.ung rfl rfl rfl ?_
  refine WL.call rfl rfl (log_in (t := t1) (m := m1) (xs := List.set ([] ++ [NB.mk ⟨#[109, 97, 105, 110]⟩ 5 [] b1 none 0 0]) 0 (NB.mk (NB.mk ⟨#[109, 97, 105, 110]⟩ 5 [] b1 none 0 0).name 6 (lgn (NB.mk ⟨#[109, 97, 105, 110]⟩ 5 [] b1 none 0 0).lg 5) (NB.mk ⟨#[109, 97, 105, 110]⟩ 5 [] b1 none 0 0).b a1 c1 (NB.mk ⟨#[109, 97, 105, 110]⟩ 5 [] b1 none 0 0).born)) (q := 0 + 1) (s := ⟨#[109, 97, 105, 110]⟩) (k := 0) (x := NB.mk ⟨#[109, 97, 105, 110]⟩ 6 (lgn [] 5) b1 a1 c1 0) (hx := rfl) (hn := rfl) (hu := (by simp [Uniq])) (hl := (show (1 : Nat) ≤ 1000000 by decide)) (hS := hS)) rfl ?_
  clear hS; rintro _ w ⟨a2, c2, rfl, hS⟩
  replace hS : St g (Own 31 1 (u64s (NB.mk ⟨#[109, 97, 105, 110]⟩ 6 (lgn [] 5) b1 a1 c1 0).lg.reverse) a2 c2 :: cel t1 #[.map (some m1)] 62 :: blk m1 (.map (mE (List.map nbK (List.set ([] ++ [NB.mk ⟨#[109, 97, 105, 110]⟩ 5 [] b1 none 0 0]) 0 (NB.mk (NB.mk ⟨#[109, 97, 105, 110]⟩ 5 [] b1 none 0 0).name 6 (lgn (NB.mk ⟨#[109, 97, 105, 110]⟩ 5 [] b1 none 0 0).lg 5) (NB.mk ⟨#[109, 97, 105, 110]⟩ 5 [] b1 none 0 0).b a1 c1 (NB.mk ⟨#[109, 97, 105, 110]⟩ 5 [] b1 none 0 0).born)))) (0 + 1)) :: Buns nbF (List.set ([] ++ [NB.mk ⟨#[109, 97, 105, 110]⟩ 5 [] b1 none 0 0]) 0 (NB.mk (NB.mk ⟨#[109, 97, 105, 110]⟩ 5 [] b1 none 0 0).name 6 (lgn (NB.mk ⟨#[109, 97, 105, 110]⟩ 5 [] b1 none 0 0).lg 5) (NB.mk ⟨#[109, 97, 105, 110]⟩ 5 [] b1 none 0 0).b a1 c1 (NB.mk ⟨#[109, 97, 105, 110]⟩ 5 [] b1 none 0 0).born)) :: L) w := hS
  refine WL.ung rfl rfl rfl ?_
  refine WL.lit rfl rfl (u64s [5]) el_26 hS (by exact ⟨rfl, rfl⟩) (u64s_ok _) rfl (by decide) (fun b2 w hS => ?_)
  refine WL.ung rfl rfl rfl ?_
  replace hS := (hS.at_ 1 rfl).share
  replace hS : St g (Sh 31 1 (u64s (NB.mk ⟨#[109, 97, 105, 110]⟩ 6 (lgn [] 5) b1 a1 c1 0).lg.reverse) a2 c2 :: Own 31 1 (u64s [5]) (some ⟨b2, 0, none⟩) (List.length (u64s [5])) :: cel t1 #[.map (some m1)] 62 :: blk m1 (.map (mE (List.map nbK (List.set ([] ++ [NB.mk ⟨#[109, 97, 105, 110]⟩ 5 [] b1 none 0 0]) 0 (NB.mk (NB.mk ⟨#[109, 97, 105, 110]⟩ 5 [] b1 none 0 0).name 6 (lgn (NB.mk ⟨#[109, 97, 105, 110]⟩ 5 [] b1 none 0 0).lg 5) (NB.mk ⟨#[109, 97, 105, 110]⟩ 5 [] b1 none 0 0).b a1 c1 (NB.mk ⟨#[109, 97, 105, 110]⟩ 5 [] b1 none 0 0).born)))) (0 + 1)) :: Buns nbF (List.set ([] ++ [NB.mk ⟨#[109, 97, 105, 110]⟩ 5 [] b1 none 0 0]) 0 (NB.mk (NB.mk ⟨#[109, 97, 105, 110]⟩ 5 [] b1 none 0 0).name 6 (lgn (NB.mk ⟨#[109, 97, 105, 110]⟩ 5 [] b1 none 0 0).lg 5) (NB.mk ⟨#[109, 97, 105, 110]⟩ 5 [] b1 none 0 0).b a1 c1 (NB.mk ⟨#[109, 97, 105, 110]⟩ 5 [] b1 none 0 0).born)) :: L) w := hS
  replace hS := (hS.at_ 1 rfl).share
  replace hS : St g (Sh 31 1 (u64s [5]) (some ⟨b2, 0, none⟩) (List.length (u64s [5])) :: Sh 31 1 (u64s (NB.mk ⟨#[109, 97, 105, 110]⟩ 6 (lgn [] 5) b1 a1 c1 0).lg.reverse) a2 c2 :: cel t1 #[.map (some m1)] 62 :: blk m1 (.map (mE (List.map nbK (List.set ([] ++ [NB.mk ⟨#[109, 97, 105, 110]⟩ 5 [] b1 none 0 0]) 0 (NB.mk (NB.mk ⟨#[109, 97, 105, 110]⟩ 5 [] b1 none 0 0).name 6 (lgn (NB.mk ⟨#[109, 97, 105, 110]⟩ 5 [] b1 none 0 0).lg 5) (NB.mk ⟨#[109, 97, 105, 110]⟩ 5 [] b1 none 0 0).b a1 c1 (NB.mk ⟨#[109, 97, 105, 110]⟩ 5 [] b1 none 0 0).born)))) (0 + 1)) :: Buns nbF (List.set ([] ++ [NB.mk ⟨#[109, 97, 105, 110]⟩ 5 [] b1 none 0 0]) 0 (NB.mk (NB.mk ⟨#[109, 97, 105, 110]⟩ 5 [] b1 none 0 0).name 6 (lgn (NB.mk ⟨#[109, 97, 105, 110]⟩ 5 [] b1 none 0 0).lg 5) (NB.mk ⟨#[109, 97, 105, 110]⟩ 5 [] b1 none 0 0).b a1 c1 (NB.mk ⟨#[109, 97, 105, 110]⟩ 5 [] b1 none 0 0).born)) :: L) w := hS
  refine WL.call rfl rfl (sameU (xs := (NB.mk ⟨#[109, 97, 105, 110]⟩ 6 (lgn [] 5) b1 a1 c1 0).lg.reverse) (ys := [5]) (a := a2) (b := some ⟨b2, 0, none⟩) (c := c2) (d := List.length (u64s [5])) (hl := (show (1 : Nat) ≤ 1000000000 by decide)) (hS := (hS.sel 2 [1, 0] rfl))) rfl ?_
  clear hS; rintro _ w ⟨ok1, rfl, hS, f1⟩
  replace hS : St g (Sh 31 1 (u64s (NB.mk ⟨#[109, 97, 105, 110]⟩ 6 (lgn [] 5) b1 a1 c1 0).lg.reverse) a2 c2 :: Sh 31 1 (u64s [5]) (some ⟨b2, 0, none⟩) (List.length (u64s [5])) :: cel t1 #[.map (some m1)] 62 :: blk m1 (.map (mE (List.map nbK (List.set ([] ++ [NB.mk ⟨#[109, 97, 105, 110]⟩ 5 [] b1 none 0 0]) 0 (NB.mk (NB.mk ⟨#[109, 97, 105, 110]⟩ 5 [] b1 none 0 0).name 6 (lgn (NB.mk ⟨#[109, 97, 105, 110]⟩ 5 [] b1 none 0 0).lg 5) (NB.mk ⟨#[109, 97, 105, 110]⟩ 5 [] b1 none 0 0).b a1 c1 (NB.mk ⟨#[109, 97, 105, 110]⟩ 5 [] b1 none 0 0).born)))) (0 + 1)) :: Buns nbF (List.set ([] ++ [NB.mk ⟨#[109, 97, 105, 110]⟩ 5 [] b1 none 0 0]) 0 (NB.mk (NB.mk ⟨#[109, 97, 105, 110]⟩ 5 [] b1 none 0 0).name 6 (lgn (NB.mk ⟨#[109, 97, 105, 110]⟩ 5 [] b1 none 0 0).lg 5) (NB.mk ⟨#[109, 97, 105, 110]⟩ 5 [] b1 none 0 0).b a1 c1 (NB.mk ⟨#[109, 97, 105, 110]⟩ 5 [] b1 none 0 0).born)) :: L) w := hS
  refine WL.r 2 rfl ?_
  refine WL.nil ?_
  as_aux_lemma =>
    refine WC.ret ?_
    refine ⟨[.bool ok1], rfl, ?_⟩
    replace hS := (hS.sel 5 [] rfl)
    exact ⟨congrArg Value.bool (f1.2 rfl), hS⟩
end Go.Proofs.YtenkmjbghbegfaaDoor
