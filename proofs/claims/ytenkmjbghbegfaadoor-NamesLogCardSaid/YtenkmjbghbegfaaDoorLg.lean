/-
  The law NamesLog, walked.
  Conditions: the arguments lie in their kinds.
-/
import Derived.Test.YtenkmjbghbegfaaDoorNm3
namespace Go.Proofs.YtenkmjbghbegfaaDoor
open Go Go.V

theorem log_step {lg t : List Int} {h : Int} (e : lg = (t.take 16).reverse) : lgn lg h = ((h :: t).take 16).reverse := by
  subst e
  unfold lgn
  rw [show (t.take 16).reverse ++ [h] = (h :: t.take 16).reverse by simp, List.drop_reverse]
  congr 1
  simp only [List.length_cons, List.length_reverse, List.length_take, List.take_succ_cons]
  by_cases hl : t.length ≤ 15
  · rw [show min 16 t.length + 1 - (min 16 t.length + 1 - 16) = t.length + 1 by omega, List.take_succ_cons]
    congr 1
    rw [List.take_take, List.take_of_length_le (i := 15) hl, List.take_of_length_le (by omega)]
  · rw [show min 16 t.length + 1 - (min 16 t.length + 1 - 16) = 16 by omega, List.take_succ_cons, List.take_take]
    rfl
theorem log_same {lg t al : List Int} {h y : Int} (e : lg = (t.take 16).reverse) (ha : al = h :: t) : (lgn lg h).reverse = (([y] ++ al).take (min (al.length + 1) 17)).drop 1 := by
  rw [log_step e, List.reverse_reverse, ha]
  by_cases hl : t.length ≤ 15
  · rw [show min ((h :: t).length + 1) 17 = t.length + 2 by simp only [List.length_cons]; omega, List.take_of_length_le (by simp only [List.length_cons]; omega), List.take_of_length_le (by simp)]; rfl
  · rw [show min ((h :: t).length + 1) 17 = 17 by simp only [List.length_cons]; omega]; rfl
set_option maxHeartbeats 1000000 in
set_option maxRecDepth 8192 in
theorem law_log {g w : World} {L : List HP} (hs : List Int) (a : Option Addr) (c : Nat) (hb : ∀ x ∈ hs, 0 ≤ x ∧ x ≤ 18446744073709551615) (hS : St g (Sh 31 1 (u64s hs) a c :: L) w) :
    Sp Tryd.prog 4 [.slice a (List.length (u64s hs)) c] w (fun v w' => v = .bool true ∧ St g (L) w') := by
  refine Sp.enter Tryd.func4 rfl (by kernel_rfl) (by kernel_rfl) ?_
  have _ := hb
  refine WC.seq ?_
  refine WC.region ?_
  refine WL.r 1 rfl ?_
  refine WL.nil ?_
  refine WC.seq ?_
  refine WC.region ?_
  refine WL.call rfl rfl (new_spec   (hS := hS)) rfl ?_
  clear hS; rintro _ w ⟨t1, m1, rfl, hS⟩
  replace hS : St g (cel t1 #[.map (some m1)] 62 :: blk m1 (.map (mE (List.map nbK [])) 0) :: Buns nbF [] :: Sh 31 1 (u64s hs) a c :: L) w := hS
  refine WL.r 1 rfl ?_
  refine WL.nil ?_
  refine WC.seq ?_
  refine WC.seq ?_
  refine WC.region ?_
  have hul := u64s_len hs
  refine WL.call rfl rfl (awake_spec   (hS := hS)) rfl ?_
  clear hS; rintro _ w ⟨rfl, hS⟩
  replace hS : St g (cel t1 #[.map (some m1)] 62 :: blk m1 (.map (mE (List.map nbK [])) 0) :: Buns nbF [] :: Sh 31 1 (u64s hs) a c :: L) w := hS
  refine WL.r 2 rfl ?_
  refine WL.ung rfl rfl rfl ?_
  refine WL.r 1 rfl ?_
  refine WL.ung rfl rfl rfl ?_
  refine WL.r 3 rfl ?_
  refine WL.ung rfl rfl rfl ?_
  refine WL.r 1 rfl ?_
  refine WL.ung rfl rfl rfl ?_
  refine WL.call rfl rfl (set_add (t := t1) (m := m1) (xs := []) (q := 0) (s := ⟨#[109, 97, 105, 110]⟩) (y := 1) (hv := (by decide +kernel)) (h0 := (by decide)) (hn := (fun _ h => by cases h)) (hl := (by decide)) (hS := hS)) rfl ?_
  clear hS; rintro _ w ⟨b1, rfl, hS⟩
  replace hS : St g (cel t1 #[.map (some m1)] 62 :: blk m1 (.map (mE (List.map nbK ([] ++ [NB.mk ⟨#[109, 97, 105, 110]⟩ 1 [] b1 none 0 0]))) (0 + 1)) :: Buns nbF ([] ++ [NB.mk ⟨#[109, 97, 105, 110]⟩ 1 [] b1 none 0 0]) :: Sh 31 1 (u64s hs) a c :: L) w := hS
  refine WL.ung rfl rfl rfl ?_
  refine WL.r 2 rfl ?_
  refine WL.nil ?_
  as_aux_lemma =>
    refine WC.ifF rfl (by decide) ?_
    refine WC.skip ?_
    refine WC.seq ?_
    refine WC.region ?_
    refine WL.lit rfl rfl (u64s [1]) el_26 hS (by exact ⟨rfl, rfl⟩) (u64s_ok _) rfl (by decide) (fun b2 w hS => ?_)
    refine WL.r 1 rfl ?_
    refine WL.nil ?_
    refine WC.seq ?_
    refine WC.seq ?_
    refine WC.region ?_
    refine WL.r 1 rfl ?_
    refine WL.nil ?_
    refine WC.block ?_
    replace hS := (hS.at_ 0 rfl).share
    replace hS : St g (Sh 31 1 (u64s [1]) (some ⟨b2, 0, none⟩) 1 :: cel t1 #[.map (some m1)] 62 :: blk m1 (.map (mE (List.map nbK [NB.mk ⟨#[109, 97, 105, 110]⟩ 1 [] b1 none 0 0])) 1) :: Buns nbF [NB.mk ⟨#[109, 97, 105, 110]⟩ 1 [] b1 none 0 0] :: Sh 31 1 (u64s hs) a c :: L) w := hS
    refine WC.loop [0, 3, 4, 5] (fun kM vs w => ∃ (k : Nat) (h : Int) (t al lg : List Int) (la ua : Option Addr) (lc uc : Nat), vs = [.slice a (List.length (u64s hs)) c, .pointer (some ⟨t1, 0, none⟩), .slice ua (List.length (u64s al)) uc, .int .i64 (k : Int)] ∧ St g (Sh 31 1 (u64s al) ua uc :: cel t1 #[.map (some m1)] 62 :: blk m1 (.map (mE (List.map nbK [NB.mk ⟨#[109, 97, 105, 110]⟩ h lg b1 la lc 0])) 1) :: Buns nbF [NB.mk ⟨#[109, 97, 105, 110]⟩ h lg b1 la lc 0] :: Sh 31 1 (u64s hs) a c :: L) w ∧ (k ≤ hs.length ∧ k ≤ 60) ∧ (al = h :: t) ∧ (al.length = k + 1) ∧ (lg = (t.take 16).reverse) ∧ (h ≠ 0) ∧ (hs.length - k) = kM) ((List.length hs) - 0) ⟨0, 1, [], [1], [], none, some ⟨b2, 0, none⟩, 0, 1, rfl, hS, (by omega), (rfl), (rfl), (rfl), (by decide), rfl⟩ ?_
    clear hS; rintro _ _ w j ⟨k, h, t, al, lg, la, ua, lc, uc, rfl, hS, hk, hal, hn, hlg, h0, rfl⟩
    refine WC.seq ?_
    refine WC.seq ?_
    refine WC.region ?_
    refine WL.r 4 rfl ?_
    refine WL.rG 4 rfl (fun j => ?_)
    refine WL.prop 29 rfl (band (dd _) (dd _)) ?_
    refine WL.nil ?_
    refine WC.ifP rfl (fun cd2 => ?_) (fun cd2 => ?_)
    · refine WC.skip ?_
      as_aux_lemma =>
        refine WC.seq ?_
        refine WC.block ?_
        refine WC.seq ?_
        refine WC.region ?_
        refine WL.r 2 rfl ?_
        obtain ⟨v, hv⟩ : ∃ v, hs[k]? = some v := ⟨_, List.getElem?_eq_getElem (by omega)⟩
        refine WL.ix rfl rfl (i := (k : Int)) (k) el_26 rfl rfl (by omega) (by omega) (hS.rdS 4 rfl (u64s_at hv)).1 ?_
        refine WL.run 2 [.int .u64 v] rfl (by exact (hS.rdS 4 rfl (u64s_at hv)).2 0 _ rfl) ?_
        refine WL.nil ?_
        refine WC.seq ?_
        refine WC.seq ?_
        refine WC.region ?_
        refine WL.r 2 rfl ?_
        refine WL.nil ?_
        refine WC.cut [0, 3, 4, 5, 6, 22, 23, 24, 25, 26, 29, 32, 33, 34, 35, 36, 37] (fun vs w => ∃ (y : Int), vs = [.slice a (List.length (u64s hs)) c, .pointer (some ⟨t1, 0, none⟩), .slice ua (List.length (u64s al)) uc, .int .i64 (k : Int), .int .u64 y, .int .i64 (k : Int), .slice a (List.length (u64s hs)) c, .int .i64 (List.length (u64s hs) : Int), .bool (decide ((k : Int) < (List.length (u64s hs) : Int))), .bool (decide ((k : Int) < (List.length (u64s hs) : Int))), .bool (decide (((k : Int) < (List.length (u64s hs) : Int)) ∧ ((k : Int) < 60))), .slice a (List.length (u64s hs)) c, .int .i64 (k : Int), .pointer (some ⟨bo a, (oo a) + (k * 1), none⟩), .int .u64 v, .int .u64 v, .bool (decide (v = 0))] ∧ St g (Sh 31 1 (u64s al) ua uc :: cel t1 #[.map (some m1)] 62 :: blk m1 (.map (mE (List.map nbK [NB.mk ⟨#[109, 97, 105, 110]⟩ h lg b1 la lc 0])) 1) :: Buns nbF [NB.mk ⟨#[109, 97, 105, 110]⟩ h lg b1 la lc 0] :: Sh 31 1 (u64s hs) a c :: L) w ∧ (y ≠ 0)) ?_ ?_
        · refine WC.ifP rfl (fun cd3 => ?_) (fun cd3 => ?_)
          · refine WC.region ?_
            refine WL.r 1 rfl ?_
            refine WL.nil ?_
            exact ⟨7, rfl, hS, (by decide)⟩
          · refine WC.skip ?_
            exact ⟨v, rfl, hS, (by assumption)⟩
        clear hS; rintro _ w j ⟨y, rfl, hS, hy⟩
        refine WC.seq ?_
        refine WC.seq ?_
        refine WC.region ?_
        have hal2 := u64s_len al; have hll : lg.length ≤ 16 := by rw [hlg, List.length_reverse, List.length_take]; omega
        refine WL.r 2 rfl ?_
        refine WL.ix rfl rfl (i := 0) (0) el_26 rfl rfl (by omega) (by omega) (hS.rdS 0 rfl (u64s_at (show al[0]? = some h by rw [hal]; rfl))).1 ?_
        refine WL.run 2 [.int .u64 h] rfl (by exact (hS.rdS 0 rfl (u64s_at (show al[0]? = some h by rw [hal]; rfl))).2 0 _ rfl) ?_
        refine WL.call rfl rfl (set_chg (t := t1) (m := m1) (xs := [NB.mk ⟨#[109, 97, 105, 110]⟩ h lg b1 la lc 0]) (q := 1) (s := ⟨#[109, 97, 105, 110]⟩) (x := h) (y := y) (k := 0) (z := NB.mk ⟨#[109, 97, 105, 110]⟩ h lg b1 la lc 0) (hv := (by decide +kernel)) (h0 := h0) (hy := hy) (hz := rfl) (hn := rfl) (hu := (by simp [Uniq])) (hh := rfl) (hlg := hll) (hS := (hS.sel 4 [1, 1, 1, 0] rfl))) rfl ?_
        clear hS; rintro _ w ⟨a1, c1, rfl, hS⟩
        replace hS : St g (cel t1 #[.map (some m1)] 62 :: blk m1 (.map (mE (List.map nbK (List.set [NB.mk ⟨#[109, 97, 105, 110]⟩ h lg b1 la lc 0] 0 (NB.mk (NB.mk ⟨#[109, 97, 105, 110]⟩ h lg b1 la lc 0).name y (lgn (NB.mk ⟨#[109, 97, 105, 110]⟩ h lg b1 la lc 0).lg h) (NB.mk ⟨#[109, 97, 105, 110]⟩ h lg b1 la lc 0).b a1 c1 (NB.mk ⟨#[109, 97, 105, 110]⟩ h lg b1 la lc 0).born)))) 1) :: Buns nbF (List.set [NB.mk ⟨#[109, 97, 105, 110]⟩ h lg b1 la lc 0] 0 (NB.mk (NB.mk ⟨#[109, 97, 105, 110]⟩ h lg b1 la lc 0).name y (lgn (NB.mk ⟨#[109, 97, 105, 110]⟩ h lg b1 la lc 0).lg h) (NB.mk ⟨#[109, 97, 105, 110]⟩ h lg b1 la lc 0).b a1 c1 (NB.mk ⟨#[109, 97, 105, 110]⟩ h lg b1 la lc 0).born)) :: Sh 31 1 (u64s al) ua uc :: Sh 31 1 (u64s hs) a c :: L) w := hS
        refine WL.r 1 rfl ?_
        refine WL.nil ?_
        as_aux_lemma =>
          refine WC.ifF rfl (by decide) ?_
          refine WC.skip ?_
          refine WC.seq ?_
          refine WC.region ?_
          refine WL.r 1 rfl ?_
          refine WL.lit rfl rfl (u64s [y]) el_26 hS (by exact ⟨rfl, rfl⟩) (u64s_ok _) rfl (by decide) (fun b3 w hS => ?_)
          refine WL.r 1 rfl ?_
          refine WL.app rfl rfl 0 (u64s ([y] ++ al)) el_26 hS rfl (hS.srcS 4 rfl) (u64s_app _ _).symm (Rm.of (by first | omega | (simp <;> omega)) (by decide)) rfl rfl (fun a2 c2 w hS => ?_)
          replace hS : St g (Own 31 1 (u64s ([y] ++ al)) a2 c2 :: cel t1 #[.map (some m1)] 62 :: blk m1 (.map (mE (List.map nbK (List.set [NB.mk ⟨#[109, 97, 105, 110]⟩ h lg b1 la lc 0] 0 (NB.mk (NB.mk ⟨#[109, 97, 105, 110]⟩ h lg b1 la lc 0).name y (lgn (NB.mk ⟨#[109, 97, 105, 110]⟩ h lg b1 la lc 0).lg h) (NB.mk ⟨#[109, 97, 105, 110]⟩ h lg b1 la lc 0).b a1 c1 (NB.mk ⟨#[109, 97, 105, 110]⟩ h lg b1 la lc 0).born)))) 1) :: Buns nbF (List.set [NB.mk ⟨#[109, 97, 105, 110]⟩ h lg b1 la lc 0] 0 (NB.mk (NB.mk ⟨#[109, 97, 105, 110]⟩ h lg b1 la lc 0).name y (lgn (NB.mk ⟨#[109, 97, 105, 110]⟩ h lg b1 la lc 0).lg h) (NB.mk ⟨#[109, 97, 105, 110]⟩ h lg b1 la lc 0).b a1 c1 (NB.mk ⟨#[109, 97, 105, 110]⟩ h lg b1 la lc 0).born)) :: Sh 31 1 (u64s al) ua uc :: Sh 31 1 (u64s hs) a c :: L) w := hS
          refine WL.r 1 rfl ?_
          refine WL.nil ?_
          refine WC.seq ?_
          refine WC.plan [([0, 2, 3, 4, 5, 6], some (1, [2, 3, 4, 5, 6])), ([], some (7, [])), ([8], none)] (by kernel_rfl) (by kernel_rfl) ?_
          have hal3 := u64s_len ([y] ++ al); have hal4 : ([y] ++ al).length = al.length + 1 := by simp
          replace hS := (hS.at_ 0 rfl).share
          replace hS : St g (Sh 31 1 (u64s ([y] ++ al)) a2 c2 :: cel t1 #[.map (some m1)] 62 :: blk m1 (.map (mE (List.map nbK (List.set [NB.mk ⟨#[109, 97, 105, 110]⟩ h lg b1 la lc 0] 0 (NB.mk (NB.mk ⟨#[109, 97, 105, 110]⟩ h lg b1 la lc 0).name y (lgn (NB.mk ⟨#[109, 97, 105, 110]⟩ h lg b1 la lc 0).lg h) (NB.mk ⟨#[109, 97, 105, 110]⟩ h lg b1 la lc 0).b a1 c1 (NB.mk ⟨#[109, 97, 105, 110]⟩ h lg b1 la lc 0).born)))) 1) :: Buns nbF (List.set [NB.mk ⟨#[109, 97, 105, 110]⟩ h lg b1 la lc 0] 0 (NB.mk (NB.mk ⟨#[109, 97, 105, 110]⟩ h lg b1 la lc 0).name y (lgn (NB.mk ⟨#[109, 97, 105, 110]⟩ h lg b1 la lc 0).lg h) (NB.mk ⟨#[109, 97, 105, 110]⟩ h lg b1 la lc 0).b a1 c1 (NB.mk ⟨#[109, 97, 105, 110]⟩ h lg b1 la lc 0).born)) :: Sh 31 1 (u64s al) ua uc :: Sh 31 1 (u64s hs) a c :: L) w := hS
          refine WQ.r 5 rfl ?_
          refine WQ.slLH rfl rfl (v := 1) (v' := min (List.length (u64s ([y] ++ al)) : Int) 17) 0 (1) (min (al.length + 1) 17) (u64s ((([y] ++ al).take (min (al.length + 1) 17)).drop 1)) el_26 hS rfl rfl rfl (by omega) rfl (by omega) (by omega) (by omega) (by rw [u64s_take, u64s_drop]) (fun a3 qa3 hS => ?_)
          replace hS : St g (Sh 31 1 (u64s ((([y] ++ al).take (min ((List.length al) + 1) 17)).drop 1)) a3 (c2 - 1) :: Sh 31 1 (u64s ([y] ++ al)) a2 c2 :: cel t1 #[.map (some m1)] 62 :: blk m1 (.map (mE (List.map nbK (List.set [NB.mk ⟨#[109, 97, 105, 110]⟩ h lg b1 la lc 0] 0 (NB.mk (NB.mk ⟨#[109, 97, 105, 110]⟩ h lg b1 la lc 0).name y (lgn (NB.mk ⟨#[109, 97, 105, 110]⟩ h lg b1 la lc 0).lg h) (NB.mk ⟨#[109, 97, 105, 110]⟩ h lg b1 la lc 0).b a1 c1 (NB.mk ⟨#[109, 97, 105, 110]⟩ h lg b1 la lc 0).born)))) 1) :: Buns nbF (List.set [NB.mk ⟨#[109, 97, 105, 110]⟩ h lg b1 la lc 0] 0 (NB.mk (NB.mk ⟨#[109, 97, 105, 110]⟩ h lg b1 la lc 0).name y (lgn (NB.mk ⟨#[109, 97, 105, 110]⟩ h lg b1 la lc 0).lg h) (NB.mk ⟨#[109, 97, 105, 110]⟩ h lg b1 la lc 0).b a1 c1 (NB.mk ⟨#[109, 97, 105, 110]⟩ h lg b1 la lc 0).born)) :: Sh 31 1 (u64s al) ua uc :: Sh 31 1 (u64s hs) a c :: L) w := hS
          refine WQ.nil ?_
          intro m2
          replace hS := hS.drewN m2; generalize hwm2 : World.drewN _ _ = w at *; clear hwm2
          refine WL.call rfl rfl (log_in (t := t1) (m := m1) (xs := List.set [NB.mk ⟨#[109, 97, 105, 110]⟩ h lg b1 la lc 0] 0 (NB.mk (NB.mk ⟨#[109, 97, 105, 110]⟩ h lg b1 la lc 0).name y (lgn (NB.mk ⟨#[109, 97, 105, 110]⟩ h lg b1 la lc 0).lg h) (NB.mk ⟨#[109, 97, 105, 110]⟩ h lg b1 la lc 0).b a1 c1 (NB.mk ⟨#[109, 97, 105, 110]⟩ h lg b1 la lc 0).born)) (q := 1) (s := ⟨#[109, 97, 105, 110]⟩) (k := 0) (x := NB.mk ⟨#[109, 97, 105, 110]⟩ y (lgn lg h) b1 a1 c1 0) (hx := rfl) (hn := rfl) (hu := (by simp [Uniq])) (hl := (Nat.le_trans (lgn_len hll) (by decide))) (hS := (hS.sel 5 [2, 2, 2, 0, 0] rfl))) rfl ?_
          clear hS; rintro _ w ⟨a4, c3, rfl, hS⟩
          replace hS : St g (Own 31 1 (u64s (NB.mk ⟨#[109, 97, 105, 110]⟩ y (lgn lg h) b1 a1 c1 0).lg.reverse) a4 c3 :: cel t1 #[.map (some m1)] 62 :: blk m1 (.map (mE (List.map nbK (List.set [NB.mk ⟨#[109, 97, 105, 110]⟩ h lg b1 la lc 0] 0 (NB.mk (NB.mk ⟨#[109, 97, 105, 110]⟩ h lg b1 la lc 0).name y (lgn (NB.mk ⟨#[109, 97, 105, 110]⟩ h lg b1 la lc 0).lg h) (NB.mk ⟨#[109, 97, 105, 110]⟩ h lg b1 la lc 0).b a1 c1 (NB.mk ⟨#[109, 97, 105, 110]⟩ h lg b1 la lc 0).born)))) 1) :: Buns nbF (List.set [NB.mk ⟨#[109, 97, 105, 110]⟩ h lg b1 la lc 0] 0 (NB.mk (NB.mk ⟨#[109, 97, 105, 110]⟩ h lg b1 la lc 0).name y (lgn (NB.mk ⟨#[109, 97, 105, 110]⟩ h lg b1 la lc 0).lg h) (NB.mk ⟨#[109, 97, 105, 110]⟩ h lg b1 la lc 0).b a1 c1 (NB.mk ⟨#[109, 97, 105, 110]⟩ h lg b1 la lc 0).born)) :: Sh 31 1 (u64s ((([y] ++ al).take (min ((List.length al) + 1) 17)).drop 1)) a3 (c2 - 1) :: Sh 31 1 (u64s ([y] ++ al)) a2 c2 :: Sh 31 1 (u64s al) ua uc :: Sh 31 1 (u64s hs) a c :: L) w := hS
          refine WL.nil ?_
          refine ⟨by exact ⟨RQ.pure rfl rfl rfl rfl, RQ.pure rfl rfl rfl rfl, RQ.pure rfl rfl rfl rfl, RQ.pure rfl rfl rfl rfl, RQ.slLH rfl rfl (v := 1) (v' := min (List.length (u64s ([y] ++ al)) : Int) 17) 5 (1) (min (al.length + 1) 17) el_26 hS rfl rfl rfl (by omega) rfl (by omega) (by omega) (by omega) (by rw [u64s_take, u64s_drop]) qa3 rfl rfl⟩, ?_⟩
          refine WQ.nil ?_
          intro m3
          replace hS := hS.drewN m3; generalize hwm3 : World.drewN _ _ = w at *; clear hwm3
          replace hS := (hS.at_ 0 rfl).share
          replace hS : St g (Sh 31 1 (u64s (NB.mk ⟨#[109, 97, 105, 110]⟩ y (lgn lg h) b1 a1 c1 0).lg.reverse) a4 c3 :: cel t1 #[.map (some m1)] 62 :: blk m1 (.map (mE (List.map nbK (List.set [NB.mk ⟨#[109, 97, 105, 110]⟩ h lg b1 la lc 0] 0 (NB.mk (NB.mk ⟨#[109, 97, 105, 110]⟩ h lg b1 la lc 0).name y (lgn (NB.mk ⟨#[109, 97, 105, 110]⟩ h lg b1 la lc 0).lg h) (NB.mk ⟨#[109, 97, 105, 110]⟩ h lg b1 la lc 0).b a1 c1 (NB.mk ⟨#[109, 97, 105, 110]⟩ h lg b1 la lc 0).born)))) 1) :: Buns nbF (List.set [NB.mk ⟨#[109, 97, 105, 110]⟩ h lg b1 la lc 0] 0 (NB.mk (NB.mk ⟨#[109, 97, 105, 110]⟩ h lg b1 la lc 0).name y (lgn (NB.mk ⟨#[109, 97, 105, 110]⟩ h lg b1 la lc 0).lg h) (NB.mk ⟨#[109, 97, 105, 110]⟩ h lg b1 la lc 0).b a1 c1 (NB.mk ⟨#[109, 97, 105, 110]⟩ h lg b1 la lc 0).born)) :: Sh 31 1 (u64s ((([y] ++ al).take (min ((List.length al) + 1) 17)).drop 1)) a3 (c2 - 1) :: Sh 31 1 (u64s ([y] ++ al)) a2 c2 :: Sh 31 1 (u64s al) ua uc :: Sh 31 1 (u64s hs) a c :: L) w := hS
          refine WL.call rfl rfl (sameU (xs := (NB.mk ⟨#[109, 97, 105, 110]⟩ y (lgn lg h) b1 a1 c1 0).lg.reverse) (ys := (([y] ++ al).take (min ((List.length al) + 1) 17)).drop 1) (a := a4) (b := a3) (c := c3) (d := c2 - 1) (hl := (by rw [List.length_reverse]; exact Nat.le_trans (lgn_len hll) (by decide))) (hS := (hS.sel 5 [0, 3, 0, 0, 0] rfl))) rfl ?_
          clear hS; rintro _ w ⟨ok1, rfl, hS, f1⟩
          replace hS : St g (Sh 31 1 (u64s (NB.mk ⟨#[109, 97, 105, 110]⟩ y (lgn lg h) b1 a1 c1 0).lg.reverse) a4 c3 :: Sh 31 1 (u64s ((([y] ++ al).take (min ((List.length al) + 1) 17)).drop 1)) a3 (c2 - 1) :: cel t1 #[.map (some m1)] 62 :: blk m1 (.map (mE (List.map nbK (List.set [NB.mk ⟨#[109, 97, 105, 110]⟩ h lg b1 la lc 0] 0 (NB.mk (NB.mk ⟨#[109, 97, 105, 110]⟩ h lg b1 la lc 0).name y (lgn (NB.mk ⟨#[109, 97, 105, 110]⟩ h lg b1 la lc 0).lg h) (NB.mk ⟨#[109, 97, 105, 110]⟩ h lg b1 la lc 0).b a1 c1 (NB.mk ⟨#[109, 97, 105, 110]⟩ h lg b1 la lc 0).born)))) 1) :: Buns nbF (List.set [NB.mk ⟨#[109, 97, 105, 110]⟩ h lg b1 la lc 0] 0 (NB.mk (NB.mk ⟨#[109, 97, 105, 110]⟩ h lg b1 la lc 0).name y (lgn (NB.mk ⟨#[109, 97, 105, 110]⟩ h lg b1 la lc 0).lg h) (NB.mk ⟨#[109, 97, 105, 110]⟩ h lg b1 la lc 0).b a1 c1 (NB.mk ⟨#[109, 97, 105, 110]⟩ h lg b1 la lc 0).born)) :: Sh 31 1 (u64s ([y] ++ al)) a2 c2 :: Sh 31 1 (u64s al) ua uc :: Sh 31 1 (u64s hs) a c :: L) w := hS
          refine WL.nil ?_
          refine ⟨by exact trivial, ?_⟩
          refine WQ.r 1 rfl ?_
          refine WQ.nil ?_
          intro m4
          replace hS := hS.drewN m4; generalize hwm4 : World.drewN _ _ = w at *; clear hwm4
          as_aux_lemma =>
            refine WC.if_ rfl (fun cd4 => ?_) (fun cd4 => ?_)
            · refine WC.seq ?_
              refine WC.region ?_
              refine WL.r 1 rfl ?_
              refine WL.nil ?_
              refine WC.ret ?_
              refine ⟨[.bool false], rfl, ?_⟩
              replace hS := (hS.sel 8 [] rfl)
              exact absurd (f1.2 (log_same hlg hal)) (by simpa using cd4)
            · refine WC.skip ?_
              refine WC.region ?_
              refine WL.r 2 rfl ?_
              refine WL.nw 31 rfl (w64 (by omega)) ?_
              refine WL.r 1 rfl ?_
              refine WL.nil ?_
              exact ⟨_, by omega, k + 1, y, h :: t, [y] ++ al, lgn lg h, a1, a2, c1, c2, rfl, (hS.sel 7 [5, 2, 2, 2] rfl), (by omega), (by rw [hal]; rfl), (by rw [hal4, hn]), (log_step hlg), (hy), rfl⟩
    · refine WC.exit ?_
      as_aux_lemma =>
        refine WC.seq ?_
        refine WC.region ?_
        have hal5 := u64s_len al
        refine WL.r 2 rfl ?_
        refine WL.ix rfl rfl (i := 0) (0) el_26 rfl rfl (by omega) (by omega) (hS.rdS 0 rfl (u64s_at (show al[0]? = some h by rw [hal]; rfl))).1 ?_
        refine WL.run 1 [.int .u64 h] rfl (by exact (hS.rdS 0 rfl (u64s_at (show al[0]? = some h by rw [hal]; rfl))).2 0 _ rfl) ?_
        refine WL.call rfl rfl (set_del (t := t1) (m := m1) (xs := [NB.mk ⟨#[109, 97, 105, 110]⟩ h lg b1 la lc 0]) (q := 1) (s := ⟨#[109, 97, 105, 110]⟩) (x := h) (k := 0) (z := NB.mk ⟨#[109, 97, 105, 110]⟩ h lg b1 la lc 0) (hv := (by decide +kernel)) (h0 := h0) (hz := rfl) (hn := rfl) (hu := (by simp [Uniq])) (hh := rfl) (hS := (hS.sel 4 [1, 1, 1, 0] rfl))) rfl ?_
        clear hS; rintro _ w ⟨rfl, hS⟩
        replace hS : St g (cel t1 #[.map (some m1)] 62 :: blk m1 (.map (mE (List.map nbK (([NB.mk ⟨#[109, 97, 105, 110]⟩ h lg b1 la lc 0]).eraseIdx 0))) 1) :: Buns nbF (([NB.mk ⟨#[109, 97, 105, 110]⟩ h lg b1 la lc 0]).eraseIdx 0) :: Sh 31 1 (u64s al) ua uc :: Sh 31 1 (u64s hs) a c :: L) w := hS
        refine WL.r 1 rfl ?_
        refine WL.nil ?_
        refine WC.seq ?_
        refine WC.region ?_
        refine WL.r 1 rfl ?_
        refine WL.call rfl rfl (set_add (t := t1) (m := m1) (xs := ([NB.mk ⟨#[109, 97, 105, 110]⟩ h lg b1 la lc 0]).eraseIdx 0) (q := 1) (s := ⟨#[109, 97, 105, 110]⟩) (y := 3) (hv := (by decide +kernel)) (h0 := (by decide)) (hn := (fun _ h => by cases h)) (hl := (show (0 : Nat) ≠ 256 by decide)) (hS := hS)) rfl ?_
        clear hS; rintro _ w ⟨b3, rfl, hS⟩
        replace hS : St g (cel t1 #[.map (some m1)] 62 :: blk m1 (.map (mE (List.map nbK ((([NB.mk ⟨#[109, 97, 105, 110]⟩ h lg b1 la lc 0]).eraseIdx 0) ++ [NB.mk ⟨#[109, 97, 105, 110]⟩ 3 [] b3 none 0 1]))) (1 + 1)) :: Buns nbF ((([NB.mk ⟨#[109, 97, 105, 110]⟩ h lg b1 la lc 0]).eraseIdx 0) ++ [NB.mk ⟨#[109, 97, 105, 110]⟩ 3 [] b3 none 0 1]) :: Sh 31 1 (u64s al) ua uc :: Sh 31 1 (u64s hs) a c :: L) w := hS
        refine WL.r 1 rfl ?_
        refine WL.nil ?_
        refine WC.seq ?_
        refine WC.region ?_
        refine WL.r 3 rfl ?_
        refine WL.reb 67 (.bool true) (congrArg Value.bool (decide_eq_true (by decide))) ?_
        refine WL.ung rfl rfl rfl ?_
        refine WL.r 1 rfl ?_
        refine WL.ung rfl rfl rfl ?_
        refine WL.r 3 rfl ?_
        refine WL.reb 71 (.bool true) (congrArg Value.bool (decide_eq_true (by decide))) ?_
        refine WL.ung rfl rfl rfl ?_
        refine WL.r 1 rfl ?_
        refine WL.ung rfl rfl rfl ?_
        refine WL.call rfl rfl (log_in (t := t1) (m := m1) (xs := (([NB.mk ⟨#[109, 97, 105, 110]⟩ h lg b1 la lc 0]).eraseIdx 0) ++ [NB.mk ⟨#[109, 97, 105, 110]⟩ 3 [] b3 none 0 1]) (q := 1 + 1) (s := ⟨#[109, 97, 105, 110]⟩) (k := 0) (x := NB.mk ⟨#[109, 97, 105, 110]⟩ 3 [] b3 none 0 1) (hx := rfl) (hn := rfl) (hu := (by simp [Uniq])) (hl := (Nat.zero_le _)) (hS := hS)) rfl ?_
        clear hS; rintro _ w ⟨a1, c1, rfl, hS⟩
        replace hS : St g (Own 31 1 (u64s (NB.mk ⟨#[109, 97, 105, 110]⟩ 3 [] b3 none 0 1).lg.reverse) a1 c1 :: cel t1 #[.map (some m1)] 62 :: blk m1 (.map (mE (List.map nbK ((([NB.mk ⟨#[109, 97, 105, 110]⟩ h lg b1 la lc 0]).eraseIdx 0) ++ [NB.mk ⟨#[109, 97, 105, 110]⟩ 3 [] b3 none 0 1]))) (1 + 1)) :: Buns nbF ((([NB.mk ⟨#[109, 97, 105, 110]⟩ h lg b1 la lc 0]).eraseIdx 0) ++ [NB.mk ⟨#[109, 97, 105, 110]⟩ 3 [] b3 none 0 1]) :: Sh 31 1 (u64s al) ua uc :: Sh 31 1 (u64s hs) a c :: L) w := hS
        refine WL.ung rfl rfl rfl ?_
        refine WL.r 1 rfl ?_
        refine WL.ung rfl rfl rfl ?_
        refine WL.r 3 rfl ?_
        refine WL.nil ?_
        as_aux_lemma =>
          refine WC.ret ?_
          refine ⟨[.bool (decide ((List.length (u64s (NB.mk ⟨#[109, 97, 105, 110]⟩ 3 [] b3 none 0 1).lg.reverse) : Int) = 0))], rfl, ?_⟩
          replace hS := (hS.sel 6 [] rfl)
          exact ⟨rfl, hS⟩
end Go.Proofs.YtenkmjbghbegfaaDoor
