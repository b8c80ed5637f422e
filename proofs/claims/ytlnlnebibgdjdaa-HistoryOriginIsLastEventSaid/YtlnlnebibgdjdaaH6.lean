/-
  Histories: the example of the chapter.
  Conditions: none.
-/
import Derived.Test.YtlnlnebibgdjdaaH5
import Derived.Test.YtlnlnebibgdjdaaK2
import Derived.Test.YtlnlnebibgdjdaaEqn
namespace Go.Proofs.Ytlnlnebibgdjdaa
open Go Go.V Go.RowKit

theorem eqn_71 : EqN Try.prog 71 46 [.int .i64, .int .i64] [.int .i64] := ⟨by kernel_rfl, by kernel_rfl, by kernel_rfl, by kernel_rfl, by kernel_rfl, by kernel_rfl, by kernel_rfl, by kernel_rfl, by kernel_rfl⟩
theorem sameO {g w : World} {L : List HP} (xs ys : List Or) (a b : Option Addr) (c d : Nat) (hl : xs.length ≤ 1000000000) (hS : St g (Sh 71 3 (or3 xs) a c :: Sh 71 3 (or3 ys) b d :: L) w) :
    Sp Try.prog 72 [.slice a (List.length (or3 xs)) c, .slice b (List.length (or3 ys)) d] w (fun v w' => v = .bool (decide (xs = ys)) ∧ St g (Sh 71 3 (or3 xs) a c :: Sh 71 3 (or3 ys) b d :: L) w') := by
  refine Sp.enter Try.func72 rfl (by kernel_rfl) (by kernel_rfl) ?_
  have _ := hl
  refine WC.seq ?_
  refine WC.region ?_
  refine WL.r 1 rfl ?_
  refine WL.nil ?_
  refine WC.seq ?_
  refine WC.seq ?_
  refine WC.region ?_
  have h1 := or3_len xs; have h2 := or3_len ys
  refine WL.r 5 rfl ?_
  refine WL.nil ?_
  refine WC.ifP rfl (fun cd1 => ?_) (fun cd1 => ?_)
  · refine WC.seq ?_
    refine WC.region ?_
    refine WL.r 1 rfl ?_
    refine WL.nil ?_
    refine WC.ret ?_
    refine ⟨[.bool false], rfl, ?_⟩
    exact ⟨congrArg Value.bool (decide_eq_false (fun h => by rw [h1, h2, h] at cd1; exact absurd rfl cd1)).symm, hS⟩
  · refine WC.skip ?_
    refine WC.seq ?_
    refine WC.seq ?_
    refine WC.region ?_
    refine WL.r 1 rfl ?_
    refine WL.nil ?_
    refine WC.block ?_
    refine WC.loop [0, 1, 5] (fun kM vs w => ∃ (k : Nat), vs = [.slice a (List.length (or3 xs)) c, .slice b (List.length (or3 ys)) d, .int .i64 (k : Int)] ∧ St g (Sh 71 3 (or3 xs) a c :: Sh 71 3 (or3 ys) b d :: L) w ∧ (k ≤ xs.length) ∧ (xs.take k = ys.take k) ∧ (xs.length - k) = kM) ((List.length xs) - 0) ⟨0, rfl, hS, (Nat.zero_le _), (rfl), rfl⟩ ?_
    clear hS; rintro _ _ w j ⟨k, rfl, hS, hk, he, rfl⟩
    refine WC.seq ?_
    refine WC.seq ?_
    refine WC.region ?_
    refine WL.r 4 rfl ?_
    refine WL.nil ?_
    as_aux_lemma =>
      refine WC.ifP rfl (fun cd2 => ?_) (fun cd2 => ?_)
      · refine WC.skip ?_
        refine WC.seq ?_
        refine WC.block ?_
        refine WC.seq ?_
        refine WC.plan [([0, 1, 4, 5, 2, 6, 3, 7, 8], none)] (by kernel_rfl) (by kernel_rfl) ?_
        refine WQ.r 4 rfl ?_
        obtain ⟨x, hx⟩ : ∃ x, xs[k]? = some x := ⟨_, List.getElem?_eq_getElem (by omega)⟩
        refine WQ.ix rfl rfl (i := (k : Int)) (k) el_67 rfl rfl (by omega) (len_of (or3_at hx)) (hS.rdS 0 rfl (or3_at hx)).1 ?_
        obtain ⟨y, hy⟩ : ∃ y, ys[k]? = some y := ⟨_, List.getElem?_eq_getElem (by omega)⟩
        refine WQ.ix rfl rfl (i := (k : Int)) (k) el_67 rfl rfl (by omega) (len_of (or3_at hy)) (hS.rdS 1 rfl (or3_at hy)).1 ?_
        refine WQ.ldC rfl rfl [.int .i64 x.1, .int .i64 x.2.1, .int .i64 x.2.2] ag_71 rfl (hS.rdS 0 rfl (or3_at hx)).2 ?_
        refine WQ.ldC rfl rfl [.int .i64 y.1, .int .i64 y.2.1, .int .i64 y.2.2] ag_71 rfl (hS.rdS 1 rfl (or3_at hy)).2 ?_
        refine WQ.neN rfl rfl eqn_71 (xs1 := [.int .i64 x.1, .int .i64 x.2.1]) (ys1 := [.int .i64 y.1, .int .i64 y.2.1]) (xs2 := [.int .i64 x.2.2]) (ys2 := [.int .i64 y.2.2]) rfl rfl rfl rfl rfl rfl ?_
        refine WQ.prop 25 rfl (bnot (band (dd _) (band (dd _) (dd _)))) ?_
        refine WQ.nil ?_
        intro m1
        replace hS := hS.drewN m1; generalize hwm1 : World.drewN _ _ = w at *; clear hwm1
        refine WC.ifP rfl (fun cd3 => ?_) (fun cd3 => ?_)
        · refine WC.seq ?_
          refine WC.region ?_
          refine WL.r 1 rfl ?_
          refine WL.nil ?_
          refine WC.ret ?_
          refine ⟨[.bool false], rfl, ?_⟩
          exact ⟨congrArg Value.bool (decide_eq_false (fun h => by subst h; rw [hx] at hy; cases hy; exact absurd ⟨rfl, rfl, rfl⟩ cd3)).symm, hS⟩
        · refine WC.skip ?_
          refine WC.region ?_
          refine WL.r 2 rfl ?_
          refine WL.nw 16 rfl (w64 (by omega)) ?_
          refine WL.r 1 rfl ?_
          refine WL.nil ?_
          exact ⟨_, by omega, k + 1, rfl, hS, (by omega), (by rw [List.take_add_one, List.take_add_one, he, hx, hy, show x = y from Prod.ext (Classical.not_not.1 cd3).1 (Prod.ext (Classical.not_not.1 cd3).2.1 (Classical.not_not.1 cd3).2.2)]), rfl⟩
      · refine WC.exit ?_
        refine WC.seq ?_
        refine WC.region ?_
        refine WL.r 1 rfl ?_
        refine WL.nil ?_
        refine WC.ret ?_
        refine ⟨[.bool true], rfl, ?_⟩
        exact ⟨congrArg Value.bool (decide_eq_true (by rw [← List.take_of_length_le (i := k) (l := xs) (by omega), he, List.take_of_length_le (by omega)])).symm, hS⟩
def ex27 : List Kvs := [[(1, 5)], [(1, 5), (2, 6)], [(1, 7), (2, 6)]]
theorem ex27_ok : LOk ex27 := by
  intro l hl
  simp only [ex27, List.mem_cons, List.not_mem_nil, or_false] at hl
  rcases hl with rfl | rfl | rfl <;> exact ⟨by unfold Srt; decide, by decide, by unfold kvR; decide⟩
theorem ex27_or : oAll (hev minI maxI ex27 3) = [(1, 7, 2), (2, 6, 1)] := by
  have h0 : dif [] [((1 : Int), (5 : Int))] = [(1, 1, 0, 5)] := by simp [dif]
  have h1 : dif [((1 : Int), (5 : Int))] [(1, 5), (2, 6)] = [(1, 2, 0, 6)] := by simp [dif]
  have h2 : dif [((1 : Int), (5 : Int)), (2, 6)] [(1, 7), (2, 6)] = [(3, 1, 5, 7)] := by simp [dif]
  have d0 : dA minI maxI ex27 0 = [(1, 1, 0, 5)] := by show inR minI maxI (dif [] [((1 : Int), (5 : Int))]) = _; rw [h0]; rfl
  have d1 : dA minI maxI ex27 1 = [(1, 2, 0, 6)] := by show inR minI maxI (dif [((1 : Int), (5 : Int))] [(1, 5), (2, 6)]) = _; rw [h1]; rfl
  have d2 : dA minI maxI ex27 2 = [(3, 1, 5, 7)] := by show inR minI maxI (dif [((1 : Int), (5 : Int)), (2, 6)] [(1, 7), (2, 6)]) = _; rw [h2]; rfl
  rw [hev_succ, hev_succ, hev_succ, d0, d1, d2]
  decide
theorem ex27_t {A : AM} {i1 i2 i3 : Int} {t1 t2 t3 : Tr} (h1 : Is A t1 i1) (h2 : Is A t2 i2) (h3 : Is A t3 i3) (o1 : t1.ok) (o2 : t2.ok) (o3 : t3.ok) (l1 : t1.ls = [(1, 5)]) (l2 : t2.ls = [(1, 5), (2, 6)]) (l3 : t3.ls = [(1, 7), (2, 6)]) : RTs A ex27 [i1, i2, i3] := ⟨rfl, fun i r hr => by
  match i, hr with
  | 0, hr => exact ⟨t1, Option.some.inj hr ▸ h1, o1, l1⟩
  | 1, hr => exact ⟨t2, Option.some.inj hr ▸ h2, o2, l2⟩
  | 2, hr => exact ⟨t3, Option.some.inj hr ▸ h3, o3, l3⟩
  | i + 3, hr => simp at hr⟩
theorem awake27_spec {g w : World} {L : List HP} (hS : St g (L) w) :
    Sp Try.prog 26 [] w (fun v w' => v = .bool true ∧ St g (L) w') := by
  refine Sp.enter Try.func26 rfl (by kernel_rfl) (by kernel_rfl) ?_
  refine WC.seq ?_
  refine WC.region ?_
  refine WL.r 1 rfl ?_
  refine WL.nil ?_
  refine WC.seq ?_
  refine WC.region ?_
  refine WL.call rfl rfl (ar_new_ok (cap := 20) (hc := (by omega)) (hS := hS)) rfl ?_
  clear hS; rintro _ w ⟨a1, rfl, hS⟩
  replace hS : St g (Arn a1 (AM.new 20) :: L) w := hS
  refine WL.r 5 rfl ?_
  refine WL.nil ?_
  refine WC.seq ?_
  refine WC.seq ?_
  refine WC.region ?_
  refine WL.r 2 rfl ?_
  refine WL.rG 4 rfl (fun j => ?_)
  refine WL.nil ?_
  refine WC.ifF rfl (by rfl) ?_
  refine WC.skip ?_
  refine WC.seq ?_
  refine WC.region ?_
  have hrf := AM.new_rf (cap := 20) (by omega); have hfr : (AM.new 20).s.free = 20 := SM.new_free 20
  refine WL.r 1 rfl ?_
  refine WL.build rfl rfl (cs := [.int .i64 1, .int .i64 5]) zv_46 rfl rfl ?_
  refine WL.lit rfl rfl (en2 [(1, 5)]) el_36 hS (by exact ⟨rfl, rfl⟩) (en2_ok _) rfl (by decide) (fun b1 w hS => ?_)
  replace hS := (hS.at_ 0 rfl).share
  replace hS : St g (Sh 46 2 (en2 [(1, 5)]) (some ⟨b1, 0, none⟩) (List.length (en2 [(1, 5)])) :: Arn a1 (AM.new 20) :: L) w := hS
  refine WL.call rfl rfl (kt_plant (a := a1) (A := AM.new 20) (R := []) (l := [(1, 5)]) (u := some ⟨b1, 0, none⟩) (d := List.length (en2 [(1, 5)])) (q := 0) (hA := hrf) (hf := (by rw [hfr]; decide)) (hl := (by decide)) (hz := (by decide)) (hq := (by omega)) (hS := (hS.sel 2 [1, 0] rfl))) rfl ?_
  clear hS; rintro _ w ⟨A1, i1, t1, rfl, hS, f1, f2, f3⟩
  replace hS : St g (Arn a1 A1 :: Sh 46 2 (en2 [(1, 5)]) (some ⟨b1, 0, none⟩) (List.length (en2 [(1, 5)])) :: L) w := hS
  refine WL.r 5 rfl ?_
  refine WL.nil ?_
  as_aux_lemma =>
    refine WC.seq ?_
    refine WC.region ?_
    have hr1 := f1.fr; rw [hfr] at hr1; simp only [List.length_cons, List.length_nil] at hr1
    refine WL.r 1 rfl ?_
    refine WL.build rfl rfl (cs := [.int .i64 1, .int .i64 5]) zv_46 rfl rfl ?_
    refine WL.build rfl rfl (cs := [.int .i64 2, .int .i64 6]) zv_46 rfl rfl ?_
    refine WL.lit rfl rfl (en2 [(1, 5), (2, 6)]) el_36 hS (by exact ⟨rfl, rfl, rfl, rfl⟩) (en2_ok _) rfl (by decide) (fun b2 w hS => ?_)
    replace hS := (hS.at_ 0 rfl).share
    replace hS : St g (Sh 46 2 (en2 [(1, 5), (2, 6)]) (some ⟨b2, 0, none⟩) (List.length (en2 [(1, 5), (2, 6)])) :: Arn a1 A1 :: Sh 46 2 (en2 [(1, 5)]) (some ⟨b1, 0, none⟩) (List.length (en2 [(1, 5)])) :: L) w := hS
    refine WL.call rfl rfl (kt_plant (a := a1) (A := A1) (R := [i1]) (l := [(1, 5), (2, 6)]) (u := some ⟨b2, 0, none⟩) (d := List.length (en2 [(1, 5), (2, 6)])) (q := 0) (hA := f1.ref) (hf := (by simp only [List.length_cons, List.length_nil]; omega)) (hl := (by decide)) (hz := (by simp)) (hq := (by omega)) (hS := (hS.sel 2 [1, 0] rfl))) rfl ?_
    clear hS; rintro _ w ⟨A2, i2, t2, rfl, hS, f4, f5, f6⟩
    replace hS : St g (Arn a1 A2 :: Sh 46 2 (en2 [(1, 5), (2, 6)]) (some ⟨b2, 0, none⟩) (List.length (en2 [(1, 5), (2, 6)])) :: Sh 46 2 (en2 [(1, 5)]) (some ⟨b1, 0, none⟩) (List.length (en2 [(1, 5)])) :: L) w := hS
    refine WL.r 5 rfl ?_
    refine WL.nil ?_
    refine WC.seq ?_
    refine WC.region ?_
    have hr2 := f4.fr; simp only [List.length_cons, List.length_nil] at hr2
    refine WL.r 1 rfl ?_
    refine WL.build rfl rfl (cs := [.int .i64 1, .int .i64 7]) zv_46 rfl rfl ?_
    refine WL.build rfl rfl (cs := [.int .i64 2, .int .i64 6]) zv_46 rfl rfl ?_
    refine WL.lit rfl rfl (en2 [(1, 7), (2, 6)]) el_36 hS (by exact ⟨rfl, rfl, rfl, rfl⟩) (en2_ok _) rfl (by decide) (fun b3 w hS => ?_)
    replace hS := (hS.at_ 0 rfl).share
    replace hS : St g (Sh 46 2 (en2 [(1, 7), (2, 6)]) (some ⟨b3, 0, none⟩) (List.length (en2 [(1, 7), (2, 6)])) :: Arn a1 A2 :: Sh 46 2 (en2 [(1, 5), (2, 6)]) (some ⟨b2, 0, none⟩) (List.length (en2 [(1, 5), (2, 6)])) :: Sh 46 2 (en2 [(1, 5)]) (some ⟨b1, 0, none⟩) (List.length (en2 [(1, 5)])) :: L) w := hS
    refine WL.call rfl rfl (kt_plant (a := a1) (A := A2) (R := [i2, i1]) (l := [(1, 7), (2, 6)]) (u := some ⟨b3, 0, none⟩) (d := List.length (en2 [(1, 7), (2, 6)])) (q := 0) (hA := f4.ref) (hf := (by simp only [List.length_cons, List.length_nil]; omega)) (hl := (by decide)) (hz := (by simp)) (hq := (by omega)) (hS := (hS.sel 2 [1, 0] rfl))) rfl ?_
    clear hS; rintro _ w ⟨A3, i3, t3, rfl, hS, f7, f8, f9⟩
    replace hS : St g (Arn a1 A3 :: Sh 46 2 (en2 [(1, 7), (2, 6)]) (some ⟨b3, 0, none⟩) (List.length (en2 [(1, 7), (2, 6)])) :: Sh 46 2 (en2 [(1, 5), (2, 6)]) (some ⟨b2, 0, none⟩) (List.length (en2 [(1, 5), (2, 6)])) :: Sh 46 2 (en2 [(1, 5)]) (some ⟨b1, 0, none⟩) (List.length (en2 [(1, 5)])) :: L) w := hS
    refine WL.r 5 rfl ?_
    refine WL.nil ?_
    as_aux_lemma =>
      refine WC.seq ?_
      refine WC.region ?_
      have hT := ex27_t (f7.kp i1 (by simp) t1 (f4.kp i1 (by simp) t1 f1.is)) (f7.kp i2 (by simp) t2 f4.is) f7.is f2 f5 f8 f3 f6 f9
      refine WL.r 4 rfl ?_
      refine WL.lit rfl rfl (u32s [i1, i2, i3]) el_54 hS (by exact ⟨rfl, rfl, rfl, rfl, rfl, rfl⟩) (u32s_ok _) rfl (by decide) (fun b4 w hS => ?_)
      replace hS := (hS.at_ 0 rfl).share
      replace hS : St g (Sh 40 1 (u32s [i1, i2, i3]) (some ⟨b4, 0, none⟩) (List.length (u32s [i1, i2, i3])) :: Arn a1 A3 :: Sh 46 2 (en2 [(1, 7), (2, 6)]) (some ⟨b3, 0, none⟩) (List.length (en2 [(1, 7), (2, 6)])) :: Sh 46 2 (en2 [(1, 5), (2, 6)]) (some ⟨b2, 0, none⟩) (List.length (en2 [(1, 5), (2, 6)])) :: Sh 46 2 (en2 [(1, 5)]) (some ⟨b1, 0, none⟩) (List.length (en2 [(1, 5)])) :: L) w := hS
      refine WL.call rfl rfl (hi_orig (a := a1) (A := A3) (R := [i3, i2, i1]) (Ls := ex27) (rs := [i1, i2, i3]) (u := some ⟨b4, 0, none⟩) (d := List.length (u32s [i1, i2, i3])) (hA := f7.ref) (hT := hT) (hL := ex27_ok) (hn := (by simp)) (hS := (hS.sel 2 [1, 0] rfl))) rfl ?_
      clear hS; rintro _ w ⟨a2, c1, rfl, hS⟩
      replace hS : St g (Own 71 3 (or3 (oAll (hev minI maxI ex27 (List.length [i1, i2, i3])))) a2 c1 :: Arn a1 A3 :: Sh 40 1 (u32s [i1, i2, i3]) (some ⟨b4, 0, none⟩) (List.length (u32s [i1, i2, i3])) :: Sh 46 2 (en2 [(1, 7), (2, 6)]) (some ⟨b3, 0, none⟩) (List.length (en2 [(1, 7), (2, 6)])) :: Sh 46 2 (en2 [(1, 5), (2, 6)]) (some ⟨b2, 0, none⟩) (List.length (en2 [(1, 5), (2, 6)])) :: Sh 46 2 (en2 [(1, 5)]) (some ⟨b1, 0, none⟩) (List.length (en2 [(1, 5)])) :: L) w := hS
      refine WL.r 1 rfl ?_
      refine WL.nil ?_
      refine WC.seq ?_
      refine WC.region ?_
      have ho : oAll (hev minI maxI ex27 [i1, i2, i3].length) = [(1, 7, 2), (2, 6, 1)] := ex27_or
      refine WL.r 2 rfl ?_
      refine WL.ung rfl rfl rfl ?_
      refine WL.r 3 rfl ?_
      refine WL.ung rfl rfl rfl ?_
      refine WL.r 3 rfl ?_
      refine WL.ung rfl rfl rfl ?_
      refine WL.r 1 rfl ?_
      refine WL.ung rfl rfl rfl ?_
      refine WL.build rfl rfl (cs := [.int .i64 1, .int .i64 7]) zv_46 rfl rfl ?_
      refine WL.ung rfl rfl rfl ?_
      refine WL.build rfl rfl (cs := [.int .i64 1, .int .i64 7, .int .i64 2]) zv_71 rfl rfl ?_
      refine WL.ung rfl rfl rfl ?_
      refine WL.build rfl rfl (cs := [.int .i64 2, .int .i64 6]) zv_46 rfl rfl ?_
      refine WL.ung rfl rfl rfl ?_
      refine WL.build rfl rfl (cs := [.int .i64 2, .int .i64 6, .int .i64 1]) zv_71 rfl rfl ?_
      refine WL.ung rfl rfl rfl ?_
      refine WL.lit rfl rfl (or3 [(1, 7, 2), (2, 6, 1)]) el_67 hS (by exact ⟨rfl, rfl, rfl, rfl⟩) (or3_ok _) rfl (by decide) (fun b5 w hS => ?_)
      refine WL.ung rfl rfl rfl ?_
      replace hS := (hS.at_ 1 rfl).share
      replace hS : St g (Sh 71 3 (or3 (oAll (hev minI maxI ex27 (List.length [i1, i2, i3])))) a2 c1 :: Own 71 3 (or3 [(1, 7, 2), (2, 6, 1)]) (some ⟨b5, 0, none⟩) (List.length (or3 [(1, 7, 2), (2, 6, 1)])) :: Arn a1 A3 :: Sh 40 1 (u32s [i1, i2, i3]) (some ⟨b4, 0, none⟩) (List.length (u32s [i1, i2, i3])) :: Sh 46 2 (en2 [(1, 7), (2, 6)]) (some ⟨b3, 0, none⟩) (List.length (en2 [(1, 7), (2, 6)])) :: Sh 46 2 (en2 [(1, 5), (2, 6)]) (some ⟨b2, 0, none⟩) (List.length (en2 [(1, 5), (2, 6)])) :: Sh 46 2 (en2 [(1, 5)]) (some ⟨b1, 0, none⟩) (List.length (en2 [(1, 5)])) :: L) w := hS
      replace hS := (hS.at_ 1 rfl).share
      replace hS : St g (Sh 71 3 (or3 [(1, 7, 2), (2, 6, 1)]) (some ⟨b5, 0, none⟩) (List.length (or3 [(1, 7, 2), (2, 6, 1)])) :: Sh 71 3 (or3 (oAll (hev minI maxI ex27 (List.length [i1, i2, i3])))) a2 c1 :: Arn a1 A3 :: Sh 40 1 (u32s [i1, i2, i3]) (some ⟨b4, 0, none⟩) (List.length (u32s [i1, i2, i3])) :: Sh 46 2 (en2 [(1, 7), (2, 6)]) (some ⟨b3, 0, none⟩) (List.length (en2 [(1, 7), (2, 6)])) :: Sh 46 2 (en2 [(1, 5), (2, 6)]) (some ⟨b2, 0, none⟩) (List.length (en2 [(1, 5), (2, 6)])) :: Sh 46 2 (en2 [(1, 5)]) (some ⟨b1, 0, none⟩) (List.length (en2 [(1, 5)])) :: L) w := hS
      refine WL.call rfl rfl (sameO (xs := oAll (hev minI maxI ex27 (List.length [i1, i2, i3]))) (ys := [(1, 7, 2), (2, 6, 1)]) (a := a2) (b := some ⟨b5, 0, none⟩) (c := c1) (d := List.length (or3 [(1, 7, 2), (2, 6, 1)])) (hl := (by rw [ho]; decide)) (hS := (hS.sel 2 [1, 0] rfl))) rfl ?_
      clear hS; rintro _ w ⟨rfl, hS⟩
      replace hS : St g (Sh 71 3 (or3 (oAll (hev minI maxI ex27 (List.length [i1, i2, i3])))) a2 c1 :: Sh 71 3 (or3 [(1, 7, 2), (2, 6, 1)]) (some ⟨b5, 0, none⟩) (List.length (or3 [(1, 7, 2), (2, 6, 1)])) :: Arn a1 A3 :: Sh 40 1 (u32s [i1, i2, i3]) (some ⟨b4, 0, none⟩) (List.length (u32s [i1, i2, i3])) :: Sh 46 2 (en2 [(1, 7), (2, 6)]) (some ⟨b3, 0, none⟩) (List.length (en2 [(1, 7), (2, 6)])) :: Sh 46 2 (en2 [(1, 5), (2, 6)]) (some ⟨b2, 0, none⟩) (List.length (en2 [(1, 5), (2, 6)])) :: Sh 46 2 (en2 [(1, 5)]) (some ⟨b1, 0, none⟩) (List.length (en2 [(1, 5)])) :: L) w := hS
      refine WL.r 2 rfl ?_
      refine WL.nil ?_
      as_aux_lemma =>
        refine WC.ret ?_
        refine ⟨[.bool (decide ((oAll (hev minI maxI ex27 (List.length [i1, i2, i3]))) = [(1, 7, 2), (2, 6, 1)]))], rfl, ?_⟩
        replace hS := (hS.sel 7 [] rfl)
        exact ⟨by rw [ho]; rfl, hS⟩
end Go.Proofs.Ytlnlnebibgdjdaa
