/-
  What the proof of Jva stands on, part 5.
  Conditions: none.
-/
import Derived.Test.YtbeacjcmdijdmaaGreatZvaD
set_option maxRecDepth 8192
namespace Go.Proofs.YtbeacjcmdijdmaaGreat
open Go Go.V
theorem Zop {g w : World} {L : List HP} (a : Nat) (A : AM) (R : List Int) (i k : Int) (t : Tr) (hA : ARf A R) (hi : Is A t i) (Z : St g (Zs a A :: L) w) :
  Sp Tryz.prog 96 [.pointer (some ⟨a, 0, none⟩), .int .u32 i, .int .i64 k] w (fun v w' => v = .tuple #[.int .i64 ((Tr.get k t).getD 0), .bool (Tr.get k t).isSome] ∧ St g (Zs a A :: L) w') := by
 refine Sp.enter Tryz.func96 rfl (by kernel_rfl) (by kernel_rfl) ?_
 refine WC.seq <| WC.region <| WL.r 2 rfl <| WL.nil <| WC.seq <| WC.seq <| WC.region <| WL.r 2 rfl <| WL.nil <| WC.block <| WC.loop [0, 2, 8] (fun kM vs w => ∃ (j : Int) (u : Tr), vs = [.pointer (some ⟨a, 0, none⟩), .int .i64 k, .int .u32 j] ∧ St g (Zs a A :: L) w ∧ (Is A u j) ∧ (Tr.get k u = Tr.get k t) ∧ (u.n) = kM) (t.n) ⟨i, t, rfl, Z, (hi), (rfl), rfl⟩ ?_
 clear Z; rintro _ _ w j ⟨j, u, rfl, Z, hu, hg, rfl⟩
 refine WC.seq <| WC.seq <| WC.region <| WL.r 2 rfl <| WL.nil <| WC.ifP rfl (fun cd1 => ?_) (fun cd1 => ?_)
 ·refine WC.skip <| WC.block <| WC.seq <| WC.region ?_
  obtain ⟨ul, uk, uz, ur, hue⟩ := Qr (t := u) (fun e => cd1 ((Is.nil_iff hu).2 e)); have hu2 : Is A (.node ul uk uz ur) j := hue ▸ hu; have hrj := hA.okrng hu.ref; have hlr := hA.okrng hu2.2.2.2.2.1.ref; have hrr := hA.okrng hu2.2.2.2.2.2.ref; have hun : u.n = ul.n + ur.n + 1 := (by rw [hue]; rfl)
  refine WL.r 2 rfl <| WL.call rfl rfl (Zgp (i := j) (hA := hA.toAWf) (hi := (by omega)) (hio := hu2.2.1) (Z := Z)) rfl ?_
  clear Z; rintro _ w ⟨rfl, Z⟩
  replace Z := Z.n1 L rfl
  refine WL.r 3 rfl <| WL.new rfl rfl YS Z (fun b1 w Z => ?_)
  refine WL.stF rfl rfl rfl 0 Z rfl rfl rfl rfl rfl ZY (fun w Z => ?_)
  replace Z := Z.n2 L (a0 := Ze b1 #[.int .i64 (A.nd j).key, .int .i64 (A.nd j).val, .int .u32 (A.nd j).lf, .int .u32 (A.nd j).rg, .int .i64 (A.nd j).size, .int .i64 (A.nd j).sum, .int .i64 (A.nd j).mn, .int .i64 (A.nd j).mx] 172) rfl
  refine WL.r 1 rfl <| WL.nil ?_
  as_aux_lemma =>
  refine WC.block <| WC.seq <| WC.region <| WL.r 3 rfl <| WL.nil <| WC.ifF rfl rfl <| WC.seq <| WC.region <| WL.run 5 [.int .i64 (A.nd j).key] rfl (by exact Z.ld 0 rfl rfl) ?_
  refine WL.nil <| WC.ifP rfl (fun hlt => ?_) (fun hlt => ?_)
  ·refine WC.region <| WL.run 3 [.int .u32 (A.nd j).lf] rfl (by exact Z.ld 0 rfl rfl) ?_
   refine WL.nil ?_
   exact ⟨_, by omega, (A.nd j).lf, ul, rfl, (Z.sel 1 [] rfl), (hu2.2.2.2.2.1), (by rw [← hg, hue, Tr.get, if_pos (by rw [← hu2.2.2.1]; exact hlt)]), rfl⟩
  ·refine WC.seq <| WC.region <| WL.run 5 [.int .i64 (A.nd j).key] rfl (by exact Z.ld 0 rfl rfl) ?_
   refine WL.nil <| WC.ifP rfl (fun hgt => ?_) (fun hgt => ?_)
   ·refine WC.region <| WL.run 3 [.int .u32 (A.nd j).rg] rfl (by exact Z.ld 0 rfl rfl) ?_
    refine WL.nil ?_
    exact ⟨_, by omega, (A.nd j).rg, ur, rfl, (Z.sel 1 [] rfl), (hu2.2.2.2.2.2), (by rw [← hg, hue, Tr.get, if_neg (by rw [← hu2.2.2.1]; exact hlt), if_pos (by rw [← hu2.2.2.1]; exact hgt)]), rfl⟩
   ·refine WC.seq <| WC.region <| WL.run 4 [.int .i64 (A.nd j).val] rfl (by exact Z.ld 0 rfl rfl) ?_
    refine WL.nil <| WC.ret ?_
    refine ⟨[.int .i64 (A.nd j).val, .bool true], ⟨rfl, rfl⟩, ?_⟩
    replace Z := (Z.sel 1 [] rfl)
    have hgv : Tr.get k t = some (A.nd j).val := (by rw [← hg, hue, Tr.get, if_neg (by rw [← hu2.2.2.1]; exact hlt), if_neg (by rw [← hu2.2.2.1]; exact hgt), hu2.2.2.2.1]); exact ⟨by rw [hgv]; rfl, Z⟩
 ·refine WC.exit <| WC.seq <| WC.region <| WL.r 2 rfl <| WL.nil <| WC.ret ?_
  refine ⟨[.int .i64 0, .bool false], ⟨rfl, rfl⟩, ?_⟩
  have hgv : Tr.get k t = none := (by rw [← hg, (Is.nil_iff hu).1 (Classical.not_not.1 cd1)]; rfl); exact ⟨by rw [hgv]; rfl, Z⟩
theorem Znr {h : Nat} (hw : Tr.wt h ≤ 2147483648) : IntKind.i64.wrap ((Tr.wt h : Int) + ((Tr.wt h : Int) + 2) / 3) = (Tr.wt (h + 1) : Int) := by
 rw [Zr (by omega), show Tr.wt (h + 1) = Tr.wt h + (Tr.wt h + 2) / 3 from rfl]; omega
theorem Zjr {keys h : Nat} (hh : h < 80) (hs : keys + 1 < Tr.wt (h + 1)) : Tr.mxA keys (80 - h) h = h := by
 rw [show 80 - h = (80 - (h + 1)) + 1 by omega, Tr.mxA, if_pos hs]
theorem Zp0 {keys h : Nat} (hh : h < 80) (hs : ¬ keys + 1 < Tr.wt (h + 1)) : Tr.mxA keys (80 - (h + 1)) (h + 1) = Tr.mxA keys (80 - h) h := by
 rw [show 80 - h = (80 - (h + 1)) + 1 by omega, Tr.mxA, if_neg hs]
theorem Zjz {h : Nat} (hw : Tr.wt h ≤ 2147483648) : Tr.wt (h + 1) ≤ 3000000000 := by
 rw [show Tr.wt (h + 1) = Tr.wt h + (Tr.wt h + 2) / 3 from rfl]; omega
theorem Zgx {g w : World} {L : List HP} (keys : Nat) (hk : keys ≤ 2147483647) (Z : St g (L) w) :
  Sp Tryz.prog 208 [.int .i64 (keys : Int)] w (fun v w' => v = .int .i64 (Tr.mxH keys : Int) ∧ St g (L) w') := by
 refine Sp.enter Tryz.func208 rfl (by kernel_rfl) (by kernel_rfl) ?_
 have _ := hk
 refine WC.seq <| WC.region <| WL.r 1 rfl <| WL.nil <| WC.seq <| WC.seq <| WC.region <| WL.r 2 rfl <| WL.rG 4 rfl (fun j => ?_)
 refine WL.prop 10 rfl (bor (dd _) (dd _)) <| WL.nil <| WC.ifF rfl (decide_eq_false ((by omega))) ?_
 refine WC.skip <| WC.seq <| WC.region <| WL.r 2 rfl <| WL.nil <| WC.seq <| WC.block <| WC.loop [0, 2, 3, 4] (fun kM vs w => ∃ (h : Nat), vs = [.int .i64 (keys : Int), .int .i64 0, .int .i64 (h : Int), .int .i64 (Tr.wt h : Int)] ∧ St g (L) w ∧ (h ≤ 80) ∧ (Tr.wt h ≤ keys + 1) ∧ (Tr.mxA keys (80 - h) h = Tr.mxH keys) ∧ (80 - h) = kM) (80 - 0) ⟨0, rfl, Z, (by omega), (by simp [Tr.wt]), (rfl), rfl⟩ ?_
 clear Z; rintro _ _ w j ⟨h, rfl, Z, hh, hw, hm, rfl⟩
 refine WC.seq <| WC.seq <| WC.region <| WL.r 2 rfl <| WL.nil ?_
 as_aux_lemma =>
 refine WC.ifP rfl (fun cd1 => ?_) (fun cd1 => ?_)
 ·refine WC.skip <| WC.block <| WC.seq <| WC.region ?_
  have hws := Zjz (h := h) (by omega)
  refine WL.r 3 rfl <| WL.nw 15 rfl (Zr (by omega)) ?_
  refine WL.r 1 rfl <| WL.reb 16 (.int .i64 (((Tr.wt h : Int) + 2) / 3)) (congrArg (Value.int .i64) (Zgm (p := (Tr.wt h : Int) + 2) (q := 3) (by omega))) ?_
  refine WL.r 1 rfl <| WL.reb 17 (.int .i64 (Tr.wt (h + 1) : Int)) (congrArg (Value.int .i64) (by exact Znr (by omega))) ?_
  refine WL.r 1 rfl <| WL.nil <| WC.seq <| WC.seq <| WC.region <| WL.r 2 rfl <| WL.nw 19 rfl (Zr (by omega)) ?_
  refine WL.r 2 rfl <| WL.nil <| WC.ifP rfl (fun cd2 => ?_) (fun cd2 => ?_)
  ·refine WC.exit <| WC.seq <| WC.region <| WL.r 2 rfl <| WL.nil ?_
   as_aux_lemma =>
   refine WC.ret ?_
   refine ⟨[.int .i64 (h : Int)], rfl, ?_⟩
   exact ⟨congrArg (fun n : Nat => Value.int .i64 n) ((Zjr (keys := keys) (by omega) (by omega)).symm.trans hm), Z⟩
  ·refine WC.skip <| WC.region <| WL.r 2 rfl <| WL.nw 23 rfl (Zr (by omega)) ?_
   refine WL.r 1 rfl <| WL.nil ?_
   exact ⟨_, by omega, h + 1, rfl, Z, (by omega), (by omega), (by rw [Zp0 (by omega) (by omega)]; exact hm), rfl⟩
 ·refine WC.exit <| WC.seq <| WC.region <| WL.r 2 rfl <| WL.nil <| WC.ret ?_
  refine ⟨[.int .i64 (h : Int)], rfl, ?_⟩
  exact ⟨congrArg (fun n : Nat => Value.int .i64 n) (by rw [← hm, show 80 - h = 0 by omega]; rfl), Z⟩
theorem Zkh {g w : World} {L : List HP} (l : List Int) (b : Option Addr) (c : Nat) (hl : l.length ≤ 10) (Z : St g (Sh 3 1 (Zb l) b c :: L) w) :
  Sp Tryz.prog 171 [.slice b (Zb l).length c] w (fun v w' => v = .bool (l.all fun n => decide (0 ≤ n ∧ n ≤ 65536)) ∧ St g (Sh 3 1 (Zb l) b c :: L) w') := by
 refine Sp.enter Tryz.func171 rfl (by kernel_rfl) (by kernel_rfl) ?_
 have _ := hl
 refine WC.seq <| WC.region <| WL.r 1 rfl <| WL.nil <| WC.seq <| WC.seq <| WC.region ?_
 have hll := Zh l
 refine WL.r 3 rfl <| WL.nil <| WC.block <| WC.loop [5, 6, 7] (fun kM vs w => ∃ (k : Nat), vs = [.slice b (Zb l).length c, .int .i64 (List.length (Zb l) : Int), .int .i64 (k : Int)] ∧ St g (Sh 3 1 (Zb l) b c :: L) w ∧ (k ≤ l.length) ∧ (∀ x ∈ l.take k, 0 ≤ x ∧ x ≤ 65536) ∧ (l.length - k) = kM) ((List.length l) - 0) ⟨0, rfl, Z, (Nat.zero_le _), (by simp), rfl⟩ ?_
 clear Z; rintro _ _ w j ⟨k, rfl, Z, hk, ha, rfl⟩
 refine WC.seq <| WC.region ?_
 have hll := Zh l
 refine WL.r 1 rfl <| WL.nil <| WC.seq <| WC.ifP rfl (fun cd1 => ?_) (fun cd1 => ?_)
 ·refine WC.skip <| WC.seq <| WC.block <| WC.seq <| WC.region ?_
  obtain ⟨x, hx⟩ : ∃ x, l[k]? = some x := ⟨_, List.getElem?_eq_getElem (by omega)⟩
  refine WL.ix rfl rfl (i := (k : Int)) (k) el_56 rfl rfl (by omega) (by omega) (Z.rdS 0 rfl (Zd hx)).1 ?_
  refine WL.run 2 [.int .i64 x] rfl (by exact (Z.rdS 0 rfl (Zd hx)).2 0 _ rfl) ?_
  refine WL.nil ?_
  as_aux_lemma =>
  refine WC.seq <| WC.region <| WL.r 2 rfl <| WL.rG 4 rfl (fun j => ?_)
  refine WL.prop 16 rfl (bor (dd _) (dd _)) <| WL.nil <| WC.ifP rfl (fun cd2 => ?_) (fun cd2 => ?_)
  ·refine WC.seq <| WC.region <| WL.r 1 rfl <| WL.nil <| WC.ret ?_
   refine ⟨[.bool false], rfl, ?_⟩
   exact ⟨congrArg Value.bool (by rw [Eq.comm, List.all_eq_false]; exact ⟨x, List.mem_of_getElem? hx, by simp; omega⟩), Z⟩
  ·refine WC.skip <| WC.region <| WL.r 1 rfl <| WL.nw 17 rfl (Zr (by omega)) ?_
   refine WL.r 1 rfl <| WL.nil ?_
   exact ⟨_, by omega, k + 1, rfl, Z, (by omega), (by rw [List.take_add_one, hx]; intro y hy; rcases List.mem_append.1 hy with hy | hy; exact ha y hy; simp at hy; subst hy; omega), rfl⟩
 ·refine WC.exit <| WC.seq <| WC.region <| WL.r 1 rfl <| WL.nil ?_
  as_aux_lemma =>
  refine WC.ret ?_
  refine ⟨[.bool true], rfl, ?_⟩
  exact ⟨congrArg Value.bool (by rw [Eq.comm, List.all_eq_true]; intro y hy; rw [List.take_of_length_le (by omega)] at ha; exact decide_eq_true (ha y hy)), Z⟩
theorem Zn1 {f x : Int} (hf : 0 ≤ f ∧ f ≤ 100) (hx : 0 ≤ x ∧ x ≤ 1000) : -9223372036854775808 ≤ f * x ∧ f * x ≤ 9223372036854775807 := by
 have h1 : 0 ≤ f * x := Int.mul_nonneg hf.1 hx.1
 have h2 : f * x ≤ 100 * 1000 := Int.mul_le_mul hf.2 hx.2 hx.1 (by omega)
 omega
theorem Zmq {g w : World} {L : List HP} (f : Int) (n : Nat) (hf : 0 ≤ f ∧ f ≤ 100) (hn : n ≤ 2147483647) (Z : St g (L) w) :
  Sp Tryz.prog 172 [.int .i64 f, .int .i64 (n : Int)] w (fun v w' => v = .int .i64 (f * ((Tr.mxH n : Int) + 2)) ∧ St g (L) w') := by
 refine Sp.enter Tryz.func172 rfl (by kernel_rfl) (by kernel_rfl) ?_
 refine WC.seq <| WC.region <| WL.r 1 rfl <| WL.nil <| WC.seq <| WC.region <| WL.r 2 rfl <| WL.call rfl rfl (Zgx (keys := n) (hk := hn) (Z := Z)) rfl ?_
 clear Z; rintro _ w ⟨rfl, Z⟩
 replace Z : St g (L) w := Z
 refine WL.r 1 rfl <| WL.reb 8 (.int .i64 ((Tr.mxH n : Int) + 2)) (congrArg (Value.int .i64) (by have := Tr.mxH_le n; rw [Zr (by omega)])) ?_
 refine WL.r 1 rfl <| WL.reb 9 (.int .i64 (f * ((Tr.mxH n : Int) + 2))) (congrArg (Value.int .i64) (by have := Tr.mxH_le n; exact Zr (Zn1 hf (by omega)))) ?_
 refine WL.r 1 rfl <| WL.nil <| WC.ret ?_
 refine ⟨[.int .i64 (f * ((Tr.mxH n : Int) + 2))], rfl, ?_⟩
 exact ⟨rfl, Z⟩
theorem Zqm {g w : World} {L : List HP} (n : Nat) (hn : n ≤ 65536) (Z : St g (L) w) :
  Sp Tryz.prog 124 [.int .i64 (n : Int)] w (fun v w' => v = .int .i64 (4 * ((Tr.mxH (n + 1) : Int) + 2)) ∧ St g (L) w') := by
 refine Sp.enter Tryz.func124 rfl (by kernel_rfl) (by kernel_rfl) ?_
 have _ := hn
 refine WC.seq <| WC.region <| WL.r 1 rfl <| WL.nil <| WC.seq <| WC.seq <| WC.region <| WL.r 1 rfl <| WL.lit rfl rfl (Zb [(n : Int)]) el_56 Z (by exact ⟨rfl, rfl⟩) (Z9 _) rfl (Nat.le_of_ble_eq_true rfl) (fun b1 w Z => ?_)
 replace Z := (Z.at_ 0 rfl).share
 replace Z : St g (Sh 3 1 (Zb [(n : Int)]) (some ⟨b1, 0, none⟩) (Zb [(n : Int)]).length :: L) w := Z
 refine WL.call rfl rfl (Zkh (l := [(n : Int)]) (b := some ⟨b1, 0, none⟩) (c := List.length (Zb [(n : Int)])) (hl := (by simp)) (Z := Z)) rfl ?_
 clear Z; rintro _ w ⟨rfl, Z⟩
 replace Z := Z.n1 L rfl
 refine WL.r 1 rfl <| WL.nil <| WC.ifF rfl (by simp; omega) ?_
 refine WC.skip <| WC.seq <| WC.region <| WL.r 2 rfl <| WL.reb 8 (.int .i64 ((n + 1 : Nat) : Int)) (congrArg (Value.int .i64) (by rw [Zr (by omega)]; omega)) ?_
 refine WL.call rfl rfl (Zmq (f := 4) (n := (n + 1 : Nat)) (hf := (by omega)) (hn := (by omega)) (Z := Z)) rfl ?_
 clear Z; rintro _ w ⟨rfl, Z⟩
 replace Z := Z.n1 L rfl
 refine WL.r 1 rfl <| WL.nil ?_
 as_aux_lemma =>
 refine WC.ret ?_
 refine ⟨[.int .i64 (4 * ((Tr.mxH (n + 1 : Nat) : Int) + 2))], rfl, ?_⟩
 replace Z := (Z.sel 1 [] rfl)
 exact ⟨rfl, Z⟩
end Go.Proofs.YtbeacjcmdijdmaaGreat
namespace Go.Proofs.YtbeacjcmdijdmaaGreat
open Go Go.V
theorem TOp.held {A B : AM} {R : List Int} {i j : Int} {t : Tr} {c : Nat} (h : TOp (A.ret i) B R j t c) : TOp A B R j t c :=
 ⟨h.ref, h.is, (Kp.ret A i R).trans h.kp, by have := h.fr; rw [(AM.ret_same _ _).1] at this; exact this, by rw [h.cap, (AM.ret_same _ _).1]⟩
theorem Zo8 {k z : Int} {t : Tr} (h1 : (Tr.get k t).isSome = true) (h2 : (Tr.get k t).getD 0 = z) : Tr.get k t = some z := by
 cases hg : Tr.get k t with
 | none => rw [hg] at h1; cases h1
 | some y => rw [hg] at h2; rw [show y = z from h2]
set_option maxHeartbeats 1000000 in
theorem Zo9 {g w : World} {L : List HP} (a : Nat) (A : AM) (R : List Int) (i k z : Int) (t : Tr) (hA : ARf A R) (hi : Is A t i) (hb : t.ok) (hn : t.n ≤ 65535) (hf : 4 * ((Tr.mxH (t.n + 1) : Int) + 2) ≤ A.s.free) (hz : R.length ≤ 500000000) (Z : St g (Zs a A :: L) w) :
  Sp Tryz.prog 47 [.pointer (some ⟨a, 0, none⟩), .int .u32 i, .agg #[.int .i64 k, .int .i64 z]] w (fun v w' => ∃ (A2 : AM) (j : Int), v = .tuple #[.int .u32 j, .int .i64 ((Tr.get k t).getD 0), .bool (Tr.get k t).isSome, .int .i64 0] ∧ St g (Zs a A2 :: L) w' ∧ (TOp A A2 R j (Tr.ins k z t) (4 * (Tr.mxH (t.n + 1) + 2)))) := by
 refine Sp.enter Tryz.func47 rfl (by kernel_rfl) (by kernel_rfl) ?_
 have _ := hz
 have _ := hf
 have _ := hn
 refine WC.seq <| WC.region <| WL.box rfl rfl #[.int .i64 k, .int .i64 z] Z rfl rfl (fun b1 w Z => ?_)
 refine WL.r 4 rfl <| WL.nil <| WC.seq <| WC.region <| WL.run 4 [.int .i64 k] rfl (by exact Z.ld 0 rfl rfl) ?_
 refine WL.call rfl rfl (Zop (R := R) (i := i) (k := k) (t := t) (hA := hA) (hi := hi) (Z := (Z.sel 2 [1, 0] rfl))) rfl ?_
 clear Z; rintro _ w ⟨rfl, Z⟩
 replace Z := Z.n2 L (a1 := Ze b1 #[.int .i64 k, .int .i64 z] 121) rfl
 refine WL.r 5 rfl <| WL.nil <| WC.seq <| WC.seq <| WC.region <| WL.r 1 rfl <| WL.runG 6 [.int .i64 z] rfl (by exact (fun _ => Z.ld 1 rfl rfl)) (fun j => ?_)
 refine WL.prop 26 rfl (Qd (dv _) (dd _)) <| WL.nil <| WC.ifP rfl (fun hc => ?_) (fun hc => ?_)
 ·refine WC.seq <| WC.region <| WL.r 2 rfl <| WL.call rfl rfl (Zgd (R := R) (i := i) (hA := hA) (hi := hi.ref) (hz := (by omega)) (Z := Z)) rfl ?_
  clear Z; rintro _ w ⟨rfl, Z, f1⟩
  replace Z := Z.n2 L (a0 := Zs a (A.ret i)) rfl
  refine WL.r 5 rfl <| WL.nil ?_
  as_aux_lemma =>
  refine WC.ret ?_
  refine ⟨[.int .u32 i, .int .i64 ((Tr.get k t).getD 0), .bool true, .int .i64 0], ⟨rfl, rfl, rfl, rfl⟩, ?_⟩
  replace Z := (Z.sel 2 [0] rfl)
  have hg := Zo8 hc.1 hc.2; exact ⟨_, _, by rw [hg]; rfl, Z, by rw [Tr.ins_same k z t hb hg]; exact (TOp.held (ARf.refl f1 (hi.ret i))).weak (Nat.zero_le _)⟩
 ·refine WC.skip <| WC.seq <| WC.seq <| WC.region <| WL.r 3 rfl <| WL.call rfl rfl (Y0 (R := R) (i := i) (t := t) (hA := hA) (hi := hi) (Z := Z)) rfl ?_
  clear Z; rintro _ w ⟨rfl, Z⟩
  replace Z := Z.n2 L rfl
  refine WL.call rfl rfl (Zqm (n := t.n) (hn := (by omega)) (Z := Z)) rfl ?_
  clear Z; rintro _ w ⟨rfl, Z⟩
  replace Z := Z.n2 L rfl
  refine WL.call rfl rfl (Zmg (n := 4 * ((Tr.mxH (t.n + 1) : Int) + 2)) (hA := hA.toAWf) (Z := Z)) rfl ?_
  clear Z; rintro _ w ⟨rfl, Z⟩
  replace Z := Z.n2 L rfl
  refine WL.r 1 rfl <| WL.prop 37 rfl (bnot (dd _)) <| WL.nil ?_
  as_aux_lemma =>
  refine WC.ifF rfl (decide_eq_false ((by have := Tr.mxH_le (t.n + 1); simp; omega))) ?_
  refine WC.skip <| WC.seq <| WC.plan [([0, 1, 2, 4, 6, 7], some (3, [0, 4, 6, 7])), ([], some (5, [6, 7])), ([8, 9, 10, 11], none)] (by kernel_rfl) (by kernel_rfl) ?_
  refine WQ.r 3 rfl <| WQ.ldF rfl rfl 1 Z rfl rfl Zp <| WQ.r 2 rfl <| WQ.nil ?_
  intro m1
  replace Z := Z.drewN m1; generalize hwm1 : World.drewN _ _ = w at *; clear hwm1
  refine WL.call rfl rfl (Zgd (R := R) (i := i) (hA := hA) (hi := hi.ref) (hz := (by omega)) (Z := Z)) rfl ?_
  clear Z; rintro _ w ⟨rfl, Z, f1⟩
  replace Z := Z.n2 L (a0 := Zs a (A.ret i)) rfl
  refine WL.nil ?_
  refine ⟨by exact ⟨RQ.pure rfl rfl rfl rfl, RQ.ldF rfl rfl 1 Z rfl rfl Zp rfl rfl, RQ.pure rfl rfl rfl rfl, RQ.pure rfl rfl rfl rfl⟩, ?_⟩
  refine WQ.nil ?_
  intro m2
  replace Z := Z.drewN m2; generalize hwm2 : World.drewN _ _ = w at *; clear hwm2
  refine WL.call rfl rfl (Zo5 (A := A.ret i) (R := R) (i := i) (k := k) (z := z) (t := t) (hA := f1) (hi := hi.ret i) (hf := (by have := Tr.ic_res k z t hb (by omega); rw [(AM.ret_same _ _).1]; omega)) (hz := (by omega)) (Z := Z)) rfl ?_
  clear Z; rintro _ w ⟨A1, j1, rfl, Z, f2⟩
  replace Z := Z.n2 L (a0 := Zs a A1) rfl
  refine WL.nil ?_
  refine ⟨by exact ⟨RQ.pure rfl rfl rfl rfl, RQ.pure rfl rfl rfl rfl⟩, ?_⟩
  refine WQ.r 4 rfl <| WQ.nil ?_
  intro m3
  replace Z := Z.drewN m3; generalize hwm3 : World.drewN _ _ = w at *; clear hwm3
  as_aux_lemma =>
  refine WC.ret ?_
  refine ⟨[.int .u32 j1, .int .i64 ((Tr.get k t).getD 0), .bool (Tr.get k t).isSome, .int .i64 0], ⟨rfl, rfl, rfl, rfl⟩, ?_⟩
  replace Z := (Z.sel 2 [0] rfl)
  exact ⟨_, _, rfl, Z, (TOp.held f2).weak (by have := Tr.ic_res k z t hb (by omega); omega)⟩
end Go.Proofs.YtbeacjcmdijdmaaGreat
namespace Go.Proofs.YtbeacjcmdijdmaaGreat
open Go Go.V Go.RowKit
def TrL (A : AM) (r : Int) (es : Z2) : Prop := ∃ t : Tr, Is A t r ∧ t.ok ∧ Srt t.ls ∧ t.ls = es
structure WR (V : VM) (A : AM) (R : List Int) (z : RSt) (m : Nat) : Prop where
 vi : VI V A R
 ko : KO V.xs
 ra : RA V.xs z.P z.B V.last
 tt : z.T = V.T
 cp : z.cap = V.cap
 ll : z.LL.length = z.P.length
 tr : ∀ r ∈ V.rs, ∃ x, z.LL[(r.n - 1).toNat]? = some x ∧ TrL A r.root x.es
 sz : ∀ x ∈ z.LL, x.es.length ≤ m ∧ Srt x.es
 la : V.last ≤ 800
 xl : (V.xs.length : Int) ≤ V.cap
theorem RelQ.sub {xs xs2 : List VN} {q : Nat} {n z : Int} (hG : GOk xs q) (h : RelQ xs n xs2) (hp : ZF xs2 z = true) : ZF xs z = true := by
 rcases h with ⟨_, h⟩ | ⟨_, rfl⟩
 ·exact (h.facts hG).2.1 z hp
 ·exact hp
theorem TrL.kp {A B : AM} {R : List Int} {r : Int} {es : Z2} (h : TrL A r es) (kp : Kp A B R) (hr : r ∈ R) : TrL B r es := by
 obtain ⟨t, h1, h2, h3, h4⟩ := h
 exact ⟨t, kp.is r hr t h1, h2, h3, h4⟩
theorem TrL.ret {A : AM} {r : Int} {es : Z2} (h : TrL A r es) (i : Int) : TrL (A.ret i) r es := by
 obtain ⟨t, h1, h2, h3, h4⟩ := h
 exact ⟨t, h1.ret i, h2, h3, h4⟩
theorem WR.rok {V : VM} {A : AM} {R : List Int} {z : RSt} {m : Nat} (h : WR V A R z m) : ROk z :=
 ⟨by rw [h.tt]; exact h.vi.t, h.ra.pok, h.ra.lenB, h.ll, by have := h.ra.len; have := h.la; omega, by rw [h.cp]; exact h.vi.g.cp⟩
theorem WR.room {V : VM} {A : AM} {R : List Int} {z : RSt} {m : Nat} (h : WR V A R z m) : z.room = V.room := by
 have h1 := h.ra.num h.vi.g.ok h.ko
 have h2 := h.vi.cp
 unfold RSt.room VM.room
 rw [h1, h.cp, h.tt, show V.cap - (V.T.s.cap - V.T.s.free) = V.T.s.free by omega]
theorem WR.open {V : VM} {A : AM} {R : List Int} {z : RSt} {m : Nat} (h : WR V A R z m) {x : Int} (ho : V.T.s.opn x = true) : ∃ (k : Nat) (l : LsE), V.T.val x = (k : Int) + 1 ∧ z.LL[k]? = some l ∧ TrL A (V.rootOf (V.T.val x)) l.es ∧ V.rootOf (V.T.val x) ∈ V.rs.map RN.root ∧ ZB z.B (V.T.val x) = true := by
 obtain ⟨h1, i, r, hr, hn⟩ := VM.open_val h.vi ho
 have h2 := VM.rootOf_at h.vi.k.uniq hr
 rw [hn] at h2
 obtain ⟨l, hl, ht⟩ := h.tr r (List.mem_of_getElem? hr)
 have h3 : ZB z.B (V.T.val x) = true := by rw [← h.ra.live]; exact h1
 have h4 := (Yi h3).1
 exact ⟨(r.n - 1).toNat, l, by omega, hl, by rw [h2]; exact ht, by rw [h2]; exact List.mem_map.2 ⟨r, List.mem_of_getElem? hr, rfl⟩, h3⟩
theorem WR.ar {V : VM} {A B : AM} {R R2 : List Int} {z : RSt} {m : Nat} (h : WR V A R z m) (hB : ARf B (V.rs.map RN.root ++ R2)) (kp : Kp A B (V.rs.map RN.root)) : WR V B R2 z m :=
 ⟨h.vi.ar hB, h.ko, h.ra, h.tt, h.cp, h.ll, fun r hr => by
  obtain ⟨x, hx, ht⟩ := h.tr r hr
  exact ⟨x, hx, ht.kp kp (List.mem_map.2 ⟨r, hr, rfl⟩)⟩, h.sz, h.la, h.xl⟩
theorem WR.up {V : VM} {A : AM} {R : List Int} {z : RSt} {m m2 : Nat} (h : WR V A R z m) (hm : m ≤ m2) : WR V A R z m2 :=
 ⟨h.vi, h.ko, h.ra, h.tt, h.cp, h.ll, h.tr, fun x hx => ⟨Nat.le_trans (h.sz x hx).1 hm, (h.sz x hx).2⟩, h.la, h.xl⟩
theorem WR.add {V V2 : VM} {A : AM} {R : List Int} {z : RSt} {m : Nat} {root : Int} {ps : List Int} {x : LsE} (h : WR V A R z m) (hC : Com V root ps V2) (hV : VI V2 (A.ret root) R) (hl : V.last < 800) (ht : TrL A root x.es) (hx : x.es.length ≤ m) (ra ga oa va pa ba la e : Option Addr) (rc gc oc vc pc bc lc f : Nat) : WR V2 (A.ret root) R (z.add ps x ra ga oa va pa ba la e rc gc oc vc pc bc lc f) m := by
 obtain ⟨⟨xs2, q, rfl, hA⟩, h0⟩ := hC
 have hlen := h.ra.len
 obtain ⟨t, t1, t2, t3, t4⟩ := ht
 refine ⟨hV, h.ko.add h.vi.g.le hA, h.ra.add (r := PR.mk ps e f) h.vi.g hA h0, ?_, h.cp, ?_, fun r hr => ?_, fun y hy => ?_, by show V.last + 1 ≤ 800; omega, ?_⟩
 ·show z.T.open (z.P.length + 1) = V.T.open (V.last + 1)
  rw [h.tt, hlen]
 ·show (z.LL ++ [x]).length = (z.P ++ [PR.mk ps e f]).length
  rw [List.length_append, List.length_append, h.ll]; rfl
 ·have hr2 : r ∈ V.rs ++ [⟨V.last + 1, root, V.q2⟩] := hr
  rcases List.mem_append.1 hr2 with hr2 | hr2
  ·obtain ⟨y, hy, hty⟩ := h.tr r hr2
   exact ⟨y, by show (z.LL ++ [x])[_]? = _; rw [List.getElem?_append_left (List.getElem?_eq_some_iff.1 hy).1]; exact hy, hty.ret root⟩
  ·rw [List.mem_singleton.1 hr2]
   refine ⟨x, ?_, t, t1.ret root, t2, t3, t4⟩
   show (z.LL ++ [x])[(V.last + 1 - 1).toNat]? = _
   rw [show (V.last + 1 - 1).toNat = z.LL.length by rw [h.ll]; omega, List.getElem?_append_right (Nat.le_refl _), Nat.sub_self]; rfl
 ·have hy2 : y ∈ z.LL ++ [x] := hy
  rcases List.mem_append.1 hy2 with hy2 | hy2
  ·exact h.sz y hy2
  ·rw [List.mem_singleton.1 hy2]; exact ⟨hx, t4 ▸ t3⟩
 ·have h1 := (Zct h0).2.2
  have h2 := (hA.vw h.vi.g.le h0).2.1
  show (xs2.length : Int) ≤ V.cap
  omega
theorem WR.rel {V V2 : VM} {A A2 : AM} {R : List Int} {z : RSt} {m : Nat} {hd : Int} (h : WR V A R z m) (ho : V.T.s.opn hd = true) (hR : Rls V hd V2) (hV : VI V2 A2 R) (kp : Kp A A2 (V2.rs.map RN.root ++ R)) (ra oa ba : Option Addr) (rc oc bc : Nat) : WR V2 A2 R (z.rel hd ra oa ba rc oc bc) m := by
 have hv : z.T.val hd = V.T.val hd := by rw [h.tt]
 have hl := (VM.open_val h.vi ho).1
 refine ⟨hV, h.ko.rel h.vi.g.ok hR.rel, ?_, ?_, ?_, h.ll, fun r hr => ?_, h.sz, ?_, ?_⟩
 ·have e : V2.last = V.last := (by have h9 := congrArg VM.last hR.eq; exact h9)
  rw [e]
  show RA V2.xs z.P (z.B.set (z.T.val hd - 1).toNat false) V.last
  rw [hv]
  exact h.ra.rel h.vi.g.ok hR.rel hl
 ·show z.T.close hd = V2.T
  rw [h.tt]; exact (congrArg VM.T hR.eq).symm
 ·have e : V2.cap = V.cap := (by have h9 := congrArg VM.cap hR.eq; exact h9)
  rw [e]; exact h.cp
 ·have hr2 := (hR.sub r).1 hr
  obtain ⟨y, hy, hty⟩ := h.tr r hr2.1
  exact ⟨y, hy, hty.kp kp (List.mem_append_left _ (List.mem_map.2 ⟨r, hr, rfl⟩))⟩
 ·have e : V2.last = V.last := (by have h9 := congrArg VM.last hR.eq; exact h9)
  rw [e]; exact h.la
 ·have e : V2.cap = V.cap := (by have h9 := congrArg VM.cap hR.eq; exact h9)
  have h1 := hV.g.ok.uniq
  have h2 : (V2.xs.map VN.n).length ≤ (V.xs.map VN.n).length := Zdi (List.pairwise_map.2 h1) fun n hn => by
   obtain ⟨x, hx, rfl⟩ := List.mem_map.1 hn
   have h3 := RelQ.sub h.vi.g.ok hR.rel (ZO.2 ⟨x, hx, rfl⟩)
   obtain ⟨y, hy, e⟩ := ZO.1 h3
   exact List.mem_map.2 ⟨y, hy, e⟩
  rw [List.length_map, List.length_map] at h2
  rw [e]; have := h.xl; omega
theorem Zjo {α : Type} (f : α → Nat) (m : Nat) : ∀ l : List α, (∀ x ∈ l, f x ≤ m) → (l.map f).foldr (· + ·) 0 ≤ l.length * m
 | [], _ => by simp
 | x :: l, h => by
  have h1 := h x (by simp)
  have h2 := Zjo f m l fun y hy => h y (by simp [hy])
  simp only [List.map_cons, List.foldr_cons, List.length_cons, Nat.add_mul, Nat.one_mul]; omega
theorem WR.used {V : VM} {A : AM} {z : RSt} {m : Nat} (h : WR V A [] z m) : A.s.cap - A.s.free ≤ (V.rs.length * m : Nat) := by
 have hT : ∀ r ∈ V.rs.map RN.root ++ [], ∃ t : Tr, Is A t r ∧ t.n ≤ m := fun r hr => by
  rw [List.append_nil] at hr
  obtain ⟨x, hx, rfl⟩ := List.mem_map.1 hr
  obtain ⟨y, hy, t, t1, _, _, t4⟩ := h.tr x hx
  have h1 := (h.sz y (List.mem_of_getElem? hy)).1
  exact ⟨t, t1, by rw [← Tr.ls_len, t4]; exact h1⟩
 have h1 := Zn4 h.vi.ref (fun r => if hr : r ∈ V.rs.map RN.root ++ [] then (hT r hr).choose else .nil) fun r hr => by
  simp only [dif_pos hr]; exact (hT r hr).choose_spec.1
 have h2 := Zjo (fun r => (if hr : r ∈ V.rs.map RN.root ++ [] then (hT r hr).choose else Tr.nil).n) m (V.rs.map RN.root ++ []) fun r hr => by
  simp only [dif_pos hr]; exact (hT r hr).choose_spec.2
 have h3 : (V.rs.map RN.root ++ []).length = V.rs.length := by rw [List.append_nil, List.length_map]
 rw [h3] at h2
 omega
end Go.Proofs.YtbeacjcmdijdmaaGreat
namespace Go.Proofs.YtbeacjcmdijdmaaGreat
open Go Go.V Go.RowKit
def YC (T : TM) (rm : Int) (ps : List Int) : Int := if ZT ps then (if ∀ y ∈ ps, T.s.opn y = true then (if rm < 1 then 2 else 0) else 5) else 1
def Z7 (T : TM) (rm : Int) (ps : List Int) : Int := if YC T rm ps = 0 then T.newH else 0
theorem Qx {T : TM} {rm : Int} {ps : List Int} (h : ¬ ZT ps) : YC T rm ps = 1 := if_neg h
theorem JM {T : TM} {rm : Int} {ps : List Int} (h : ZT ps) (h2 : ¬ ∀ y ∈ ps, T.s.opn y = true) : YC T rm ps = 5 := by rw [YC, if_pos h, if_neg h2]
theorem XX {T : TM} {rm : Int} {ps : List Int} (h : ZT ps) (h2 : ∀ y ∈ ps, T.s.opn y = true) (h3 : rm < 1) : YC T rm ps = 2 := by rw [YC, if_pos h, if_pos h2, if_pos h3]
theorem Za8 {T : TM} {rm : Int} {ps : List Int} (h : ZT ps) (h2 : ∀ y ∈ ps, T.s.opn y = true) (h3 : ¬ rm < 1) : YC T rm ps = 0 := by rw [YC, if_pos h, if_pos h2, if_neg h3]
theorem Zeh {T : TM} {rm : Int} {ps : List Int} (h : YC T rm ps = 0) : ZT ps ∧ (∀ y ∈ ps, T.s.opn y = true) ∧ 1 ≤ rm := by
 by_cases h1 : ZT ps
 ·by_cases h2 : ∀ y ∈ ps, T.s.opn y = true
  ·by_cases h3 : rm < 1
   ·rw [XX h1 h2 h3] at h; cases h
   ·exact ⟨h1, h2, by omega⟩
  ·rw [JM h1 h2] at h; cases h
 ·rw [Qx h1] at h; cases h
theorem Zll {T : TM} {ps : List Int} (h : ¬ ∀ y ∈ ps, T.s.opn y = true) : ∃ y ∈ ps, T.s.opn y = false := by
 refine Classical.byContradiction fun h1 => h fun y hy => ?_
 cases e : T.s.opn y with
 | true => rfl
 | false => exact absurd ⟨y, hy, e⟩ h1
theorem Zeb {ps : List Int} (h : ¬ ZT ps) (hl : ps.length ≤ 2) : ∃ y, ps = [y, y] := (Zgw h).resolve_left (by omega)
theorem Zgv {V : VM} {A : AM} {R : List Int} (h : VI V A R) (hx : (V.xs.length : Int) ≤ V.cap) : 0 ≤ V.room := by
 have h1 := h.cp; have h2 := h.t.s.free_rng
 unfold VM.room; omega
def Zqf (V : VM) (A : AM) (R : List Int) (root : Int) (ps : List Int) (V2 : VM) (A2 : AM) : Prop := (YC V.T V.room ps = 0 ∧ A2 = A.ret root ∧ VI V2 (A.ret root) R ∧ Com V root (ps.map V.T.val) V2) ∨ (YC V.T V.room ps ≠ 0 ∧ A2 = A ∧ V2 = V)
def ComR (z : RSt) (x : LsE) (ps : List Int) (z2 : RSt) : Prop := (YC z.T z.room ps = 0 ∧ ∃ (ra ga oa va pa ba la e : Option Addr) (rc gc oc vc pc bc lc f : Nat), z2 = z.add (ps.map z.T.val) x ra ga oa va pa ba la e rc gc oc vc pc bc lc f) ∨ (YC z.T z.room ps ≠ 0 ∧ z2 = z)
theorem Zpk {g w : World} {L : List HP} (s a : Nat) (V : VM) (A : AM) (R : List Int) (root : Int) (ps : List Int) (pa : Option Addr) (pc : Nat) (hV : VI V A R) (hr : root = 0 ∨ (1 ≤ root ∧ A.s.ok root = true)) (hhs : ∀ x ∈ ps, 0 ≤ x ∧ x ≤ 18446744073709551615) (hpl : ps.length ≤ 2) (hxl : (V.xs.length : Int) ≤ V.cap) (hla : V.last < 1000000000) (hlen : R.length ≤ 900000000) (Z : St g (ZP s a V :: Zs a A :: Sh 23 1 (Zg ps) pa pc :: L) w) :
  Sp Tryz.prog 127 [.pointer (some ⟨s, 0, none⟩), .int .u32 root, .slice pa (Zg ps).length pc] w (fun v w' => ∃ (V2 : VM) (A2 : AM), v = .tuple #[.int .u64 (Z7 V.T V.room ps), .int .i64 (YC V.T V.room ps)] ∧ St g (ZP s a V2 :: Zs a A2 :: Sh 23 1 (Zg ps) pa pc :: L) w' ∧ (Zqf V A R root ps V2 A2)) := by
 by_cases h1 : ZT ps
 ·by_cases h2 : ∀ y ∈ ps, V.T.s.opn y = true
  ·by_cases h3 : V.room < 1
   ·have e := XX (T := V.T) h1 h2 h3
    rw [Z7, e]
    refine (J' s a V A R root ps pa pc hV h1 hhs h2 (by have := Zgv hV hxl; omega) (Z.sel 3 [0, 1, 0] rfl)).mono fun v w' ⟨hv, h⟩ => ?_
    exact ⟨V, A, hv, (h.n3 L rfl).sel 3 [0, 1, 0] rfl, .inr ⟨by rw [e]; decide, rfl, rfl⟩⟩
   ·have e := Za8 (T := V.T) h1 h2 h3
    rw [Z7, e]
    refine (J2 s a V A R root ps pa pc hV hr h1 (fun x hx => ⟨hhs x hx, h2 x hx⟩) (by omega) hla hlen Z).mono fun v w' ⟨V2, hv, h, f1, f2⟩ => ?_
    exact ⟨V2, _, hv, h, .inl ⟨e, rfl, f1, f2⟩⟩
  ·have e := JM (T := V.T) (rm := V.room) h1 h2
   rw [Z7, e]
   refine (Zfu s a V A R root ps pa pc hV h1 hhs (Zll h2) (Z.sel 3 [0, 1, 0] rfl)).mono fun v w' ⟨hv, h⟩ => ?_
   exact ⟨V, A, hv, (h.n3 L rfl).sel 3 [0, 1, 0] rfl, .inr ⟨by rw [e]; decide, rfl, rfl⟩⟩
 ·have e := Qx (T := V.T) (rm := V.room) h1
  obtain ⟨y, rfl⟩ := Zeb h1 hpl
  rw [Z7, e]
  refine (Ze6 s a V root y pa pc (Z.sel 3 [0, 1, 0] rfl)).mono fun v w' ⟨hv, h⟩ => ?_
  exact ⟨V, A, hv, (h.n3 L rfl).sel 3 [0, 1, 0] rfl, .inr ⟨by rw [e]; decide, rfl, rfl⟩⟩
theorem Zpv {g w : World} {L : List HP} (s a : Nat) (V : VM) (A : AM) (R : List Int) (h : Int) (hV : VI V A R) (hh : 0 ≤ h ∧ h ≤ 18446744073709551615) (hxl : (V.xs.length : Int) ≤ V.cap) (hla : V.last < 1000000000) (hlen : R.length ≤ 900000000) (Z : St g (ZP s a V :: Zs a A :: L) w) :
  Sp Tryz.prog 54 [.pointer (some ⟨s, 0, none⟩), .int .u64 h] w (fun v w' => ∃ (V2 : VM) (A2 : AM), v = .tuple #[.int .u64 (Z7 V.T V.room [h]), .int .i64 (YC V.T V.room [h])] ∧ St g (ZP s a V2 :: Zs a A2 :: L) w' ∧ (Zqf V A R (V.rootOf (V.T.val h)) [h] V2 A2)) := by
 have h1 := QP h
 by_cases hn : V.T.s.opn h = true
 ·have h2 : ∀ y ∈ [h], V.T.s.opn y = true := fun x hx => by rw [List.mem_singleton.1 hx]; exact hn
  by_cases h3 : V.room < 1
  ·have e := XX (T := V.T) h1 h2 h3
   rw [Z7, e]
   refine (Zcb s a V A R h hV hh hn (by have := Zgv hV hxl; omega) Z).mono fun v w' ⟨hv, k⟩ => ?_
   exact ⟨V, A, hv, k, .inr ⟨by rw [e]; decide, rfl, rfl⟩⟩
  ·have e := Za8 (T := V.T) h1 h2 h3
   rw [Z7, e]
   refine (Zca s a V A R h hV hh hn (by omega) hla hlen Z).mono fun v w' ⟨V2, hv, k, f1, f2⟩ => ?_
   exact ⟨V2, _, hv, k, .inl ⟨e, rfl, f1, f2⟩⟩
 ·have e := JM (T := V.T) (rm := V.room) (ps := [h]) h1 (fun k => hn (k h (by simp)))
  rw [Z7, e]
  refine (Zdx s a V h hV.t hh (Bool.eq_false_iff.2 hn) Z).mono fun v w' ⟨hv, k⟩ => ?_
  exact ⟨V, A, hv, k, .inr ⟨by rw [e]; decide, rfl, rfl⟩⟩
def RelV (V : VM) (A : AM) (R : List Int) (h : Int) (V2 : VM) (A2 : AM) : Prop := (V.T.s.opn h = true ∧ VI V2 A2 R ∧ Rls V h V2 ∧ A2.s.used.length = A.s.used.length ∧ Kp A A2 (V2.rs.map RN.root ++ R)) ∨ (V.T.s.opn h = false ∧ V2 = V ∧ A2 = A)
def RelR (z : RSt) (h : Int) (z2 : RSt) : Prop := (z.T.s.opn h = true ∧ ∃ (ra oa ba : Option Addr) (rc oc bc : Nat), z2 = z.rel h ra oa ba rc oc bc) ∨ (z.T.s.opn h = false ∧ z2 = z)
theorem Zok {g w : World} {L : List HP} (s a : Nat) (V : VM) (A : AM) (R : List Int) (h : Int) (hV : VI V A R) (hh : 0 ≤ h ∧ h ≤ 18446744073709551615) (hlen : R.length ≤ 800000000) (Z : St g (ZP s a V :: Zs a A :: L) w) :
  Sp Tryz.prog 17 [.pointer (some ⟨s, 0, none⟩), .int .u64 h] w (fun v w' => ∃ (V2 : VM) (A2 : AM), v = .tuple #[.int .i64 (A2.s.free - A.s.free), .int .i64 (if V.T.s.opn h = true then 0 else 5)] ∧ St g (ZP s a V2 :: Zs a A2 :: L) w' ∧ (RelV V A R h V2 A2)) := by
 by_cases hn : V.T.s.opn h = true
 ·rw [if_pos hn]
  refine (Jo s a V A R h hV hh hn hlen Z).mono fun v w' ⟨V2, A2, f, hv, k, f1, f2, f3, f4⟩ => ?_
  exact ⟨V2, A2, by rw [← f3.1]; exact hv, k, .inl ⟨hn, f1, f2, f3.2, f4⟩⟩
 ·rw [if_neg hn]
  refine (Zer s a V h hV.t hh (Bool.eq_false_iff.2 hn) Z).mono fun v w' ⟨hv, k⟩ => ?_
  exact ⟨V, A, by rw [Int.sub_self]; exact hv, k, .inr ⟨Bool.eq_false_iff.2 hn, rfl, rfl⟩⟩
theorem Zof {g w : World} {L : List HP} (s a : Nat) (V : VM) (A : AM) (R : List Int) (h : Int) (hV : VI V A R) (hh : 0 ≤ h ∧ h ≤ 18446744073709551615) (Z : St g (ZP s a V :: L) w) :
  Sp Tryz.prog 64 [.pointer (some ⟨s, 0, none⟩), .int .u64 h] w (fun v w' => v = .tuple #[.int .u32 (if V.T.s.opn h = true then V.rootOf (V.T.val h) else 0), .int .i64 (if V.T.s.opn h = true then 0 else 5)] ∧ St g (ZP s a V :: L) w') := by
 by_cases hn : V.T.s.opn h = true
 ·rw [if_pos hn, if_pos hn]; exact Jr s a V A R h hV hh hn Z
 ·rw [if_neg hn, if_neg hn]; exact J_ s a V h hV.t hh (Bool.eq_false_iff.2 hn) Z
theorem Zkg {g w : World} {L : List HP} (z : RSt) (xe : Z2) (xa : Option Addr) (xc : Nat) (ps : List Int) (pa2 : Option Addr) (pc2 : Nat) (hz : ROk z) (hhs : ∀ y ∈ ps, 0 ≤ y ∧ y ≤ 18446744073709551615) (hpl : ps.length ≤ 2) (hpv : ZT ps → (∀ y ∈ ps, z.T.s.opn y = true) → ZT (List.map z.T.val ps) ∧ ∀ y ∈ ps, ZB z.B (z.T.val y) = true) (Z : St g (Zn Z6 [z] :: Sh 121 2 (Zq xe) xa xc :: Sh 23 1 (Zg ps) pa2 pc2 :: L) w) :
  Sp Tryz.prog 68 [.agg (rvA z), .slice xa (Zq xe).length xc, .slice pa2 (Zg ps).length pc2] w (fun v w' => ∃ (z2 : RSt), v = .tuple #[.agg (rvA z2), .int .u64 (Z7 z.T z.room ps), .int .i64 (YC z.T z.room ps)] ∧ St g (Zn Z6 [z2] :: Sh 121 2 (Zq xe) xa xc :: Sh 23 1 (Zg ps) pa2 pc2 :: L) w' ∧ (ComR z ⟨xe, xa, xc⟩ ps z2)) := by
 by_cases h1 : ZT ps
 ·by_cases h2 : ∀ y ∈ ps, z.T.s.opn y = true
  ·by_cases h3 : z.room < 1
   ·have e := XX (T := z.T) h1 h2 h3
    rw [Z7, e]
    exact (Zcz z ⟨xe, xa, xc⟩ ps pa2 pc2 hz hhs (by omega) h1 h2 h3 Z).mono fun v w' ⟨hv, k⟩ => ⟨z, hv, k, .inr ⟨by rw [e]; decide, rfl⟩⟩
   ·have e := Za8 (T := z.T) h1 h2 h3
    rw [Z7, e]
    refine (Zhh z ⟨xe, xa, xc⟩ ps pa2 pc2 hz hhs (by omega) h1 h2 (hpv h1 h2).1 (hpv h1 h2).2 (by omega) Z).mono fun v w' ⟨ra, ga, oa, va, pa, ba, la, e1, rc, gc, oc, vc, pc, bc, lc, f1, hv, k⟩ => ?_
    exact ⟨_, hv, k, .inl ⟨e, ra, ga, oa, va, pa, ba, la, e1, rc, gc, oc, vc, pc, bc, lc, f1, rfl⟩⟩
  ·have e := JM (T := z.T) (rm := z.room) h1 h2
   rw [Z7, e]
   exact (Zfc z ⟨xe, xa, xc⟩ ps pa2 pc2 hz hhs (by omega) h1 (Zll h2) Z).mono fun v w' ⟨hv, k⟩ => ⟨z, hv, k, .inr ⟨by rw [e]; decide, rfl⟩⟩
 ·have e := Qx (T := z.T) (rm := z.room) h1
  obtain ⟨y, rfl⟩ := Zeb h1 hpl
  rw [Z7, e]
  exact (Zfn z ⟨xe, xa, xc⟩ y pa2 pc2 hz Z).mono fun v w' ⟨hv, k⟩ => ⟨z, hv, k, .inr ⟨by rw [e]; decide, rfl⟩⟩
theorem Zon {g w : World} {L : List HP} (z : RSt) (h : Int) (hz : ROk z) (hh : 0 ≤ h ∧ h ≤ 18446744073709551615) (hl : z.T.s.opn h = true → ZB z.B (z.T.val h) = true) (Z : St g (Zn Z6 [z] :: L) w) :
  Sp Tryz.prog 69 [.agg (rvA z), .int .u64 h] w (fun v w' => ∃ (z2 : RSt), v = .tuple #[.agg (rvA z2), .int .i64 (if z.T.s.opn h = true then 0 else 5)] ∧ St g (Zn Z6 [z2] :: L) w' ∧ (RelR z h z2)) := by
 by_cases hn : z.T.s.opn h = true
 ·rw [if_pos hn]
  exact (Zhe z h hz hh hn (hl hn) Z).mono fun v w' ⟨ra, oa, ba, rc, oc, bc, hv, k⟩ => ⟨_, hv, k, .inl ⟨hn, ra, oa, ba, rc, oc, bc, rfl⟩⟩
 ·rw [if_neg hn]
  exact (Zfi z h hz hh (Bool.eq_false_iff.2 hn) Z).mono fun v w' ⟨hv, k⟩ => ⟨z, hv, k, .inr ⟨Bool.eq_false_iff.2 hn, rfl⟩⟩
theorem Zgg {g w : World} {L : List HP} (z : RSt) (h : Int) (hz : ROk z) (hh : 0 ≤ h ∧ h ≤ 18446744073709551615) (hx : z.T.s.opn h = true → ∃ (k : Nat) (l : LsE), z.T.val h = (k : Int) + 1 ∧ z.LL[k]? = some l) (Z : St g (Zn Z6 [z] :: L) w) :
  Sp Tryz.prog 63 [.agg (rvA z), .int .u64 h] w (fun v w' => ∃ (x : LsE), v = .tuple #[.slice x.a (Zq x.es).length x.c, .int .i64 (if z.T.s.opn h = true then 0 else 5)] ∧ St g (Zn Z6 [z] :: Sh 121 2 (Zq x.es) x.a x.c :: L) w' ∧ ((z.T.s.opn h = true ∧ ∃ k : Nat, z.T.val h = (k : Int) + 1 ∧ z.LL[k]? = some x) ∨ (z.T.s.opn h = false ∧ x = ⟨[], none, 0⟩))) := by
 by_cases hn : z.T.s.opn h = true
 ·rw [if_pos hn]
  obtain ⟨k, l, h1, h2⟩ := hx hn
  exact (Zfh z h k l hz hh hn h2 h1 Z).mono fun v w' ⟨hv, q⟩ => ⟨l, hv, q, .inl ⟨hn, k, h1, h2⟩⟩
 ·rw [if_neg hn]
  exact (Zd3 z h hz hh (Bool.eq_false_iff.2 hn) Z).mono fun v w' ⟨hv, q⟩ => ⟨⟨[], none, 0⟩, hv, ((q.n1 L rfl).nilS 121 2).sel 2 [1, 0] rfl, .inr ⟨Bool.eq_false_iff.2 hn, rfl⟩⟩
theorem WR.opl {V : VM} {A : AM} {R : List Int} {z : RSt} {m : Nat} (h : WR V A R z m) {x : Int} (ho : z.T.s.opn x = true) : ∃ (k : Nat) (l : LsE), z.T.val x = (k : Int) + 1 ∧ z.LL[k]? = some l := by
 rw [h.tt] at ho ⊢
 obtain ⟨k, l, h1, h2, _⟩ := h.open ho
 exact ⟨k, l, h1, h2⟩
theorem WR.liv {V : VM} {A : AM} {R : List Int} {z : RSt} {m : Nat} (h : WR V A R z m) {x : Int} (ho : z.T.s.opn x = true) : ZB z.B (z.T.val x) = true := by
 rw [h.tt] at ho ⊢
 obtain ⟨k, l, _, _, _, _, h6⟩ := h.open ho
 exact h6
theorem WR.pv {V : VM} {A : AM} {R : List Int} {z : RSt} {m : Nat} (h : WR V A R z m) {ps : List Int} (h1 : ZT ps) (h2 : ∀ y ∈ ps, z.T.s.opn y = true) : ZT (ps.map z.T.val) ∧ ∀ y ∈ ps, ZB z.B (z.T.val y) = true := by
 refine ⟨?_, fun y hy => h.liv (h2 y hy)⟩
 rw [h.tt] at h2 ⊢
 exact Zdz h.vi h1 h2
theorem WR.same {V : VM} {A : AM} {R : List Int} {z : RSt} {m : Nat} (h : WR V A R z m) (ps : List Int) : YC z.T z.room ps = YC V.T V.room ps ∧ Z7 z.T z.room ps = Z7 V.T V.room ps := by
 unfold Z7
 rw [h.tt, h.room]; exact ⟨rfl, rfl⟩
theorem WR.com {V V2 : VM} {A A2 : AM} {R : List Int} {z z2 : RSt} {m : Nat} {root : Int} {ps : List Int} {x : LsE} (h : WR V A R z m) (hc : Zqf V A R root ps V2 A2) (hr : ComR z x ps z2) (hl : V.last < 800) (ht : YC V.T V.room ps = 0 → TrL A root x.es) (hx : x.es.length ≤ m) : WR V2 A2 R z2 m ∧ V2.last ≤ V.last + 1 ∧ V2.cap = V.cap ∧ A2.s = A.s := by
 have hs := (h.same ps).1
 rcases hc with ⟨h0, rfl, h1, h2⟩ | ⟨h0, rfl, rfl⟩
 ·rcases hr with ⟨_, ra, ga, oa, va, pa, ba, la, e, rc, gc, oc, vc, pc, bc, lc, f, rfl⟩ | ⟨h3, _⟩
  ·have hv : z.T.val = V.T.val := by rw [h.tt]
   refine ⟨?_, ?_, ?_, (A.ret_same root).1⟩
   ·rw [hv]; exact h.add h2 h1 hl (ht h0) hx ra ga oa va pa ba la e rc gc oc vc pc bc lc f
   ·obtain ⟨⟨xs2, q, rfl, _⟩, _⟩ := h2; exact Int.le_refl _
   ·obtain ⟨⟨xs2, q, rfl, _⟩, _⟩ := h2; rfl
  ·exact absurd (hs.trans h0) h3
 ·rcases hr with ⟨h3, _⟩ | ⟨_, rfl⟩
  ·exact absurd (hs.symm.trans h3) h0
  ·exact ⟨h, by omega, rfl, rfl⟩
theorem WR.rls {V V2 : VM} {A A2 : AM} {R : List Int} {z z2 : RSt} {m : Nat} {hd : Int} (h : WR V A R z m) (hc : RelV V A R hd V2 A2) (hr : RelR z hd z2) : WR V2 A2 R z2 m ∧ V2.last = V.last ∧ V2.cap = V.cap ∧ A2.s.used.length = A.s.used.length := by
 have hs : z.T.s.opn hd = V.T.s.opn hd := by rw [h.tt]
 rcases hc with ⟨h0, h1, h2, h3, h4⟩ | ⟨h0, rfl, rfl⟩
 ·rcases hr with ⟨_, ra, oa, ba, rc, oc, bc, rfl⟩ | ⟨h5, _⟩
  ·exact ⟨h.rel h0 h2 h1 h4 ra oa ba rc oc bc, (by have h9 := congrArg VM.last h2.eq; exact h9), (by have h9 := congrArg VM.cap h2.eq; exact h9), h3⟩
  ·rw [hs, h0] at h5; cases h5
 ·rcases hr with ⟨h5, _⟩ | ⟨_, rfl⟩
  ·rw [hs, h0] at h5; cases h5
  ·exact ⟨h, rfl, rfl, rfl⟩
end Go.Proofs.YtbeacjcmdijdmaaGreat
namespace Go.Proofs.YtbeacjcmdijdmaaGreat
open Go Go.V
theorem Zgf {g w : World} {L : List HP} (k n : Int) (hk : -9223372036854775808 ≤ k ∧ k ≤ 9223372036854775807) (hn : 0 < n ∧ n ≤ 9223372036854775807) (Z : St g (L) w) :
  Sp Tryz.prog 24 [.int .i64 k, .int .i64 n] w (fun v w' => v = .int .i64 (k % n) ∧ St g (L) w') := by
 refine Sp.enter Tryz.func24 rfl (by kernel_rfl) (by kernel_rfl) ?_
 have _ := hk
 refine WC.seq <| WC.region <| WL.r 1 rfl <| WL.nil <| WC.seq <| WC.region ?_
 obtain ⟨m, rfl⟩ : ∃ m : Nat, n = Int.ofNat (m + 1) := ⟨n.toNat - 1, by simp; omega⟩; have htm := tm_lt (k := k) (n := Int.ofNat (m + 1)) hn.1
 refine WL.r 3 rfl <| WL.r 1 rfl <| WL.nil <| WC.seq <| WC.seq <| WC.region <| WL.r 2 rfl <| WL.nil <| WC.ifP rfl (fun cd1 => ?_) (fun cd1 => ?_)
 ·refine WC.region <| WL.r 3 rfl <| WL.nw 13 rfl (Zr (by omega)) ?_
  refine WL.r 1 rfl <| WL.nil <| WC.seq <| WC.region <| WL.r 2 rfl <| WL.nil ?_
  as_aux_lemma =>
  refine WC.ret ?_
  refine ⟨[.int .i64 ((Int.tmod k (Int.ofNat (m + 1))) + (Int.ofNat (m + 1)))], rfl, ?_⟩
  rw [Zp1 hn.1 cd1]; exact ⟨rfl, Z⟩
 ·refine WC.skip <| WC.seq <| WC.region <| WL.r 2 rfl <| WL.nil <| WC.ret ?_
  refine ⟨[.int .i64 (Int.tmod k (Int.ofNat (m + 1)))], rfl, ?_⟩
  rw [Zor hn.1 cd1]; exact ⟨rfl, Z⟩
end Go.Proofs.YtbeacjcmdijdmaaGreat
namespace Go.Proofs.YtbeacjcmdijdmaaGreat
open Go Go.V
def J6 (k z : Int) (l : Z2) (put : Bool) : Z2 := l.filter (fun x => decide (x.1 < k)) ++ (if put then (k, z) :: l.filter (fun x => decide (k < x.1)) else [])
structure LP (k z : Int) (l : Z2) (j : Nat) (put : Bool) (out : Z2) : Prop where
 eq : out = J6 k z (l.take j) put
 no : put = false → ∀ x ∈ l.take j, x.1 < k
 yes : put = true → ∃ x ∈ l.take j, k ≤ x.1
theorem LP.zero (k z : Int) (l : Z2) : LP k z l 0 false [] := ⟨by simp [J6], fun _ x hx => by simp at hx, fun h => by cases h⟩
theorem Yu {l : Z2} {j : Nat} {e : Int × Int} (h : l[j]? = some e) : l.take (j + 1) = l.take j ++ [e] := by rw [List.take_add_one, h]; rfl
theorem LP.less {k z : Int} {l : Z2} {j : Nat} {out : Z2} {e : Int × Int} (h : LP k z l j false out) (he : l[j]? = some e) (hlt : e.1 < k) : LP k z l (j + 1) false (out ++ [e]) := by
 refine ⟨?_, fun _ x hx => ?_, fun h => by cases h⟩
 ·rw [h.eq, Yu he]
  simp [J6, List.filter_append, hlt]
 ·rw [Yu he] at hx
  rcases List.mem_append.1 hx with hx | hx
  ·exact h.no rfl x hx
  ·rw [List.mem_singleton.1 hx]; exact hlt
theorem LP.eq_ {k z : Int} {l : Z2} {j : Nat} {out : Z2} {e : Int × Int} (h : LP k z l j false out) (he : l[j]? = some e) (hk : e.1 = k) : LP k z l (j + 1) true (out ++ [(k, z)]) := by
 refine ⟨?_, fun h => (by cases h), fun _ => ⟨e, by rw [Yu he]; simp, by omega⟩⟩
 rw [h.eq, Yu he]
 have h1 : (l.take j).filter (fun x => decide (k < x.1)) = [] := Yt fun x hx => decide_eq_false (by have := h.no rfl x hx; omega)
 simp [J6, List.filter_append, hk, h1]
theorem LP.more {k z : Int} {l : Z2} {j : Nat} {out : Z2} {e : Int × Int} (h : LP k z l j false out) (he : l[j]? = some e) (hk : k < e.1) : LP k z l (j + 1) true (out ++ [(k, z)] ++ [e]) := by
 refine ⟨?_, fun h => (by cases h), fun _ => ⟨e, by rw [Yu he]; simp, by omega⟩⟩
 rw [h.eq, Yu he]
 have h1 : (l.take j).filter (fun x => decide (k < x.1)) = [] := Yt fun x hx => decide_eq_false (by have := h.no rfl x hx; omega)
 simp [J6, List.filter_append, hk, h1, show ¬ e.1 < k by omega]
theorem LP.gt {k z : Int} {l : Z2} {j : Nat} {out : Z2} {e : Int × Int} (h : LP k z l j true out) (hs : Srt l) (he : l[j]? = some e) : k < e.1 := by
 obtain ⟨x, hx, hxk⟩ := h.yes rfl
 obtain ⟨i, hi⟩ := List.mem_iff_getElem?.1 hx
 have hij : i < j := by
  have := (List.getElem?_eq_some_iff.1 hi).1
  rw [List.length_take] at this; omega
 rw [List.getElem?_take, if_pos hij] at hi
 have h1 := (List.getElem?_eq_some_iff.1 hi).1
 have h2 := (List.getElem?_eq_some_iff.1 he).1
 have := List.pairwise_iff_getElem.1 hs i j h1 h2 hij
 rw [(List.getElem?_eq_some_iff.1 hi).2, (List.getElem?_eq_some_iff.1 he).2] at this
 omega
theorem LP.rest {k z : Int} {l : Z2} {j : Nat} {out : Z2} {e : Int × Int} (h : LP k z l j true out) (hs : Srt l) (he : l[j]? = some e) : LP k z l (j + 1) true (out ++ [e]) := by
 have hgt := h.gt hs he
 refine ⟨?_, fun h => (by cases h), fun _ => ?_⟩
 ·rw [h.eq, Yu he]
  simp [J6, List.filter_append, hgt, show ¬ e.1 < k by omega]
 ·obtain ⟨x, hx, hxk⟩ := h.yes rfl
  exact ⟨x, by rw [Yu he]; exact List.mem_append_left _ hx, hxk⟩
theorem LP.end_t {k z : Int} {l out : Z2} {j : Nat} (h : LP k z l j true out) (hj : l.length ≤ j) : out = YX k z l := by
 rw [h.eq, List.take_of_length_le hj]; rfl
theorem LP.end_f {k z : Int} {l out : Z2} {j : Nat} (h : LP k z l j false out) (hj : l.length ≤ j) : out ++ [(k, z)] = YX k z l := by
 have h1 := h.no rfl
 rw [h.eq]
 rw [List.take_of_length_le hj] at h1 ⊢
 have h2 : l.filter (fun x => decide (k < x.1)) = [] := Yt fun x hx => decide_eq_false (by have := h1 x hx; omega)
 simp [J6, YX, h2]
theorem LP.len {k z : Int} {l out : Z2} {j : Nat} {put : Bool} (h : LP k z l j put out) : out.length ≤ 2 * l.length + 1 := by
 rw [h.eq]
 unfold J6
 have h1 := List.length_filter_le (fun x : Int × Int => decide (x.1 < k)) (l.take j)
 have h2 := List.length_filter_le (fun x : Int × Int => decide (k < x.1)) (l.take j)
 have h3 : (l.take j).length ≤ l.length := by simp; omega
 rw [List.length_append]
 split <;> simp only [List.length_cons, List.length_nil] <;> omega
set_option maxHeartbeats 1000000 in
theorem Zgs {g w : World} {L : List HP} (l : Z2) (u : Option Addr) (d : Nat) (k z : Int) (hs : Srt l) (hl : l.length ≤ 1000000) (Z : St g (Sh 121 2 (Zq l) u d :: L) w) :
  Sp Tryz.prog 48 [.slice u (Zq l).length d, .agg #[.int .i64 k, .int .i64 z]] w (fun v w' => ∃ (a2 : Option Addr) (c2 : Nat), v = .slice a2 (Zq (YX k z l)).length c2 ∧ St g (Zf 121 2 (Zq (YX k z l)) a2 c2 :: Sh 121 2 (Zq l) u d :: L) w') := by
 refine Sp.enter Tryz.func48 rfl (by kernel_rfl) (by kernel_rfl) ?_
 have _ := hl
 refine WC.seq <| WC.region ?_
 have hll := Ym l
 refine WL.box rfl rfl #[.int .i64 k, .int .i64 z] Z rfl rfl (fun b1 w Z => ?_)
 refine WL.r 1 rfl <| WL.nil <| WC.seq <| WC.region <| WL.r 1 rfl <| WL.nil <| WC.seq <| WC.region <| WL.r 1 rfl <| WL.nil <| WC.seq <| WC.seq ?_
 refine WC.region <| WL.r 1 rfl <| WL.nil <| WC.block ?_
 replace Z := Z.nil_ 121 2
 refine WC.loop [0, 3, 4, 5, 6, 7] (fun kM vs w => ∃ (j : Nat) (put : Bool) (out : Z2) (ua : Option Addr) (uc : Nat), vs = [.slice u (Zq l).length d, .pointer (some ⟨b1, 0, none⟩), .slice none 0 0, .slice ua (Zq out).length uc, .bool put, .int .i64 (j : Int)] ∧ St g (Zf 121 2 (Zq out) ua uc :: Ze b1 #[.int .i64 k, .int .i64 z] 121 :: Sh 121 2 (Zq l) u d :: L) w ∧ (j ≤ l.length) ∧ (LP k z l j put out) ∧ (l.length - j) = kM) ((List.length l) - 0) ⟨0, false, [], none, 0, rfl, Z, (Nat.zero_le _), (LP.zero k z l), rfl⟩ ?_
 clear Z; rintro _ _ w j ⟨j, put, out, ua, uc, rfl, Z, hj, hP, rfl⟩
 refine WC.seq <| WC.seq <| WC.region <| WL.r 4 rfl <| WL.nil ?_
 as_aux_lemma =>
 refine WC.ifP rfl (fun cd1 => ?_) (fun cd1 => ?_)
 ·refine WC.skip <| WC.seq <| WC.block <| WC.seq <| WC.seq <| WC.plan [([0, 1, 2, 3, 4, 8, 5, 9, 6, 7, 10, 11], none)] (by kernel_rfl) (by kernel_rfl) ?_
  obtain ⟨e, he⟩ : ∃ e, l[j]? = some e := ⟨_, List.getElem?_eq_getElem (by omega)⟩; have hol := hP.len; have hoe := Ym out
  refine WQ.r 2 rfl <| WQ.r 1 rfl ?_
  by_cases cg1 : (! put) = true
  ·refine WQ.reb 16 (.bool true) (congrArg Value.bool cg1) <| WQ.ung rfl rfl rfl <| WQ.r 1 rfl <| WQ.ung rfl rfl rfl <| WQ.r 1 rfl <| WQ.ung rfl rfl rfl <| WQ.r 1 rfl <| WQ.ung rfl rfl rfl <| WQ.ix rfl rfl (i := (j : Int)) (j) el_49 rfl rfl (by omega) (by omega) (Z.rdS 2 rfl (ZC he)).1 ?_
   refine WQ.ung rfl rfl rfl <| WQ.run 1 [.int .i64 k] rfl (by exact Z.ld 1 rfl rfl) ?_
   refine WQ.ung rfl rfl rfl <| WQ.r 1 rfl <| WQ.ung rfl rfl rfl <| WQ.run 1 [.int .i64 e.1] rfl (by exact (Z.rdS 2 rfl (ZC he)).2 0 _ rfl) ?_
   refine WQ.ung rfl rfl rfl <| WQ.r 2 rfl <| WQ.nil ?_
   intro m1
   replace Z := Z.drewN m1; generalize hwm1 : World.drewN _ _ = w at *; clear hwm1
   as_aux_lemma =>
   refine WC.ifP rfl (fun cd2 => ?_) (fun cd2 => ?_)
   ·refine WC.seq <| WC.region <| WL.r 1 rfl <| WL.ldF rfl rfl 1 Z rfl rfl Zp <| WL.lit rfl rfl (Zq [(k, z)]) el_49 Z (by exact ⟨rfl, rfl⟩) (Jp _) rfl (Nat.le_of_ble_eq_true rfl) (fun b2 w Z => ?_)
    refine WL.app rfl rfl 1 (Zq (out ++ [(k, z)])) el_49 Z rfl (Z.srcO 0 rfl) (YY _ _).symm (Rm.of (by first | omega | (simp <;> omega)) (by decide)) rfl rfl (fun a1 c1 w Z => ?_)
    replace Z := Z.n4 L (a0 := Zf 121 2 (Zq [(k, z)]) (some ⟨b2, 0, none⟩) (Zq [(k, z)]).length) (a1 := Zf 121 2 (Zq (out ++ [(k, z)])) a1 c1) rfl
    refine WL.r 1 rfl <| WL.nil <| WC.region <| WL.r 1 rfl <| WL.nil <| WC.seq <| WC.plan [([0, 1, 5, 6], some (2, [5, 6])), ([3, 4, 7], none)] (by kernel_rfl) (by kernel_rfl) ?_
    refine WQ.run 4 [.int .i64 k] rfl (by exact Z.ld 2 rfl rfl) ?_
    refine WQ.nil ?_
    intro m2
    replace Z := Z.drewN m2; generalize hwm2 : World.drewN _ _ = w at *; clear hwm2
    refine WL.ix rfl rfl (i := (j : Int)) (j) el_49 rfl rfl (by omega) (by omega) (Z.rdS 3 rfl (ZC he)).1 ?_
    refine WL.nil ?_
    refine ⟨by exact ⟨RQ.pure rfl rfl rfl rfl, RQ.load rfl rfl rfl rfl (Z.ld 2 rfl rfl)⟩, ?_⟩
    refine WQ.run 3 [.int .i64 e.1] rfl (by exact (Z.rdS 3 rfl (ZC he)).2 0 _ rfl) ?_
    refine WQ.nil ?_
    intro m3
    replace Z := Z.drewN m3; generalize hwm3 : World.drewN _ _ = w at *; clear hwm3
    as_aux_lemma =>
    refine WC.ifP rfl (fun cd3 => ?_) (fun cd3 => ?_)
    ·refine WC.region <| WL.r 3 rfl <| WL.ix rfl rfl (i := (j : Int)) (j) el_49 rfl rfl (by omega) (by omega) (Z.rdS 3 rfl (ZC he)).1 ?_
     refine WL.ldC rfl rfl [.int .i64 e.1, .int .i64 e.2] Zp rfl (Z.rdS 3 rfl (ZC he)).2 <| WL.lit rfl rfl (Zq [(e.1, e.2)]) el_49 Z (by exact ⟨rfl, rfl⟩) (Jp _) rfl (Nat.le_of_ble_eq_true rfl) (fun b3 w Z => ?_)
     refine WL.app rfl rfl 2 (Zq ((out ++ [(k, z)]) ++ [(e.1, e.2)])) el_49 Z rfl (Z.srcO 0 rfl) (YY _ _).symm (Rm.of (by first | omega | (simp <;> omega)) (by decide)) rfl rfl (fun a2 c2 w Z => ?_)
     replace Z := Z.n5 L (a0 := Zf 121 2 (Zq [(e.1, e.2)]) (some ⟨b3, 0, none⟩) (Zq [(e.1, e.2)]).length) (a2 := Zf 121 2 (Zq ((out ++ [(k, z)]) ++ [(e.1, e.2)])) a2 c2) rfl
     refine WL.r 1 rfl <| WL.nil <| WC.region <| WL.r 2 rfl <| WL.nw 13 rfl (Zr (by omega)) ?_
     refine WL.r 1 rfl <| WL.nil ?_
     exact ⟨_, by omega, j + 1, true, out ++ [(k, z)] ++ [(e.1, e.2)], a2, c2, rfl, (Z.sel 2 [] rfl), (by omega), (by have hp : put = false := (by simpa using cg1); subst hp; exact hP.more he (by omega)), rfl⟩
    ·refine WC.skip <| WC.region <| WL.r 2 rfl <| WL.nw 13 rfl (Zr (by omega)) ?_
     refine WL.r 1 rfl <| WL.nil ?_
     exact ⟨_, by omega, j + 1, true, out ++ [(k, z)], a1, c1, rfl, (Z.sel 1 [] rfl), (by omega), (by have hp : put = false := (by simpa using cg1); subst hp; exact hP.eq_ he (by omega)), rfl⟩
   ·refine WC.skip <| WC.seq <| WC.plan [([0, 1, 5, 6], some (2, [5, 6])), ([3, 4, 7], none)] (by kernel_rfl) (by kernel_rfl) ?_
    refine WQ.run 4 [.int .i64 k] rfl (by exact Z.ld 1 rfl rfl) ?_
    refine WQ.nil ?_
    intro m2
    replace Z := Z.drewN m2; generalize hwm2 : World.drewN _ _ = w at *; clear hwm2
    refine WL.ix rfl rfl (i := (j : Int)) (j) el_49 rfl rfl (by omega) (by omega) (Z.rdS 2 rfl (ZC he)).1 ?_
    refine WL.nil ?_
    refine ⟨by exact ⟨RQ.pure rfl rfl rfl rfl, RQ.load rfl rfl rfl rfl (Z.ld 1 rfl rfl)⟩, ?_⟩
    refine WQ.run 3 [.int .i64 e.1] rfl (by exact (Z.rdS 2 rfl (ZC he)).2 0 _ rfl) ?_
    refine WQ.nil ?_
    intro m3
    replace Z := Z.drewN m3; generalize hwm3 : World.drewN _ _ = w at *; clear hwm3
    refine WC.ifP rfl (fun cd3 => ?_) (fun cd3 => ?_)
    ·refine WC.region <| WL.r 3 rfl <| WL.ix rfl rfl (i := (j : Int)) (j) el_49 rfl rfl (by omega) (by omega) (Z.rdS 2 rfl (ZC he)).1 ?_
     refine WL.ldC rfl rfl [.int .i64 e.1, .int .i64 e.2] Zp rfl (Z.rdS 2 rfl (ZC he)).2 <| WL.lit rfl rfl (Zq [(e.1, e.2)]) el_49 Z (by exact ⟨rfl, rfl⟩) (Jp _) rfl (Nat.le_of_ble_eq_true rfl) (fun b2 w Z => ?_)
     refine WL.app rfl rfl 1 (Zq (out ++ [(e.1, e.2)])) el_49 Z rfl (Z.srcO 0 rfl) (YY _ _).symm (Rm.of (by first | omega | (simp <;> omega)) (by decide)) rfl rfl (fun a1 c1 w Z => ?_)
     replace Z := Z.n4 L (a0 := Zf 121 2 (Zq [(e.1, e.2)]) (some ⟨b2, 0, none⟩) (Zq [(e.1, e.2)]).length) (a1 := Zf 121 2 (Zq (out ++ [(e.1, e.2)])) a1 c1) rfl
     refine WL.r 1 rfl <| WL.nil ?_
     as_aux_lemma =>
     refine WC.region <| WL.r 2 rfl <| WL.nw 13 rfl (Zr (by omega)) ?_
     refine WL.r 1 rfl <| WL.nil ?_
     exact ⟨_, by omega, j + 1, put, out ++ [(e.1, e.2)], a1, c1, rfl, (Z.sel 1 [] rfl), (by omega), (by have hp : put = false := (by simpa using cg1); subst hp; exact hP.less he (by omega)), rfl⟩
    ·refine WC.skip <| WC.region <| WL.r 2 rfl <| WL.nw 13 rfl (Zr (by omega)) ?_
     refine WL.r 1 rfl <| WL.nil ?_
     exact ⟨_, by omega, j + 1, put, out, ua, uc, rfl, Z, (by omega), (by exfalso; omega), rfl⟩
  ·refine WQ.reb 16 (.bool false) (congrArg Value.bool (Bool.eq_false_iff.2 cg1)) <| WQ.skp rfl rfl rfl rfl <| WQ.skp rfl rfl rfl rfl <| WQ.skp rfl rfl rfl rfl <| WQ.skp rfl rfl rfl rfl <| WQ.skp rfl rfl rfl rfl <| WQ.skp rfl rfl rfl rfl <| WQ.skp rfl rfl rfl rfl <| WQ.skp rfl rfl rfl rfl <| WQ.r 1 rfl <| WQ.nil ?_
   intro m1
   replace Z := Z.drewN m1; generalize hwm1 : World.drewN _ _ = w at *; clear hwm1
   refine WC.ifF rfl rfl <| WC.skip ?_
   as_aux_lemma =>
   refine WC.seq <| WC.plan [([0, 1, 5, 6], some (2, [5, 6])), ([3, 4, 7], none)] (by kernel_rfl) (by kernel_rfl) ?_
   refine WQ.run 4 [.int .i64 k] rfl (by exact Z.ld 1 rfl rfl) ?_
   refine WQ.nil ?_
   intro m2
   replace Z := Z.drewN m2; generalize hwm2 : World.drewN _ _ = w at *; clear hwm2
   refine WL.ix rfl rfl (i := (j : Int)) (j) el_49 rfl rfl (by omega) (by omega) (Z.rdS 2 rfl (ZC he)).1 ?_
   refine WL.nil ?_
   refine ⟨by exact ⟨RQ.pure rfl rfl rfl rfl, RQ.load rfl rfl rfl rfl (Z.ld 1 rfl rfl)⟩, ?_⟩
   refine WQ.run 3 [.int .i64 e.1] rfl (by exact (Z.rdS 2 rfl (ZC he)).2 0 _ rfl) ?_
   refine WQ.nil ?_
   intro m3
   replace Z := Z.drewN m3; generalize hwm3 : World.drewN _ _ = w at *; clear hwm3
   refine WC.ifP rfl (fun cd2 => ?_) (fun cd2 => ?_)
   ·refine WC.region <| WL.r 3 rfl <| WL.ix rfl rfl (i := (j : Int)) (j) el_49 rfl rfl (by omega) (by omega) (Z.rdS 2 rfl (ZC he)).1 ?_
    refine WL.ldC rfl rfl [.int .i64 e.1, .int .i64 e.2] Zp rfl (Z.rdS 2 rfl (ZC he)).2 <| WL.lit rfl rfl (Zq [(e.1, e.2)]) el_49 Z (by exact ⟨rfl, rfl⟩) (Jp _) rfl (Nat.le_of_ble_eq_true rfl) (fun b2 w Z => ?_)
    refine WL.app rfl rfl 1 (Zq (out ++ [(e.1, e.2)])) el_49 Z rfl (Z.srcO 0 rfl) (YY _ _).symm (Rm.of (by first | omega | (simp <;> omega)) (by decide)) rfl rfl (fun a1 c1 w Z => ?_)
    replace Z := Z.n4 L (a0 := Zf 121 2 (Zq [(e.1, e.2)]) (some ⟨b2, 0, none⟩) (Zq [(e.1, e.2)]).length) (a1 := Zf 121 2 (Zq (out ++ [(e.1, e.2)])) a1 c1) rfl
    refine WL.r 1 rfl <| WL.nil <| WC.region <| WL.r 2 rfl <| WL.nw 13 rfl (Zr (by omega)) ?_
    refine WL.r 1 rfl <| WL.nil ?_
    exact ⟨_, by omega, j + 1, put, out ++ [(e.1, e.2)], a1, c1, rfl, (Z.sel 1 [] rfl), (by omega), (by have hp : put = true := (by simpa using cg1); subst hp; exact hP.rest hs he), rfl⟩
   ·refine WC.skip <| WC.region <| WL.r 2 rfl <| WL.nw 13 rfl (Zr (by omega)) ?_
    refine WL.r 1 rfl <| WL.nil ?_
    exact ⟨_, by omega, j + 1, put, out, ua, uc, rfl, Z, (by omega), (by have hp : put = true := (by simpa using cg1); subst hp; have := hP.gt hs he; exfalso; omega), rfl⟩
 ·refine WC.exit <| WC.seq <| WC.seq <| WC.region ?_
  have hol2 := hP.len; have hoe2 := Ym out
  refine WL.r 2 rfl <| WL.nil <| WC.if_ rfl (fun cd2 => ?_) (fun cd2 => ?_)
  ·refine WC.region <| WL.r 1 rfl <| WL.ldF rfl rfl 1 Z rfl rfl Zp <| WL.lit rfl rfl (Zq [(k, z)]) el_49 Z (by exact ⟨rfl, rfl⟩) (Jp _) rfl (Nat.le_of_ble_eq_true rfl) (fun b2 w Z => ?_)
   refine WL.app rfl rfl 1 (Zq (out ++ [(k, z)])) el_49 Z rfl (Z.srcO 0 rfl) (YY _ _).symm (Rm.of (by first | omega | (simp <;> omega)) (by decide)) rfl rfl (fun a1 c1 w Z => ?_)
   replace Z := Z.n4 L (a0 := Zf 121 2 (Zq [(k, z)]) (some ⟨b2, 0, none⟩) (Zq [(k, z)]).length) (a1 := Zf 121 2 (Zq (out ++ [(k, z)])) a1 c1) rfl
   refine WL.r 1 rfl <| WL.nil <| WC.seq <| WC.region <| WL.r 2 rfl <| WL.nil <| WC.ret ?_
   refine ⟨[.slice a1 (List.length (Zq (out ++ [(k, z)]))) c1], rfl, ?_⟩
   replace Z := (Z.sel 3 [1] rfl)
   have hp : put = false := (by simpa using cd2); subst hp; have e9 := hP.end_f (by omega); rw [e9] at Z ⊢; exact ⟨_, _, rfl, Z⟩
  ·refine WC.skip <| WC.seq <| WC.region <| WL.r 2 rfl <| WL.nil <| WC.ret ?_
   refine ⟨[.slice ua (Zq out).length uc], rfl, ?_⟩
   replace Z := (Z.sel 2 [0] rfl)
   have hp : put = true := (by simpa using cd2); subst hp; have e9 := hP.end_t (by omega); rw [e9] at Z ⊢; exact ⟨_, _, rfl, Z⟩
end Go.Proofs.YtbeacjcmdijdmaaGreat
namespace Go.Proofs.YtbeacjcmdijdmaaGreat
open Go Go.V
theorem Zo2 {g w : World} {L : List HP} (x y : Int) (hx : 0 ≤ x ∧ x ≤ 2000000000) (hy : 0 ≤ y ∧ y ≤ 2000000000) (Z : St g (L) w) :
  Sp Tryz.prog 200 [.int .i64 x, .int .i64 y] w (fun v w' => v = .bool (decide (x + 1 ≤ 3 * (y + 1) ∧ y + 1 ≤ 3 * (x + 1))) ∧ St g (L) w') := by
 refine Sp.enter Tryz.func200 rfl (by kernel_rfl) (by kernel_rfl) ?_
 have _ := hy
 have _ := hx
 refine WC.seq <| WC.region <| WL.r 1 rfl <| WL.nil <| WC.seq <| WC.seq <| WC.region <| WL.r 2 rfl <| WL.rG 12 rfl (fun j => ?_)
 refine WL.prop 18 rfl (bor (bor (bor (dd _) (dd _)) (dd _)) (dd _)) <| WL.nil <| WC.ifF rfl (decide_eq_false ((by omega))) ?_
 refine WC.skip <| WC.seq <| WC.region <| WL.r 2 rfl <| WL.nw 20 rfl (Zr (by omega)) ?_
 refine WL.r 2 rfl <| WL.nw 22 rfl (Zr (by omega)) ?_
 refine WL.r 1 rfl <| WL.nw 23 rfl (Zr (by omega)) ?_
 refine WL.r 1 rfl <| WL.rG 9 rfl (fun j => ?_)
 refine WL.prop 32 rfl (Qd (dd _) (dd _)) <| WL.nil ?_
 as_aux_lemma =>
 refine WC.ret ?_
 refine ⟨[.bool (bif (decide ((x + 1) ≤ (3 * (y + 1)))) then (decide ((IntKind.i64.wrap (y + 1)) ≤ (IntKind.i64.wrap (3 * (IntKind.i64.wrap (x + 1)))))) else false)], rfl, ?_⟩
 exact ⟨congrArg Value.bool (by rw [Zr (z := y + 1) (by omega), Zr (z := x + 1) (by omega), Zr (z := 3 * (x + 1)) (by omega), Zby]), Z⟩
end Go.Proofs.YtbeacjcmdijdmaaGreat
namespace Go.Proofs.YtbeacjcmdijdmaaGreat
open Go Go.V
def mkL (raw : Z2) (k : Nat) : Z2 := (raw.take k).foldl (fun l e => YX e.1 e.2 l) []
theorem Zc7 {raw : Z2} {k : Nat} {e : Int × Int} (h : raw[k]? = some e) : mkL raw (k + 1) = YX e.1 e.2 (mkL raw k) := by
 unfold mkL
 rw [List.take_add_one, h, List.foldl_append]; rfl
theorem Zbr (raw : Z2) : ∀ k, Srt (mkL raw k) ∧ (mkL raw k).length ≤ k
 | 0 => ⟨List.Pairwise.nil, Nat.le_refl _⟩
 | k + 1 => by
  obtain ⟨h1, h2⟩ := Zbr raw k
  cases h : raw[k]? with
  | none =>
   have : mkL raw (k + 1) = mkL raw k := by unfold mkL; rw [List.take_add_one, h]; simp
   rw [this]; exact ⟨h1, by omega⟩
  | some e =>
   rw [Zc7 h, Qy h1]
   exact ⟨QS h1, by split <;> omega⟩
theorem Zne {raw : Z2} {k m : Nat} (h : ¬ (k < raw.length ∧ k < m)) (hk : k ≤ raw.length ∧ k ≤ m) : mkL raw k = mkL raw m := by
 unfold mkL
 by_cases h1 : k = m
 ·rw [h1]
 ·rw [List.take_of_length_le (show raw.length ≤ k by omega), List.take_of_length_le (show raw.length ≤ m by omega)]
theorem Zm8 {g w : World} {L : List HP} (raw : Z2) (u : Option Addr) (d : Nat) (most : Int) (hm : 0 ≤ most ∧ most ≤ 1000) (Z : St g (Sh 121 2 (Zq raw) u d :: L) w) :
  Sp Tryz.prog 26 [.slice u (Zq raw).length d, .int .i64 most] w (fun v w' => ∃ (a2 : Option Addr) (c2 : Nat), v = .slice a2 (Zq (mkL raw most.toNat)).length c2 ∧ St g (Zf 121 2 (Zq (mkL raw most.toNat)) a2 c2 :: Sh 121 2 (Zq raw) u d :: L) w') := by
 refine Sp.enter Tryz.func26 rfl (by kernel_rfl) (by kernel_rfl) ?_
 refine WC.seq <| WC.region <| WL.r 1 rfl <| WL.nil <| WC.seq <| WC.region ?_
 have hll := Ym raw
 refine WL.r 1 rfl <| WL.nil <| WC.seq <| WC.seq <| WC.region <| WL.r 1 rfl <| WL.nil <| WC.block ?_
 replace Z := Z.nil_ 121 2
 refine WC.loop [0, 1, 4, 5, 6] (fun kM vs w => ∃ (k : Nat) (m : Z2) (ua : Option Addr) (uc : Nat), vs = [.slice u (Zq raw).length d, .int .i64 most, .slice none 0 0, .slice ua (Zq m).length uc, .int .i64 (k : Int)] ∧ St g (Zf 121 2 (Zq m) ua uc :: Sh 121 2 (Zq raw) u d :: L) w ∧ (k ≤ raw.length ∧ k ≤ most) ∧ (m = mkL raw k) ∧ (raw.length - k) = kM) ((List.length raw) - 0) ⟨0, [], none, 0, rfl, Z, (by omega), (rfl), rfl⟩ ?_
 clear Z; rintro _ _ w j ⟨k, m, ua, uc, rfl, Z, hk, hm, rfl⟩
 refine WC.seq <| WC.seq <| WC.region <| WL.r 4 rfl <| WL.rG 5 rfl (fun j => ?_)
 refine WL.prop 15 rfl (Qd (dd _) (dd _)) <| WL.nil ?_
 as_aux_lemma =>
 refine WC.ifP rfl (fun cd1 => ?_) (fun cd1 => ?_)
 ·refine WC.skip <| WC.seq <| WC.block <| WC.region <| WL.r 3 rfl ?_
  obtain ⟨e, he⟩ : ∃ e, raw[k]? = some e := ⟨_, List.getElem?_eq_getElem (by omega)⟩; have hms := Zbr raw k; rw [← hm] at hms
  refine WL.ix rfl rfl (i := (k : Int)) (k) el_49 rfl rfl (by omega) (by omega) (Z.rdS 1 rfl (ZC he)).1 ?_
  refine WL.ldC rfl rfl [.int .i64 e.1, .int .i64 e.2] Zp rfl (Z.rdS 1 rfl (ZC he)).2 ?_
  replace Z := (Z.at_ 0 rfl).share
  replace Z := Z.n2 L (a0 := Sh 121 2 (Zq m) ua uc) rfl
  refine WL.call rfl rfl (Zgs (k := e.1) (z := e.2) (hs := hms.1) (hl := (by omega)) (Z := Z)) rfl ?_
  clear Z; rintro _ w ⟨a1, c1, rfl, Z⟩
  replace Z := Z.n3 L (a0 := Zf 121 2 (Zq (YX e.1 e.2 m)) a1 c1) rfl
  refine WL.r 1 rfl <| WL.nil <| WC.region <| WL.r 2 rfl <| WL.nw 17 rfl (Zr (by omega)) ?_
  refine WL.r 1 rfl <| WL.nil ?_
  exact ⟨_, by omega, k + 1, YX e.1 e.2 m, a1, c1, rfl, (Z.sel 2 [0] rfl), (by omega), (by rw [hm, Zc7 he]), rfl⟩
 ·refine WC.exit <| WC.seq <| WC.region <| WL.r 2 rfl <| WL.nil <| WC.ret ?_
  refine ⟨[.slice ua (Zq m).length uc], rfl, ?_⟩
  have e9 := Zne (raw := raw) (k := k) (m := most.toNat) (by omega) ⟨hk.1, by omega⟩; rw [← hm] at e9; rw [e9] at Z ⊢; exact ⟨_, _, rfl, Z⟩
end Go.Proofs.YtbeacjcmdijdmaaGreat
namespace Go.Proofs.YtbeacjcmdijdmaaGreat
open Go Go.V Go.RowKit
theorem Zls (x : Int) {n m1 m2 : Nat} (h1 : n = m1 + 1) (h2 : m2 + 1 ≤ n) : ∃ j : Nat, (j : Int) = (n : Int) - 1 - x % Int.ofNat (m1 + 1) % Int.ofNat (m2 + 1) ∧ j < n ∧ 0 ≤ x % Int.ofNat (m1 + 1) % Int.ofNat (m2 + 1) ∧ x % Int.ofNat (m1 + 1) % Int.ofNat (m2 + 1) ≤ (m2 : Int) := by
 have h4 := Int.emod_nonneg (x % Int.ofNat (m1 + 1)) (b := Int.ofNat (m2 + 1)) (by first | (simp; done) | (simp; omega))
 have h5 := Int.emod_lt_of_pos (x % Int.ofNat (m1 + 1)) (b := Int.ofNat (m2 + 1)) (by first | (simp; done) | (simp; omega))
 generalize x % Int.ofNat (m1 + 1) % Int.ofNat (m2 + 1) = y at *
 have h6 : Int.ofNat (m2 + 1) = (m2 : Int) + 1 := rfl
 exact ⟨((n : Int) - 1 - y).toNat, by omega, by omega, h4, by omega⟩
structure StB (V : VM) (A : AM) (hs : List Int) (n : Nat) : Prop where
 la : V.last ≤ n
 hl : hs.length ≤ n
 hr : ∀ y ∈ hs, 0 ≤ y ∧ y ≤ 18446744073709551615
 ac : A.s.used.length = 2501
theorem StB.mono {V : VM} {A : AM} {hs : List Int} {n : Nat} (h : StB V A hs n) : StB V A hs (n + 1) := ⟨by have := h.la; omega, by have := h.hl; omega, h.hr, h.ac⟩
theorem Zkn {V : VM} {A : AM} {R : List Int} {z : RSt} {m : Nat} (h : WR V A R z m) (x : Int) : (if V.T.s.opn x = true then V.rootOf (V.T.val x) else 0) = 0 ∨ (1 ≤ (if V.T.s.opn x = true then V.rootOf (V.T.val x) else 0) ∧ A.s.ok (if V.T.s.opn x = true then V.rootOf (V.T.val x) else 0) = true) := by
 by_cases ho : V.T.s.opn x = true
 ·rw [if_pos ho]; exact Zf0 h.vi ho
 ·rw [if_neg ho]; exact .inl rfl
theorem Zme {x y : Int} (hx : 0 ≤ x ∧ x ≤ 18446744073709551615) (hy : 0 ≤ y ∧ y ≤ 18446744073709551615) : ∀ q ∈ [x, y], 0 ≤ q ∧ q ≤ 18446744073709551615 := fun q hq => by
 simp only [List.mem_cons, List.not_mem_nil, or_false] at hq
 rcases hq with rfl | rfl
 ·exact hx
 ·exact hy
theorem Zdd {V : VM} {A : AM} {R : List Int} (h : VI V A R) (ps : List Int) : 0 ≤ Z7 V.T V.room ps ∧ Z7 V.T V.room ps ≤ 18446744073709551615 := by
 unfold Z7
 split
 ·rename_i h0
  exact (TM.newH_mod h.t (JJ h (by have := (Zeh h0).2.2; omega)).2).2
 ·omega
theorem Zgc {hs : List Int} {k : Int} (h : ∀ y ∈ hs, 0 ≤ y ∧ y ≤ 18446744073709551615) (hk : 0 ≤ k ∧ k ≤ 18446744073709551615) : ∀ y ∈ hs ++ [k], 0 ≤ y ∧ y ≤ 18446744073709551615 := fun y hy => by
 rcases List.mem_append.1 hy with hy | hy
 ·exact h y hy
 ·rw [List.mem_singleton.1 hy]; exact hk
theorem StB.of {V V2 : VM} {A A2 : AM} {hs hs2 : List Int} {n : Nat} (h : StB V A hs n) (h1 : V2.last ≤ V.last + 1) (h2 : A2.s.used.length = A.s.used.length) (h3 : hs2.length ≤ hs.length + 1) (h4 : ∀ y ∈ hs2, 0 ≤ y ∧ y ≤ 18446744073709551615) : StB V2 A2 hs2 (n + 1) := ⟨by have := h.la; omega, by have := h.hl; omega, h4, h2.trans h.ac⟩
theorem Zod {V : VM} {A : AM} {R : List Int} (h : VI V A R) : (V.xs.length : Int) ≤ V.last := by
 have h1 := X3 V.last.toNat (V.xs.map VN.n) (List.pairwise_map.2 h.g.ok.uniq) fun n hn => by
  obtain ⟨x, hx, rfl⟩ := List.mem_map.1 hn
  have h2 := h.g.le x hx
  have h3 := h.g.ok.pos x.n (by rw [Xt h.g.ok.uniq hx]; rfl)
  omega
 have := h.g.la
 rw [List.length_map] at h1; omega
theorem WR.free {V : VM} {A : AM} {z : RSt} {hs : List Int} {n : Nat} (h : WR V A [] z 52) (hB : StB V A hs n) (hn : n ≤ 40) : 420 ≤ A.s.free := by
 have h1 := h.used
 have h2 := Zbx h.vi
 have h3 := Zod h.vi
 have h4 := hB.la
 have h5 : V.rs.length * 52 ≤ 40 * 52 := Nat.mul_le_mul_right _ (by omega)
 have h6 : A.s.cap = 2500 := by show (A.s.used.length : Int) - 1 = 2500; rw [hB.ac]; rfl
 omega
theorem WR.rl {V : VM} {A : AM} {R : List Int} {z : RSt} {m : Nat} (h : WR V A R z m) : V.rs.length ≤ 900 := by
 have h2 := Zbx h.vi
 have h3 := Zod h.vi
 have h4 := h.la
 omega
theorem WR.rtn {V : VM} {A : AM} {z : RSt} {m : Nat} (h : WR V A [] z m) {rt : Int} (hr : rt = 0 ∨ (1 ≤ rt ∧ A.s.ok rt = true)) : WR V (A.ret rt) [rt] z m :=
 h.ar ((AM.ret_eq h.vi.ref hr (by have := h.rl; simp; omega)).1.perm (by simpa using (List.perm_append_comm (l₁ := [rt]) (l₂ := List.map RN.root V.rs)))) (Kp.ret A rt _)
theorem WR.one {V : VM} {A B : AM} {z : RSt} {m : Nat} {i : Int} {t : Tr} {c : Nat} (h : WR V A [] z m) (hT : TOp A B (V.rs.map RN.root ++ []) i t c) : WR V B [i] z m :=
 h.ar (hT.ref.perm (by simpa using (List.perm_append_comm (l₁ := [i]) (l₂ := List.map RN.root V.rs)))) (hT.kp.sub fun r hr => List.mem_append_left _ hr)
theorem WR.lst {V : VM} {A : AM} {R : List Int} {z : RSt} {m : Nat} (h : WR V A R z m) {x : Int} {l : LsE} (h1 : (z.T.s.opn x = true ∧ ∃ k : Nat, z.T.val x = (k : Int) + 1 ∧ z.LL[k]? = some l) ∨ (z.T.s.opn x = false ∧ l = ⟨[], none, 0⟩)) : l.es.length ≤ m ∧ Srt l.es ∧ (V.T.s.opn x = true → TrL A (V.rootOf (V.T.val x)) l.es) := by
 rcases h1 with ⟨h1, k, h2, h3⟩ | ⟨h1, rfl⟩
 ·refine ⟨(h.sz l (List.mem_of_getElem? h3)).1, (h.sz l (List.mem_of_getElem? h3)).2, fun ho => ?_⟩
  obtain ⟨k', l', h4, h5, h6, _⟩ := h.open ho
  have e : z.T.val x = V.T.val x := by rw [h.tt]
  have ek : k = k' := by omega
  subst ek
  rw [h3] at h5
  rw [Option.some.inj h5]; exact h6
 ·exact ⟨Nat.zero_le _, List.Pairwise.nil, fun ho => by rw [h.tt, ho] at h1; cases h1⟩
theorem ya_0 {b : Bool} (h : ¬ (if b = true then (0 : Int) else 5) ≠ 0) : b = true := by
 cases b with
 | true => rfl
 | false => exact absurd (by decide) h
theorem Zak {g w : World} {L : List HP} (kd ca cb : Int) (es : Z2) (ea : Option Addr) (ec : Nat) (rb : Bool) (x : Int) (hs : List Int) (u : Option Addr) (d : Nat) (hx : 0 ≤ x ∧ x ≤ 18446744073709551615) (hhs : ∀ y ∈ hs, 0 ≤ y ∧ y ≤ 18446744073709551615) (hhl : hs.length ≤ 1000) (Z : St g (Zf 23 1 (Zg hs) u d :: L) w) :
  Sp Tryz.prog 62 [.agg #[.int .i64 kd, .int .u64 ca, .int .u64 cb, .slice ea (Zq es).length ec, .bool rb], .int .u64 x, .slice u (Zg hs).length d] w (fun v w' => ∃ (y : Int), v = .int .u64 y ∧ St g (Zf 23 1 (Zg hs) u d :: L) w' ∧ (0 ≤ y ∧ y ≤ 18446744073709551615)) := by
 refine Sp.enter Tryz.func62 rfl (by kernel_rfl) (by kernel_rfl) ?_
 have _ := hhl
 refine WC.seq <| WC.region ?_
 have hul := Zz hs
 refine WL.box rfl rfl #[.int .i64 kd, .int .u64 ca, .int .u64 cb, .slice ea (Zq es).length ec, .bool rb] Z rfl rfl (fun b1 w Z => ?_)
 refine WL.r 1 rfl <| WL.nil <| WC.seq <| WC.seq <| WC.region <| WL.run 2 [.bool rb] rfl (by exact Z.ld 0 rfl rfl) ?_
 refine WL.rG 5 rfl (fun j => ?_)
 refine WL.prop 13 rfl (bor (dv _) (dd _)) <| WL.nil <| WC.ifP rfl (fun cd1 => ?_) (fun cd1 => ?_)
 ·refine WC.seq <| WC.region <| WL.r 2 rfl <| WL.nil <| WC.ret ?_
  refine ⟨[.int .u64 x], rfl, ?_⟩
  replace Z := (Z.sel 1 [] rfl)
  exact ⟨_, rfl, Z, hx⟩
 ·refine WC.skip <| WC.seq <| WC.region ?_
  obtain ⟨m1, hm1⟩ : ∃ m : Nat, hs.length = m + 1 := ⟨hs.length - 1, by omega⟩; obtain ⟨m2, hm2⟩ : ∃ m : Nat, min hs.length 9 = m + 1 := ⟨min hs.length 9 - 1, by omega⟩; obtain ⟨j, hj, hjl, hp1, hp2⟩ := Zls x hm1 (show m2 + 1 ≤ hs.length by omega); obtain ⟨y, hy⟩ : ∃ y, hs[j]? = some y := ⟨_, List.getElem?_eq_getElem hjl⟩; have ho1 : Int.ofNat (m1 + 1) = (m1 : Int) + 1 := rfl; have ho2 : Int.ofNat (m2 + 1) = (m2 : Int) + 1 := rfl; have hyr := hhs y (List.mem_of_getElem? hy); have hp0 := Int.emod_nonneg x (b := Int.ofNat (m1 + 1)) (by omega)
  refine WL.r 4 rfl <| WL.nw 18 rfl (Xg (by omega)) ?_
  refine WL.r 1 rfl <| WL.nw 19 rfl (Xg (by omega)) ?_
  refine WL.r 4 rfl <| WL.reb 23 (.int .u64 (Int.ofNat (m1 + 1))) (congrArg (Value.int .u64) (by rw [Xg (by omega)]; omega)) ?_
  refine WL.r 1 rfl <| WL.reb 24 (.int .u64 (x % (Int.ofNat (m1 + 1)))) (congrArg (Value.int .u64) (Int.tmod_eq_emod_of_nonneg (a := x) (by omega))) ?_
  refine WL.r 4 rfl <| WL.reb 28 (.int .u64 (Int.ofNat (m2 + 1))) (congrArg (Value.int .u64) (by show IntKind.u64.wrap (min ((List.length (Zg hs) : Nat) : Int) 9) = _; rw [Xg (by omega)]; omega)) ?_
  refine WL.r 1 rfl <| WL.reb 29 (.int .u64 ((x % (Int.ofNat (m1 + 1))) % (Int.ofNat (m2 + 1)))) (congrArg (Value.int .u64) (Int.tmod_eq_emod_of_nonneg (a := x % (Int.ofNat (m1 + 1))) (by omega))) ?_
  refine WL.r 1 rfl <| WL.nw 30 rfl (Xg (by omega)) ?_
  refine WL.ix rfl rfl (i := ((List.length (Zg hs) : Int) - 1) - ((x % (Int.ofNat (m1 + 1))) % (Int.ofNat (m2 + 1)))) (j) el_45 rfl rfl (by omega) (by omega) (Z.rdO 1 rfl (Zm hy)).1 ?_
  refine WL.run 2 [.int .u64 y] rfl (by exact (Z.rdO 1 rfl (Zm hy)).2 0 _ rfl) ?_
  refine WL.nil ?_
  as_aux_lemma =>
  refine WC.ret ?_
  refine ⟨[.int .u64 y], rfl, ?_⟩
  replace Z := (Z.sel 1 [] rfl)
  exact ⟨_, rfl, Z, hyr⟩
theorem Zbn {g w : World} {L : List HP} (p s a : Nat) (V : VM) (A : AM) (z : RSt) (m : Nat) (hs : List Int) (u : Option Addr) (d : Nat) (root : Int) (xe : Z2) (xa : Option Addr) (xc : Nat) (ps : List Int) (pa : Option Addr) (pc : Nat) (hW : WR V A [root] z m) (hx : xe.length ≤ m) (ht : YC V.T V.room ps = 0 → TrL A root xe) (hps : ∀ y ∈ ps, 0 ≤ y ∧ y ≤ 18446744073709551615) (hpl : ps.length ≤ 2) (hla : V.last ≤ 100) (hhs : ∀ y ∈ hs, 0 ≤ y ∧ y ≤ 18446744073709551615) (hhl : hs.length ≤ 1000) (Z : St g (Ze p #[.pointer (some ⟨s, 0, none⟩), .int .i64 z.cap, .int .i64 z.T.s.cap, .slice z.ra (Za z.T.s.rel).length z.rc, .int .i64 (z.T.s.fresh + 1), .slice z.ga (Za (z.T.s.gen.drop 1)).length z.gc, .slice z.oa (Zc (z.T.s.used.drop 1)).length z.oc, .slice z.va (Za (z.T.vals.drop 1)).length z.vc, .int .i64 z.cap, .slice z.pa (Zt z.P).length z.pc, .slice z.ba (Zc z.B).length z.bc, .slice z.la (ZI z.LL).length z.lc, .slice u (Zg hs).length d] 47 :: Zf 23 1 (Zg hs) u d :: ZP s a V :: Zs a A :: Zn Z6 [z] :: Sh 121 2 (Zq xe) xa xc :: Sh 23 1 (Zg ps) pa pc :: L) w) :
  Sp Tryz.prog 67 [.pointer (some ⟨p, 0, none⟩), .int .u32 root, .slice xa (Zq xe).length xc, .slice pa (Zg ps).length pc] w (fun v w' => ∃ (V2 : VM) (A2 : AM) (z2 : RSt) (hs2 : List Int) (u2 : Option Addr) (d2 : Nat), v = .bool true ∧ St g (Ze p #[.pointer (some ⟨s, 0, none⟩), .int .i64 z2.cap, .int .i64 z2.T.s.cap, .slice z2.ra (Za z2.T.s.rel).length z2.rc, .int .i64 (z2.T.s.fresh + 1), .slice z2.ga (Za (z2.T.s.gen.drop 1)).length z2.gc, .slice z2.oa (Zc (z2.T.s.used.drop 1)).length z2.oc, .slice z2.va (Za (z2.T.vals.drop 1)).length z2.vc, .int .i64 z2.cap, .slice z2.pa (Zt z2.P).length z2.pc, .slice z2.ba (Zc z2.B).length z2.bc, .slice z2.la (ZI z2.LL).length z2.lc, .slice u2 (Zg hs2).length d2] 47 :: Zf 23 1 (Zg hs2) u2 d2 :: ZP s a V2 :: Zs a A2 :: Zn Z6 [z2] :: L) w' ∧ (WR V2 A2 [] z2 m) ∧ (V2.last ≤ V.last + 1 ∧ V2.cap = V.cap ∧ A2.s.used.length = A.s.used.length) ∧ (hs2.length ≤ hs.length + 1 ∧ ∀ y ∈ hs2, 0 ≤ y ∧ y ≤ 18446744073709551615)) := by
 refine Sp.enter Tryz.func67 rfl (by kernel_rfl) (by kernel_rfl) ?_
 have _ := hhl
 have _ := hla
 refine WC.seq <| WC.region ?_
 have hrk := hW.rok; have hul := Zz hs
 refine WL.r 1 rfl <| WL.nil <| WC.seq <| WC.region <| WL.run 6 [.pointer (some ⟨s, 0, none⟩)] rfl (by exact Z.ld 0 rfl rfl) ?_
 refine WL.call rfl rfl (Zpk (R := [root]) (root := root) (hV := hW.vi) (hr := hW.vi.ref.ref root (by simp)) (hhs := hps) (hpl := hpl) (hxl := hW.xl) (hla := (by omega)) (hlen := (by simp)) (Z := (Z.sel 7 [2, 2, 4, 0, 0, 0, 0] rfl))) rfl ?_
 clear Z; rintro _ w ⟨V1, A1, rfl, Z, f1⟩
 replace Z := Z.n7 L (a0 := ZP s a V1) (a1 := Zs a A1) rfl
 refine WL.r 5 rfl <| WL.nil <| WC.seq <| WC.region <| WL.r 3 rfl <| WL.ldC rfl rfl [.int .i64 z.cap, .int .i64 z.T.s.cap, .slice z.ra (Za z.T.s.rel).length z.rc, .int .i64 (z.T.s.fresh + 1), .slice z.ga (Za (z.T.s.gen.drop 1)).length z.gc, .slice z.oa (Zc (z.T.s.used.drop 1)).length z.oc, .slice z.va (Za (z.T.vals.drop 1)).length z.vc, .int .i64 z.cap, .slice z.pa (Zt z.P).length z.pc, .slice z.ba (Zc z.B).length z.bc, .slice z.la (ZI z.LL).length z.lc] Zy rfl (Z.part 3 rfl rfl) <| WL.r 2 rfl <| WL.call rfl rfl (Zkg (z := z) (hz := hrk) (hhs := hps) (hpl := hpl) (hpv := hW.pv) (Z := (Z.sel 7 [5, 5, 2, 0, 0, 0, 0] rfl))) rfl ?_
 clear Z; rintro _ w ⟨z1, rfl, Z, f2⟩
 replace Z := Z.n7 L (a0 := Zn Z6 [z1]) rfl
 refine WL.r 4 rfl <| WL.new rfl rfl XE Z (fun b1 w Z => ?_)
 refine WL.stF rfl rfl rfl 0 Z rfl rfl rfl rfl rfl Zy (fun w Z => ?_)
 replace Z := Z.n8 L (a0 := Ze b1 (rvA z1) 43) rfl
 refine WL.r 2 rfl <| WL.nil ?_
 as_aux_lemma =>
 refine WC.seq <| WC.seq <| WC.region ?_
 obtain ⟨hW1, hl1, hc1, hs1⟩ := hW.com f1 f2 (by omega) ht hx
 refine WL.run 4 [.pointer (some ⟨s, 0, none⟩)] rfl (by exact Z.ld 6 rfl rfl) ?_
 refine WL.call rfl rfl (Xc   (Z := (Z.sel 5 [4, 0, 0, 0, 0] rfl))) rfl ?_
 clear Z; rintro _ w ⟨rfl, Z⟩
 replace Z := Z.n8 L rfl
 refine WL.r 1 rfl <| WL.call rfl rfl (Za3 (R := List.map RN.root V1.rs ++ []) (i := root) (hA := hW1.vi.ref.perm (by simp)) (hR := (by have := hW1.rl; simp; omega)) (Z := (Z.sel 6 [5, 0, 0, 0, 0, 0] rfl))) rfl ?_
 clear Z; rintro _ w ⟨A2, f3, rfl, Z, f4, f5⟩
 replace Z := Z.n8 L (a0 := Zs a A2) rfl
 refine WL.r 5 rfl <| WL.nil <| WC.seq <| WC.region <| WL.r 2 rfl <| WL.nil <| WC.ifF rfl (by decide) ?_
 refine WC.skip <| WC.seq <| WC.region <| WL.r 1 rfl <| WL.ldF rfl rfl 2 Z rfl rfl Zy <| WL.r 2 rfl <| WL.stP (ds := #[.pointer (some ⟨s, 0, none⟩), .int .i64 z1.cap, .int .i64 z1.T.s.cap, .slice z1.ra (Za z1.T.s.rel).length z1.rc, .int .i64 (z1.T.s.fresh + 1), .slice z1.ga (Za (z1.T.s.gen.drop 1)).length z1.gc, .slice z1.oa (Zc (z1.T.s.used.drop 1)).length z1.oc, .slice z1.va (Za (z1.T.vals.drop 1)).length z1.vc, .int .i64 z1.cap, .slice z1.pa (Zt z1.P).length z1.pc, .slice z1.ba (Zc z1.B).length z1.bc, .slice z1.la (ZI z1.LL).length z1.lc, .slice u (Zg hs).length d]) rfl rfl rfl 6 Z rfl rfl rfl rfl (Nat.le_of_ble_eq_true rfl) rfl Zy (fun w Z => ?_)
 replace Z := Z.n8 L (a6 := Ze p #[.pointer (some ⟨s, 0, none⟩), .int .i64 z1.cap, .int .i64 z1.T.s.cap, .slice z1.ra (Za z1.T.s.rel).length z1.rc, .int .i64 (z1.T.s.fresh + 1), .slice z1.ga (Za (z1.T.s.gen.drop 1)).length z1.gc, .slice z1.oa (Zc (z1.T.s.used.drop 1)).length z1.oc, .slice z1.va (Za (z1.T.vals.drop 1)).length z1.vc, .int .i64 z1.cap, .slice z1.pa (Zt z1.P).length z1.pc, .slice z1.ba (Zc z1.B).length z1.bc, .slice z1.la (ZI z1.LL).length z1.lc, .slice u (Zg hs).length d] 47) rfl
 refine WL.nil ?_
 as_aux_lemma =>
 refine WC.seq <| WC.seq <| WC.region <| WL.r 2 rfl <| WL.nil <| WC.ifP rfl (fun cd2 => ?_) (fun cd2 => ?_)
 ·refine WC.seq <| WC.region <| WL.run 5 [.slice u (Zg hs).length d] rfl (by exact Z.ld 6 rfl rfl) ?_
  refine WL.lit rfl rfl (Zg [Z7 z.T z.room ps]) el_45 Z (by exact ⟨rfl, rfl⟩) (YZ _) rfl (Nat.le_of_ble_eq_true rfl) (fun b2 w Z => ?_)
  refine WL.app rfl rfl 8 (Zg (hs ++ [Z7 z.T z.room ps])) el_45 Z rfl (Z.srcO 0 rfl) (JB _ _).symm (Rm.of (by first | omega | (simp <;> omega)) (by decide)) rfl rfl (fun a1 c1 w Z => ?_)
  replace Z := Z.n9 L (a0 := Zf 23 1 (Zg [Z7 z.T z.room ps]) (some ⟨b2, 0, none⟩) (Zg [Z7 z.T z.room ps]).length) (a8 := Zf 23 1 (Zg (hs ++ [Z7 z.T z.room ps])) a1 c1) rfl
  refine WL.r 1 rfl <| WL.nil <| WC.region <| WL.r 4 rfl <| WL.st rfl rfl rfl 7 Z rfl rfl rfl rfl rfl rfl (fun w Z => ?_)
  replace Z := Z.n9 L (a7 := Ze p #[.pointer (some ⟨s, 0, none⟩), .int .i64 z1.cap, .int .i64 z1.T.s.cap, .slice z1.ra (Za z1.T.s.rel).length z1.rc, .int .i64 (z1.T.s.fresh + 1), .slice z1.ga (Za (z1.T.s.gen.drop 1)).length z1.gc, .slice z1.oa (Zc (z1.T.s.used.drop 1)).length z1.oc, .slice z1.va (Za (z1.T.vals.drop 1)).length z1.vc, .int .i64 z1.cap, .slice z1.pa (Zt z1.P).length z1.pc, .slice z1.ba (Zc z1.B).length z1.bc, .slice z1.la (ZI z1.LL).length z1.lc, .slice a1 (Zg (hs ++ [Z7 z.T z.room ps])).length c1] 47) rfl
  refine WL.nil <| WC.seq <| WC.region <| WL.r 3 rfl <| WL.rG 6 rfl (fun j => ?_)
  refine WL.prop 74 rfl (Qd (dd _) (dd _)) <| WL.nil ?_
  as_aux_lemma =>
  refine WC.ret ?_
  refine ⟨[.bool (bif (decide ((Z7 V.T V.room ps) = (Z7 z.T z.room ps))) then (decide ((YC V.T V.room ps) = (YC z.T z.room ps))) else false)], rfl, ?_⟩
  replace Z := (Z.sel 9 [7, 7, 2, 1, 2] rfl)
  exact ⟨V1, A2, z1, _, _, _, congrArg Value.bool (by rw [(hW.same ps).1, (hW.same ps).2]; simp), Z, hW1.ar f4.ref (f4.kp.sub (fun r hr => List.mem_append_left _ hr)), ⟨hl1, hc1, f4.cap.trans (congrArg (fun q => List.length (SM.used q)) hs1)⟩, by simp, Zgc hhs (by rw [(hW.same ps).2]; exact Zdd hW.vi ps)⟩
 ·refine WC.skip <| WC.seq <| WC.region <| WL.r 3 rfl <| WL.rG 6 rfl (fun j => ?_)
  refine WL.prop 74 rfl (Qd (dd _) (dd _)) <| WL.nil <| WC.ret ?_
  refine ⟨[.bool (bif (decide ((Z7 V.T V.room ps) = (Z7 z.T z.room ps))) then (decide ((YC V.T V.room ps) = (YC z.T z.room ps))) else false)], rfl, ?_⟩
  replace Z := (Z.sel 8 [6, 6, 1, 0, 1] rfl)
  exact ⟨V1, A2, z1, _, _, _, congrArg Value.bool (by rw [(hW.same ps).1, (hW.same ps).2]; simp), Z, hW1.ar f4.ref (f4.kp.sub (fun r hr => List.mem_append_left _ hr)), ⟨hl1, hc1, f4.cap.trans (congrArg (fun q => List.length (SM.used q)) hs1)⟩, by simp, hhs⟩
set_option maxHeartbeats 2000000 in
theorem wstep {g w : World} {L : List HP} (p s a : Nat) (V : VM) (A : AM) (z : RSt) (n : Nat) (hs : List Int) (u : Option Addr) (d : Nat) (kd ca cb : Int) (es : Z2) (ea : Option Addr) (ec : Nat) (rb : Bool) (hW : WR V A [] z (12 + n)) (hB : StB V A hs n) (hn : n < 40) (hkd : -9223372036854775808 ≤ kd ∧ kd ≤ 9223372036854775807) (hca : 0 ≤ ca ∧ ca ≤ 18446744073709551615) (hcb : 0 ≤ cb ∧ cb ≤ 18446744073709551615) (hel : es.length ≤ maxLen) (Z : St g (Ze p #[.pointer (some ⟨s, 0, none⟩), .int .i64 z.cap, .int .i64 z.T.s.cap, .slice z.ra (Za z.T.s.rel).length z.rc, .int .i64 (z.T.s.fresh + 1), .slice z.ga (Za (z.T.s.gen.drop 1)).length z.gc, .slice z.oa (Zc (z.T.s.used.drop 1)).length z.oc, .slice z.va (Za (z.T.vals.drop 1)).length z.vc, .int .i64 z.cap, .slice z.pa (Zt z.P).length z.pc, .slice z.ba (Zc z.B).length z.bc, .slice z.la (ZI z.LL).length z.lc, .slice u (Zg hs).length d] 47 :: Zf 23 1 (Zg hs) u d :: ZP s a V :: Zs a A :: Zn Z6 [z] :: Sh 121 2 (Zq es) ea ec :: L) w) :
  Sp Tryz.prog 13 [.pointer (some ⟨p, 0, none⟩), .agg #[.int .i64 kd, .int .u64 ca, .int .u64 cb, .slice ea (Zq es).length ec, .bool rb]] w (fun v w' => ∃ (V2 : VM) (A2 : AM) (z2 : RSt) (hs2 : List Int) (u2 : Option Addr) (d2 : Nat), v = .bool true ∧ St g (Ze p #[.pointer (some ⟨s, 0, none⟩), .int .i64 z2.cap, .int .i64 z2.T.s.cap, .slice z2.ra (Za z2.T.s.rel).length z2.rc, .int .i64 (z2.T.s.fresh + 1), .slice z2.ga (Za (z2.T.s.gen.drop 1)).length z2.gc, .slice z2.oa (Zc (z2.T.s.used.drop 1)).length z2.oc, .slice z2.va (Za (z2.T.vals.drop 1)).length z2.vc, .int .i64 z2.cap, .slice z2.pa (Zt z2.P).length z2.pc, .slice z2.ba (Zc z2.B).length z2.bc, .slice z2.la (ZI z2.LL).length z2.lc, .slice u2 (Zg hs2).length d2] 47 :: Zf 23 1 (Zg hs2) u2 d2 :: ZP s a V2 :: Zs a A2 :: Zn Z6 [z2] :: Sh 121 2 (Zq es) ea ec :: L) w' ∧ (WR V2 A2 [] z2 (12 + (n + 1))) ∧ (StB V2 A2 hs2 (n + 1) ∧ V2.cap = V.cap)) := by
 refine Sp.enter Tryz.func13 rfl (by kernel_rfl) (by kernel_rfl) ?_
 have _ := hn
 refine WC.seq <| WC.region <| WL.box rfl rfl #[.int .i64 kd, .int .u64 ca, .int .u64 cb, .slice ea (Zq es).length ec, .bool rb] Z rfl rfl (fun b1 w Z => ?_)
 refine WL.r 1 rfl <| WL.nil <| WC.seq <| WC.region ?_
 have hrk := hW.rok; have hW52 := hW.up (m2 := 52) (by omega); have hfr := hW52.free hB (by omega); have hhl := hB.hl; have hla := hB.la; have hell := Ym es; have hrl := hW.rl; have htt := hW.tt; have hmx : es.length ≤ 9223372036854775807 := hel
 refine WL.run 4 [.pointer (some ⟨s, 0, none⟩)] rfl (by exact Z.ld 1 rfl rfl) ?_
 refine WL.call rfl rfl (Xc   (Z := (Z.sel 4 [3, 0, 0, 0] rfl))) rfl ?_
 clear Z; rintro _ w ⟨rfl, Z⟩
 replace Z := Z.n7 L (a1 := Ze b1 #[.int .i64 kd, .int .u64 ca, .int .u64 cb, .slice ea (Zq es).length ec, .bool rb] 51) rfl
 refine WL.r 1 rfl <| WL.nil <| WC.seq <| WC.plan [([0, 1, 3, 8, 9, 11, 2, 4, 10, 12, 5, 13, 6, 14], some (7, [8, 9, 10, 11, 12, 13, 14])), ([], some (15, [])), ([16, 17], none)] (by kernel_rfl) (by kernel_rfl) ?_
 refine WQ.ldF rfl rfl 1 Z rfl rfl Zgt <| WQ.r 2 rfl <| WQ.ldF rfl rfl 1 Z rfl rfl Zgt <| WQ.run 10 [.int .u64 ca, .int .u64 cb, .slice u (Zg hs).length d, .slice u (Zg hs).length d] rfl (by exact ⟨Z.ld 1 rfl rfl, Z.ld 1 rfl rfl, Z.ld 2 rfl rfl, Z.ld 2 rfl rfl⟩) ?_
 refine WQ.nil ?_
 intro m1
 replace Z := Z.drewN m1; generalize hwm1 : World.drewN _ _ = w at *; clear hwm1
 refine WL.call rfl rfl (Zak (kd := kd) (ca := ca) (cb := cb) (es := es) (ea := ea) (ec := ec) (rb := rb) (x := ca) (hx := hca) (hhs := hB.hr) (hhl := (by omega)) (Z := (Z.sel 4 [3, 0, 0, 0] rfl))) rfl ?_
 clear Z; rintro _ w ⟨y1, rfl, Z, f1⟩
 replace Z := Z.n7 L rfl
 refine WL.nil ?_
 refine ⟨by exact ⟨RQ.ldF rfl rfl 2 Z rfl rfl Zgt rfl rfl, RQ.pure rfl rfl rfl rfl, RQ.load rfl rfl rfl rfl (Z.ld 2 rfl rfl), RQ.pure rfl rfl rfl rfl, RQ.pure rfl rfl rfl rfl, RQ.pure rfl rfl rfl rfl, RQ.load rfl rfl rfl rfl (Z.ld 3 rfl rfl)⟩, ?_⟩
 refine WQ.nil ?_
 intro m2
 replace Z := Z.drewN m2; generalize hwm2 : World.drewN _ _ = w at *; clear hwm2
 refine WL.call rfl rfl (Zak (kd := kd) (ca := ca) (cb := cb) (es := es) (ea := ea) (ec := ec) (rb := rb) (x := cb) (hx := hcb) (hhs := hB.hr) (hhl := (by omega)) (Z := Z)) rfl ?_
 clear Z; rintro _ w ⟨y2, rfl, Z, f2⟩
 replace Z := Z.n7 L rfl
 refine WL.nil ?_
 refine ⟨by exact trivial, ?_⟩
 refine WQ.r 2 rfl <| WQ.nil ?_
 intro m3
 replace Z := Z.drewN m3; generalize hwm3 : World.drewN _ _ = w at *; clear hwm3
 as_aux_lemma =>
 refine WC.seq <| WC.region <| WL.r 3 rfl <| WL.ldC rfl rfl [.int .i64 z.cap, .int .i64 z.T.s.cap, .slice z.ra (Za z.T.s.rel).length z.rc, .int .i64 (z.T.s.fresh + 1), .slice z.ga (Za (z.T.s.gen.drop 1)).length z.gc, .slice z.oa (Zc (z.T.s.used.drop 1)).length z.oc, .slice z.va (Za (z.T.vals.drop 1)).length z.vc, .int .i64 z.cap, .slice z.pa (Zt z.P).length z.pc, .slice z.ba (Zc z.B).length z.bc, .slice z.la (ZI z.LL).length z.lc] Zy rfl (Z.part 3 rfl rfl) <| WL.r 1 rfl <| WL.call rfl rfl (Zgg (z := z) (h := y1) (hz := hrk) (hh := f1) (hx := (fun h => hW.opl h)) (Z := (Z.sel 6 [5, 0, 0, 0, 0, 0] rfl))) rfl ?_
 clear Z; rintro _ w ⟨x1, rfl, Z, f3⟩
 replace Z := Z.n8 L (a1 := Sh 121 2 (Zq x1.es) x1.a x1.c) rfl
 refine WL.r 5 rfl <| WL.nil <| WC.seq <| WC.region ?_
 obtain ⟨hl1, hl2, hl3⟩ := hW.lst f3
 refine WL.run 5 [.pointer (some ⟨s, 0, none⟩)] rfl (by exact Z.ld 5 rfl rfl) ?_
 refine WL.call rfl rfl (Zof (A := A) (R := []) (h := y1) (hV := hW.vi) (hh := f1) (Z := (Z.sel 4 [3, 0, 0, 0] rfl))) rfl ?_
 clear Z; rintro _ w ⟨rfl, Z⟩
 replace Z := Z.n8 L rfl
 refine WL.r 5 rfl <| WL.nil <| WC.seq <| WC.region <| WL.run 5 [.pointer (some ⟨s, 0, none⟩)] rfl (by exact Z.ld 5 rfl rfl) ?_
 refine WL.call rfl rfl (Ze3 (h := y1) (hT := hW.vi.t) (hh := f1) (Z := Z)) rfl ?_
 clear Z; rintro _ w ⟨rfl, Z⟩
 replace Z := Z.n8 L rfl
 refine WL.r 5 rfl <| WL.nil ?_
 as_aux_lemma =>
 refine WC.seq <| WC.region ?_
 have hWu := hW.up (m2 := 12 + (n + 1)) (by omega)
 refine WL.r 3 rfl <| WL.ldC rfl rfl [.int .i64 z.cap, .int .i64 z.T.s.cap, .slice z.ra (Za z.T.s.rel).length z.rc, .int .i64 (z.T.s.fresh + 1), .slice z.ga (Za (z.T.s.gen.drop 1)).length z.gc, .slice z.oa (Zc (z.T.s.used.drop 1)).length z.oc, .slice z.va (Za (z.T.vals.drop 1)).length z.vc, .int .i64 z.cap, .slice z.pa (Zt z.P).length z.pc, .slice z.ba (Zc z.B).length z.bc, .slice z.la (ZI z.LL).length z.lc] Zy rfl (Z.part 5 rfl rfl) <| WL.r 1 rfl <| WL.call rfl rfl (Zce (z := z) (h := y1) (hz := hrk) (hh := f1) (Z := (Z.sel 2 [1, 0] rfl))) rfl ?_
 clear Z; rintro _ w ⟨rfl, Z⟩
 replace Z := Z.n8 L rfl
 refine WL.r 5 rfl <| WL.nil <| WC.seq <| WC.seq <| WC.region <| WL.r 3 rfl <| WL.rG 10 rfl (fun j => ?_)
 refine WL.prop 102 rfl (bor (bor (dd _) (dd _)) (dd _)) <| WL.nil <| WC.ifF rfl (decide_eq_false ((by rw [htt]; simp))) ?_
 refine WC.skip <| WC.seq <| WC.seq <| WC.region <| WL.run 2 [.int .i64 kd] rfl (by exact Z.ld 4 rfl rfl) ?_
 refine WL.call rfl rfl (Zgf (k := kd) (n := 8) (hk := hkd) (hn := (by decide)) (Z := Z)) rfl ?_
 clear Z; rintro _ w ⟨rfl, Z⟩
 replace Z := Z.n8 L rfl
 refine WL.nil ?_
 as_aux_lemma =>
 refine WC.block <| WC.seq <| WC.region <| WL.r 2 rfl <| WL.nil <| WC.ifP rfl (fun cd1 => ?_) (fun cd1 => ?_)
 ·refine WC.seq <| WC.region <| WL.run 2 [.slice ea (Zq es).length ec] rfl (by exact Z.ld 4 rfl rfl) ?_
  refine WL.call rfl rfl (Zm8 (most := 12) (hm := (by decide)) (Z := (Z.sel 8 [7, 0, 0, 0, 0, 0, 0, 0] rfl))) rfl ?_
  clear Z; rintro _ w ⟨a1, c1, rfl, Z⟩
  replace Z := Z.n9 L (a0 := Zf 121 2 (Zq (mkL es 12)) a1 c1) rfl
  refine WL.r 1 rfl <| WL.nil <| WC.seq <| WC.region ?_
  obtain ⟨hms, hmk⟩ := Zbr es 12; have hroots : (List.map RN.root V.rs ++ []).length = V.rs.length := (by simp)
  refine WL.r 2 rfl ?_
  replace Z := (Z.at_ 0 rfl).share
  replace Z := Z.n9 L (a0 := Sh 121 2 (Zq (mkL es 12)) a1 c1) rfl
  refine WL.call rfl rfl (Zi6 (R := List.map RN.root V.rs ++ []) (l := mkL es 12) (hA := hW.vi.ref) (hs := hms) (hf := (by omega)) (hl := (by omega)) (hz := (by omega)) (Z := (Z.sel 9 [8, 0, 0, 0, 0, 0, 0, 0, 0] rfl))) rfl ?_
  clear Z; rintro _ w ⟨A1, i1, rfl, Z, f4⟩
  replace Z := Z.n9 L (a0 := Zs a A1) rfl
  refine WL.r 5 rfl <| WL.nil ?_
  as_aux_lemma =>
  refine WC.seq <| WC.region <| WL.r 3 rfl <| WL.reb 119 (.bool true) (congrArg Value.bool (decide_eq_true (by decide))) ?_
  refine WL.ung rfl rfl rfl <| WL.r 1 rfl <| WL.ung rfl rfl rfl <| WL.r 1 rfl <| WL.ung rfl rfl rfl <| WL.r 1 rfl <| WL.ung rfl rfl rfl ?_
  replace Z := Z.nilS 23 1
  replace Z := Z.n10 L (a0 := Sh 23 1 (Zg []) none 0) rfl
  refine WL.call rfl rfl (Zbn (z := z) (m := 12 + (n + 1)) (root := i1) (xe := mkL es 12) (ps := []) (hW := (hWu.one f4)) (hx := (by omega)) (ht := (fun _ => ⟨_, f4.is, Tr.bld_ok _ _ (Nat.le_refl _), by rw [Tr.bld_ls _ _ (Nat.le_refl _)]; exact hms, Tr.bld_ls _ _ (Nat.le_refl _)⟩)) (hps := (fun _ h => by cases h)) (hpl := (by decide)) (hla := (by omega)) (hhs := hB.hr) (hhl := (by omega)) (Z := (Z.sel 10 [9, 7, 5, 1, 3, 1, 0, 0, 0, 0] rfl))) rfl ?_
  clear Z; rintro _ w ⟨V1, A2, z1, hs1, u1, d1, rfl, Z, f5, f6, f7⟩
  replace Z := Z.n8 L (a0 := Ze p #[.pointer (some ⟨s, 0, none⟩), .int .i64 z1.cap, .int .i64 z1.T.s.cap, .slice z1.ra (Za z1.T.s.rel).length z1.rc, .int .i64 (z1.T.s.fresh + 1), .slice z1.ga (Za (z1.T.s.gen.drop 1)).length z1.gc, .slice z1.oa (Zc (z1.T.s.used.drop 1)).length z1.oc, .slice z1.va (Za (z1.T.vals.drop 1)).length z1.vc, .int .i64 z1.cap, .slice z1.pa (Zt z1.P).length z1.pc, .slice z1.ba (Zc z1.B).length z1.bc, .slice z1.la (ZI z1.LL).length z1.lc, .slice u1 (Zg hs1).length d1] 47) (a1 := Zf 23 1 (Zg hs1) u1 d1) (a2 := ZP s a V1) (a3 := Zs a A2) (a4 := Zn Z6 [z1]) rfl
  refine WL.r 2 rfl <| WL.nil <| WC.ret ?_
  refine ⟨[.bool true], rfl, ?_⟩
  replace Z := (Z.sel 8 [0, 0, 0, 0, 0, 0] rfl)
  exact ⟨_, _, _, _, _, _, rfl, Z, f5, hB.of f6.1 (f6.2.2.trans f4.cap) f7.1 f7.2, f6.2.1⟩
 ·refine WC.seq <| WC.region <| WL.r 2 rfl <| WL.nil <| WC.ifP rfl (fun cd2 => ?_) (fun cd2 => ?_)
  ·refine WC.seq <| WC.region <| WL.run 5 [.pointer (some ⟨s, 0, none⟩)] rfl (by exact Z.ld 5 rfl rfl) ?_
   refine WL.call rfl rfl (Zpv (R := []) (h := y1) (hV := hW.vi) (hh := f1) (hxl := hW.xl) (hla := (by omega)) (hlen := (by simp)) (Z := (Z.sel 7 [1, 5, 0, 0, 0, 0, 0] rfl))) rfl ?_
   clear Z; rintro _ w ⟨V1, A1, rfl, Z, f4⟩
   replace Z := Z.n8 L (a0 := ZP s a V1) (a1 := Zs a A1) rfl
   refine WL.r 5 rfl <| WL.nil <| WC.seq <| WC.region <| WL.r 3 rfl <| WL.ldC rfl rfl [.int .i64 z.cap, .int .i64 z.T.s.cap, .slice z.ra (Za z.T.s.rel).length z.rc, .int .i64 (z.T.s.fresh + 1), .slice z.ga (Za (z.T.s.gen.drop 1)).length z.gc, .slice z.oa (Zc (z.T.s.used.drop 1)).length z.oc, .slice z.va (Za (z.T.vals.drop 1)).length z.vc, .int .i64 z.cap, .slice z.pa (Zt z.P).length z.pc, .slice z.ba (Zc z.B).length z.bc, .slice z.la (ZI z.LL).length z.lc] Zy rfl (Z.part 6 rfl rfl) <| WL.r 2 rfl <| WL.lit rfl rfl (Zg [y1]) el_45 Z (by exact ⟨rfl, rfl⟩) (YZ _) rfl (Nat.le_of_ble_eq_true rfl) (fun b2 w Z => ?_)
   replace Z := (Z.at_ 0 rfl).share
   replace Z := Z.n9 L (a0 := Sh 23 1 (Zg [y1]) (some ⟨b2, 0, none⟩) (Zg [y1]).length) rfl
   refine WL.call rfl rfl (Zkg (z := z) (xe := x1.es) (xa := x1.a) (xc := x1.c) (ps := [y1]) (pa2 := some ⟨b2, 0, none⟩) (pc2 := List.length (Zg [y1])) (hz := hrk) (hhs := (fun q hq => by rw [List.mem_singleton.1 hq]; exact f1)) (hpl := (by simp)) (hpv := hW.pv) (Z := (Z.sel 5 [3, 3, 0, 0, 0] rfl))) rfl ?_
   clear Z; rintro _ w ⟨z1, rfl, Z, f5⟩
   replace Z := Z.n9 L (a0 := Zn Z6 [z1]) rfl
   refine WL.r 4 rfl <| WL.new rfl rfl XE Z (fun b3 w Z => ?_)
   refine WL.stF rfl rfl rfl 0 Z rfl rfl rfl rfl rfl Zy (fun w Z => ?_)
   replace Z := Z.n10 L (a0 := Ze b3 (rvA z1) 43) rfl
   refine WL.r 2 rfl <| WL.nil ?_
   as_aux_lemma =>
   refine WC.seq <| WC.region ?_
   obtain ⟨hW1, hla1, hcp1, hus1⟩ := hWu.com f4 f5 (by omega) (fun h0 => hl3 ((Zeh h0).2.1 _ (by simp))) (Nat.le_trans hl1 (by omega)); have hus2 : A1.s.used.length = A.s.used.length := congrArg (fun q => List.length (SM.used q)) hus1; have hsm := hW.same [y1]; have hul := Zz hs
   refine WL.r 1 rfl <| WL.ldF rfl rfl 0 Z rfl rfl Zy <| WL.r 2 rfl <| WL.stP (ds := #[.pointer (some ⟨s, 0, none⟩), .int .i64 z1.cap, .int .i64 z1.T.s.cap, .slice z1.ra (Za z1.T.s.rel).length z1.rc, .int .i64 (z1.T.s.fresh + 1), .slice z1.ga (Za (z1.T.s.gen.drop 1)).length z1.gc, .slice z1.oa (Zc (z1.T.s.used.drop 1)).length z1.oc, .slice z1.va (Za (z1.T.vals.drop 1)).length z1.vc, .int .i64 z1.cap, .slice z1.pa (Zt z1.P).length z1.pc, .slice z1.ba (Zc z1.B).length z1.bc, .slice z1.la (ZI z1.LL).length z1.lc, .slice u (Zg hs).length d]) rfl rfl rfl 8 Z rfl rfl rfl rfl (Nat.le_of_ble_eq_true rfl) rfl Zy (fun w Z => ?_)
   replace Z := Z.n10 L (a8 := Ze p #[.pointer (some ⟨s, 0, none⟩), .int .i64 z1.cap, .int .i64 z1.T.s.cap, .slice z1.ra (Za z1.T.s.rel).length z1.rc, .int .i64 (z1.T.s.fresh + 1), .slice z1.ga (Za (z1.T.s.gen.drop 1)).length z1.gc, .slice z1.oa (Zc (z1.T.s.used.drop 1)).length z1.oc, .slice z1.va (Za (z1.T.vals.drop 1)).length z1.vc, .int .i64 z1.cap, .slice z1.pa (Zt z1.P).length z1.pc, .slice z1.ba (Zc z1.B).length z1.bc, .slice z1.la (ZI z1.LL).length z1.lc, .slice u (Zg hs).length d] 47) rfl
   refine WL.nil <| WC.seq <| WC.seq <| WC.region <| WL.r 2 rfl <| WL.nil <| WC.ifP rfl (fun cd3 => ?_) (fun cd3 => ?_)
   ·refine WC.seq <| WC.region <| WL.run 5 [.slice u (Zg hs).length d] rfl (by exact Z.ld 8 rfl rfl) ?_
    refine WL.lit rfl rfl (Zg [Z7 z.T z.room [y1]]) el_45 Z (by exact ⟨rfl, rfl⟩) (YZ _) rfl (Nat.le_of_ble_eq_true rfl) (fun b4 w Z => ?_)
    refine WL.app rfl rfl 7 (Zg (hs ++ [Z7 z.T z.room [y1]])) el_45 Z rfl (Z.srcO 0 rfl) (JB _ _).symm (Rm.of (by first | omega | (simp <;> omega)) (by decide)) rfl rfl (fun a1 c1 w Z => ?_)
    replace Z := Z.n11 L (a0 := Zf 23 1 (Zg [Z7 z.T z.room [y1]]) (some ⟨b4, 0, none⟩) (Zg [Z7 z.T z.room [y1]]).length) (a7 := Zf 23 1 (Zg (hs ++ [Z7 z.T z.room [y1]])) a1 c1) rfl
    refine WL.r 1 rfl <| WL.nil <| WC.region <| WL.r 4 rfl <| WL.st rfl rfl rfl 9 Z rfl rfl rfl rfl rfl rfl (fun w Z => ?_)
    replace Z := Z.n11 L (a9 := Ze p #[.pointer (some ⟨s, 0, none⟩), .int .i64 z1.cap, .int .i64 z1.T.s.cap, .slice z1.ra (Za z1.T.s.rel).length z1.rc, .int .i64 (z1.T.s.fresh + 1), .slice z1.ga (Za (z1.T.s.gen.drop 1)).length z1.gc, .slice z1.oa (Zc (z1.T.s.used.drop 1)).length z1.oc, .slice z1.va (Za (z1.T.vals.drop 1)).length z1.vc, .int .i64 z1.cap, .slice z1.pa (Zt z1.P).length z1.pc, .slice z1.ba (Zc z1.B).length z1.bc, .slice z1.la (ZI z1.LL).length z1.lc, .slice a1 (Zg (hs ++ [Z7 z.T z.room [y1]])).length c1] 47) rfl
    refine WL.nil ?_
    as_aux_lemma =>
    refine WC.seq <| WC.region <| WL.r 3 rfl <| WL.rG 6 rfl (fun j => ?_)
    refine WL.prop 172 rfl (Qd (dd _) (dd _)) <| WL.nil <| WC.ret ?_
    refine ⟨[.bool (bif (decide ((Z7 V.T V.room [y1]) = (Z7 z.T z.room [y1]))) then (decide ((YC V.T V.room [y1]) = (YC z.T z.room [y1]))) else false)], rfl, ?_⟩
    replace Z := (Z.sel 10 [9, 7, 5, 5, 2] rfl)
    exact ⟨_, _, _, _, _, _, congrArg Value.bool (by rw [hsm.1, hsm.2]; simp), Z, hW1, hB.of hla1 hus2 (by simp) (Zgc hB.hr (by rw [hsm.2]; exact Zdd hW.vi _)), hcp1⟩
   ·refine WC.skip <| WC.seq <| WC.region <| WL.r 3 rfl <| WL.rG 6 rfl (fun j => ?_)
    refine WL.prop 172 rfl (Qd (dd _) (dd _)) <| WL.nil <| WC.ret ?_
    refine ⟨[.bool (bif (decide ((Z7 V.T V.room [y1]) = (Z7 z.T z.room [y1]))) then (decide ((YC V.T V.room [y1]) = (YC z.T z.room [y1]))) else false)], rfl, ?_⟩
    replace Z := (Z.sel 9 [8, 6, 4, 4, 1] rfl)
    exact ⟨_, _, _, _, _, _, congrArg Value.bool (by rw [hsm.1, hsm.2]; simp), Z, hW1, hB.of hla1 hus2 (by simp) hB.hr, hcp1⟩
  ·refine WC.seq <| WC.seq <| WC.region <| WL.r 2 rfl <| WL.nil <| WC.ifP rfl (fun cd3 => ?_) (fun cd3 => ?_)
   ·refine WC.skip <| WC.ifT rfl (decide_eq_true cd3) <| WC.seq <| WC.region <| WL.run 5 [.pointer (some ⟨s, 0, none⟩)] rfl (by exact Z.ld 5 rfl rfl) ?_
    refine WL.call rfl rfl (Zok (R := []) (h := y1) (hV := hW.vi) (hh := f1) (hlen := (by simp)) (Z := (Z.sel 7 [1, 5, 0, 0, 0, 0, 0] rfl))) rfl ?_
    clear Z; rintro _ w ⟨V1, A1, rfl, Z, f4⟩
    replace Z := Z.n8 L (a0 := ZP s a V1) (a1 := Zs a A1) rfl
    refine WL.r 5 rfl <| WL.nil ?_
    as_aux_lemma =>
    refine WC.seq <| WC.region <| WL.r 3 rfl <| WL.ldC rfl rfl [.int .i64 z.cap, .int .i64 z.T.s.cap, .slice z.ra (Za z.T.s.rel).length z.rc, .int .i64 (z.T.s.fresh + 1), .slice z.ga (Za (z.T.s.gen.drop 1)).length z.gc, .slice z.oa (Zc (z.T.s.used.drop 1)).length z.oc, .slice z.va (Za (z.T.vals.drop 1)).length z.vc, .int .i64 z.cap, .slice z.pa (Zt z.P).length z.pc, .slice z.ba (Zc z.B).length z.bc, .slice z.la (ZI z.LL).length z.lc] Zy rfl (Z.part 6 rfl rfl) <| WL.r 1 rfl <| WL.call rfl rfl (Zon (z := z) (h := y1) (hz := hrk) (hh := f1) (hl := (fun h => hW.liv h)) (Z := (Z.sel 3 [2, 0, 0] rfl))) rfl ?_
    clear Z; rintro _ w ⟨z1, rfl, Z, f5⟩
    replace Z := Z.n8 L (a0 := Zn Z6 [z1]) rfl
    refine WL.r 3 rfl <| WL.new rfl rfl XE Z (fun b2 w Z => ?_)
    refine WL.stF rfl rfl rfl 0 Z rfl rfl rfl rfl rfl Zy (fun w Z => ?_)
    replace Z := Z.n9 L (a0 := Ze b2 (rvA z1) 43) rfl
    refine WL.r 1 rfl <| WL.nil <| WC.seq <| WC.region ?_
    obtain ⟨hW1, hla1, hcp1, hus1⟩ := hWu.rls f4 f5
    refine WL.r 1 rfl <| WL.ldF rfl rfl 0 Z rfl rfl Zy <| WL.r 2 rfl <| WL.stP (ds := #[.pointer (some ⟨s, 0, none⟩), .int .i64 z1.cap, .int .i64 z1.T.s.cap, .slice z1.ra (Za z1.T.s.rel).length z1.rc, .int .i64 (z1.T.s.fresh + 1), .slice z1.ga (Za (z1.T.s.gen.drop 1)).length z1.gc, .slice z1.oa (Zc (z1.T.s.used.drop 1)).length z1.oc, .slice z1.va (Za (z1.T.vals.drop 1)).length z1.vc, .int .i64 z1.cap, .slice z1.pa (Zt z1.P).length z1.pc, .slice z1.ba (Zc z1.B).length z1.bc, .slice z1.la (ZI z1.LL).length z1.lc, .slice u (Zg hs).length d]) rfl rfl rfl 7 Z rfl rfl rfl rfl (Nat.le_of_ble_eq_true rfl) rfl Zy (fun w Z => ?_)
    replace Z := Z.n9 L (a7 := Ze p #[.pointer (some ⟨s, 0, none⟩), .int .i64 z1.cap, .int .i64 z1.T.s.cap, .slice z1.ra (Za z1.T.s.rel).length z1.rc, .int .i64 (z1.T.s.fresh + 1), .slice z1.ga (Za (z1.T.s.gen.drop 1)).length z1.gc, .slice z1.oa (Zc (z1.T.s.used.drop 1)).length z1.oc, .slice z1.va (Za (z1.T.vals.drop 1)).length z1.vc, .int .i64 z1.cap, .slice z1.pa (Zt z1.P).length z1.pc, .slice z1.ba (Zc z1.B).length z1.bc, .slice z1.la (ZI z1.LL).length z1.lc, .slice u (Zg hs).length d] 47) rfl
    refine WL.nil <| WC.seq <| WC.region <| WL.r 4 rfl <| WL.nil ?_
    as_aux_lemma =>
    refine WC.ret ?_
    refine ⟨[.bool (decide ((if V.T.s.opn y1 = true then 0 else 5) = (if z.T.s.opn y1 = true then 0 else 5)))], rfl, ?_⟩
    replace Z := (Z.sel 8 [7, 5, 2, 2, 1] rfl)
    exact ⟨_, _, _, _, _, _, congrArg Value.bool (by rw [htt]; simp), Z, hW1, hB.of (by omega) hus1 (by omega) hB.hr, hcp1⟩
   ·refine WC.region <| WL.r 2 rfl <| WL.nil <| WC.ifP rfl (fun cd4 => ?_) (fun cd4 => ?_)
    ·refine WC.seq <| WC.region <| WL.run 5 [.pointer (some ⟨s, 0, none⟩)] rfl (by exact Z.ld 5 rfl rfl) ?_
     refine WL.call rfl rfl (Zok (R := []) (h := y1) (hV := hW.vi) (hh := f1) (hlen := (by simp)) (Z := (Z.sel 7 [1, 5, 0, 0, 0, 0, 0] rfl))) rfl ?_
     clear Z; rintro _ w ⟨V1, A1, rfl, Z, f4⟩
     replace Z := Z.n8 L (a0 := ZP s a V1) (a1 := Zs a A1) rfl
     refine WL.r 5 rfl <| WL.nil ?_
     as_aux_lemma =>
     refine WC.seq <| WC.region <| WL.r 3 rfl <| WL.ldC rfl rfl [.int .i64 z.cap, .int .i64 z.T.s.cap, .slice z.ra (Za z.T.s.rel).length z.rc, .int .i64 (z.T.s.fresh + 1), .slice z.ga (Za (z.T.s.gen.drop 1)).length z.gc, .slice z.oa (Zc (z.T.s.used.drop 1)).length z.oc, .slice z.va (Za (z.T.vals.drop 1)).length z.vc, .int .i64 z.cap, .slice z.pa (Zt z.P).length z.pc, .slice z.ba (Zc z.B).length z.bc, .slice z.la (ZI z.LL).length z.lc] Zy rfl (Z.part 6 rfl rfl) <| WL.r 1 rfl <| WL.call rfl rfl (Zon (z := z) (h := y1) (hz := hrk) (hh := f1) (hl := (fun h => hW.liv h)) (Z := (Z.sel 3 [2, 0, 0] rfl))) rfl ?_
     clear Z; rintro _ w ⟨z1, rfl, Z, f5⟩
     replace Z := Z.n8 L (a0 := Zn Z6 [z1]) rfl
     refine WL.r 3 rfl <| WL.new rfl rfl XE Z (fun b2 w Z => ?_)
     refine WL.stF rfl rfl rfl 0 Z rfl rfl rfl rfl rfl Zy (fun w Z => ?_)
     replace Z := Z.n9 L (a0 := Ze b2 (rvA z1) 43) rfl
     refine WL.r 1 rfl <| WL.nil <| WC.seq <| WC.region ?_
     obtain ⟨hW1, hla1, hcp1, hus1⟩ := hWu.rls f4 f5
     refine WL.r 1 rfl <| WL.ldF rfl rfl 0 Z rfl rfl Zy <| WL.r 2 rfl <| WL.stP (ds := #[.pointer (some ⟨s, 0, none⟩), .int .i64 z1.cap, .int .i64 z1.T.s.cap, .slice z1.ra (Za z1.T.s.rel).length z1.rc, .int .i64 (z1.T.s.fresh + 1), .slice z1.ga (Za (z1.T.s.gen.drop 1)).length z1.gc, .slice z1.oa (Zc (z1.T.s.used.drop 1)).length z1.oc, .slice z1.va (Za (z1.T.vals.drop 1)).length z1.vc, .int .i64 z1.cap, .slice z1.pa (Zt z1.P).length z1.pc, .slice z1.ba (Zc z1.B).length z1.bc, .slice z1.la (ZI z1.LL).length z1.lc, .slice u (Zg hs).length d]) rfl rfl rfl 7 Z rfl rfl rfl rfl (Nat.le_of_ble_eq_true rfl) rfl Zy (fun w Z => ?_)
     replace Z := Z.n9 L (a7 := Ze p #[.pointer (some ⟨s, 0, none⟩), .int .i64 z1.cap, .int .i64 z1.T.s.cap, .slice z1.ra (Za z1.T.s.rel).length z1.rc, .int .i64 (z1.T.s.fresh + 1), .slice z1.ga (Za (z1.T.s.gen.drop 1)).length z1.gc, .slice z1.oa (Zc (z1.T.s.used.drop 1)).length z1.oc, .slice z1.va (Za (z1.T.vals.drop 1)).length z1.vc, .int .i64 z1.cap, .slice z1.pa (Zt z1.P).length z1.pc, .slice z1.ba (Zc z1.B).length z1.bc, .slice z1.la (ZI z1.LL).length z1.lc, .slice u (Zg hs).length d] 47) rfl
     refine WL.nil <| WC.seq <| WC.region <| WL.r 4 rfl <| WL.nil ?_
     as_aux_lemma =>
     refine WC.ret ?_
     refine ⟨[.bool (decide ((if V.T.s.opn y1 = true then 0 else 5) = (if z.T.s.opn y1 = true then 0 else 5)))], rfl, ?_⟩
     replace Z := (Z.sel 8 [7, 5, 2, 2, 1] rfl)
     exact ⟨_, _, _, _, _, _, congrArg Value.bool (by rw [htt]; simp), Z, hW1, hB.of (by omega) hus1 (by omega) hB.hr, hcp1⟩
    ·refine WC.seq <| WC.region <| WL.r 2 rfl <| WL.nil ?_
     as_aux_lemma =>
     refine WC.ifP rfl (fun cd5 => ?_) (fun cd5 => ?_)
     ·refine WC.seq <| WC.seq <| WC.region <| WL.r 2 rfl <| WL.nil <| WC.cut [0, 3, 4, 5, 6, 7, 8, 9, 10] (fun vs w => ∃ (rt : Int) (xe : Z2) (xa : Option Addr) (xc : Nat), vs = [.pointer (some ⟨p, 0, none⟩), .pointer (some ⟨b1, 0, none⟩), .bool false, .pointer (some ⟨a, 0, none⟩), .int .u64 y1, .int .u64 y2, .slice xa (Zq xe).length xc, .int .i64 (if z.T.s.opn y1 = true then 0 else 5), .int .u32 rt] ∧ St g (Zn Z6 [z] :: ZP s a V :: Sh 121 2 (Zq xe) xa xc :: Zf 23 1 (Zg hs) u d :: Ze b1 #[.int .i64 kd, .int .u64 ca, .int .u64 cb, .slice ea (Zq es).length ec, .bool rb] 51 :: Ze p #[.pointer (some ⟨s, 0, none⟩), .int .i64 z.cap, .int .i64 z.T.s.cap, .slice z.ra (Za z.T.s.rel).length z.rc, .int .i64 (z.T.s.fresh + 1), .slice z.ga (Za (z.T.s.gen.drop 1)).length z.gc, .slice z.oa (Zc (z.T.s.used.drop 1)).length z.oc, .slice z.va (Za (z.T.vals.drop 1)).length z.vc, .int .i64 z.cap, .slice z.pa (Zt z.P).length z.pc, .slice z.ba (Zc z.B).length z.bc, .slice z.la (ZI z.LL).length z.lc, .slice u (Zg hs).length d] 47 :: Zs a A :: Sh 121 2 (Zq es) ea ec :: L) w ∧ (rt = 0 ∨ (1 ≤ rt ∧ A.s.ok rt = true)) ∧ (xe.length ≤ 12 + n) ∧ (V.T.s.opn y1 = true → TrL A rt xe)) ?_ ?_
      ·refine WC.ifP rfl (fun cd6 => ?_) (fun cd6 => ?_)
       ·refine WC.region ?_
        replace Z : St g (Sh 121 2 (Zq []) none 0 :: Zn Z6 [z] :: ZP s a V :: Sh 121 2 (Zq x1.es) x1.a x1.c :: Zf 23 1 (Zg hs) u d :: Ze b1 #[.int .i64 kd, .int .u64 ca, .int .u64 cb, .slice ea (Zq es).length ec, .bool rb] 51 :: Ze p #[.pointer (some ⟨s, 0, none⟩), .int .i64 z.cap, .int .i64 z.T.s.cap, .slice z.ra (Za z.T.s.rel).length z.rc, .int .i64 (z.T.s.fresh + 1), .slice z.ga (Za (z.T.s.gen.drop 1)).length z.gc, .slice z.oa (Zc (z.T.s.used.drop 1)).length z.oc, .slice z.va (Za (z.T.vals.drop 1)).length z.vc, .int .i64 z.cap, .slice z.pa (Zt z.P).length z.pc, .slice z.ba (Zc z.B).length z.bc, .slice z.la (ZI z.LL).length z.lc, .slice u (Zg hs).length d] 47 :: Zs a A :: Sh 121 2 (Zq es) ea ec :: L) w := Z.nilS 121 2
        refine WL.r 2 rfl <| WL.nil ?_
        exact ⟨0, [], none, 0, rfl, (Z.sel 4 [1, 1, 0] rfl), (.inl rfl), (Nat.zero_le _), (fun h => absurd (if_pos (by rw [htt]; exact h)) cd6)⟩
       ·refine WC.skip ?_
        exact ⟨(if V.T.s.opn y1 = true then V.rootOf (V.T.val y1) else 0), x1.es, x1.a, x1.c, rfl, Z, (Zkn hW y1), (hl1), (fun h => by rw [if_pos h]; exact hl3 h)⟩
      clear Z; rintro _ w j ⟨rt, xe, xa, xc, rfl, Z, hro, hxe, hxt⟩
      refine WC.seq <| WC.region ?_
      have hre := AM.ret_eq hW.vi.ref hro (by simp; omega); have hrr := hW.vi.ref.okrng hro
      refine WL.r 2 rfl <| WL.call rfl rfl (Xp (i := rt) (hA := hW.vi.ref.toAWf) (hi := (by omega)) (Z := (Z.sel 7 [6, 0, 0, 0, 0, 0, 0] rfl))) rfl ?_
      clear Z; rintro _ w ⟨rfl, Z⟩
      replace Z := Z.n8 L (a0 := Zs a (A.ret rt)) rfl
      refine WL.r 2 rfl <| WL.reb 209 (.bool true) (congrArg Value.bool (decide_eq_true (hre.2))) <| WL.ung rfl rfl rfl <| WL.r 1 rfl <| WL.ung rfl rfl rfl <| WL.r 1 rfl <| WL.ung rfl rfl rfl <| WL.r 1 rfl <| WL.ung rfl rfl rfl <| WL.r 1 rfl <| WL.ung rfl rfl rfl <| WL.r 1 rfl ?_
      refine WL.ung rfl rfl rfl <| WL.lit rfl rfl (Zg [y1, y2]) el_45 Z (by exact ⟨rfl, rfl, rfl, rfl⟩) (YZ _) rfl (Nat.le_of_ble_eq_true rfl) (fun b2 w Z => ?_)
      refine WL.ung rfl rfl rfl ?_
      replace Z := (Z.at_ 0 rfl).share
      replace Z := Z.n9 L (a0 := Sh 23 1 (Zg [y1, y2]) (some ⟨b2, 0, none⟩) (Zg [y1, y2]).length) rfl
      refine WL.call rfl rfl (Zbn (A := A.ret rt) (z := z) (m := 12 + (n + 1)) (root := rt) (ps := [y1, y2]) (pa := some ⟨b2, 0, none⟩) (pc := List.length (Zg [y1, y2])) (hW := (hWu.rtn hro)) (hx := (by omega)) (ht := (fun h0 => (hxt ((Zeh h0).2.1 _ (by simp))).ret rt)) (hps := (Zme f1 f2)) (hpl := (by simp)) (hla := (by omega)) (hhs := hB.hr) (hhl := (by omega)) (Z := (Z.sel 8 [7, 5, 3, 1, 1, 1, 0, 0] rfl))) rfl ?_
      clear Z; rintro _ w ⟨V1, A1, z1, hs1, u1, d1, rfl, Z, f4, f5, f6⟩
      replace Z := Z.n7 L (a0 := Ze p #[.pointer (some ⟨s, 0, none⟩), .int .i64 z1.cap, .int .i64 z1.T.s.cap, .slice z1.ra (Za z1.T.s.rel).length z1.rc, .int .i64 (z1.T.s.fresh + 1), .slice z1.ga (Za (z1.T.s.gen.drop 1)).length z1.gc, .slice z1.oa (Zc (z1.T.s.used.drop 1)).length z1.oc, .slice z1.va (Za (z1.T.vals.drop 1)).length z1.vc, .int .i64 z1.cap, .slice z1.pa (Zt z1.P).length z1.pc, .slice z1.ba (Zc z1.B).length z1.bc, .slice z1.la (ZI z1.LL).length z1.lc, .slice u1 (Zg hs1).length d1] 47) (a1 := Zf 23 1 (Zg hs1) u1 d1) (a2 := ZP s a V1) (a3 := Zs a A1) (a4 := Zn Z6 [z1]) rfl
      refine WL.r 2 rfl <| WL.nil ?_
      as_aux_lemma =>
      refine WC.ret ?_
      refine ⟨[.bool true], rfl, ?_⟩
      replace Z := (Z.sel 6 [0, 0, 0, 0, 0] rfl)
      exact ⟨_, _, _, _, _, _, rfl, Z, f4, hB.of f5.1 (f5.2.2.trans (congrArg (fun q => List.length (SM.used q)) (A.ret_same rt).1)) f6.1 f6.2, f5.2.1⟩
     ·refine WC.skip <| WC.seq <| WC.seq <| WC.region <| WL.r 2 rfl <| WL.runG 6 [.slice ea (Zq es).length ec] rfl (by exact (fun _ => Z.ld 4 rfl rfl)) (fun j => ?_)
      refine WL.prop 225 rfl (bor (dd _) (dd _)) <| WL.nil <| WC.ifP rfl (fun he => ?_) (fun he => ?_)
      ·refine WC.seq <| WC.region <| WL.r 1 rfl <| WL.nil <| WC.ret ?_
       refine ⟨[.bool true], rfl, ?_⟩
       replace Z := (Z.sel 7 [5, 3, 1, 3, 0] rfl)
       exact ⟨V, A, z, hs, _, _, rfl, Z, hWu, hB.mono, rfl⟩
      ·refine WC.skip <| WC.seq <| WC.region ?_
       obtain ⟨e, hes⟩ : ∃ e, es[0]? = some e := ⟨_, List.getElem?_eq_getElem (by omega)⟩; have hop : V.T.s.opn y1 = true := (by have h9 := ya_0 (fun h => he (.inl h)); rw [htt] at h9; exact h9); obtain ⟨t, t1, t2, t3, t4⟩ := hl3 hop; have htn : t.n = x1.es.length := (by rw [← Tr.ls_len, t4]); have hmx := Tr.mxH_le (t.n + 1); have hroots : (List.map RN.root V.rs ++ []).length = V.rs.length := (by simp); have hins := Tr.ins_ls e.1 e.2 t t3; have hlen := Qy (k := e.1) (v := e.2) hl2; have hle : (YX e.1 e.2 x1.es).length ≤ x1.es.length + 1 := (by split at hlen <;> omega)
       refine WL.run 4 [.slice ea (Zq es).length ec] rfl (by exact Z.ld 4 rfl rfl) ?_
       refine WL.ix rfl rfl (i := 0) (0) el_49 rfl rfl (by omega) (by omega) (Z.rdS 7 rfl (ZC hes)).1 ?_
       refine WL.ldC rfl rfl [.int .i64 e.1, .int .i64 e.2] Zp rfl (Z.rdS 7 rfl (ZC hes)).2 <| WL.call rfl rfl (Zo9 (R := List.map RN.root V.rs ++ []) (i := if V.T.s.opn y1 = true then V.rootOf (V.T.val y1) else 0) (k := e.1) (z := e.2) (t := t) (hA := hW.vi.ref) (hi := (by rw [if_pos hop]; exact t1)) (hb := t2) (hn := (by omega)) (hf := (by omega)) (hz := (by omega)) (Z := (Z.sel 7 [6, 0, 0, 0, 0, 0, 0] rfl))) rfl ?_
       clear Z; rintro _ w ⟨A1, j1, rfl, Z, f4⟩
       replace Z := Z.n8 L (a0 := Zs a A1) rfl
       refine WL.r 9 rfl <| WL.nil <| WC.seq <| WC.region <| WL.r 3 rfl <| WL.reb 240 (.bool true) (congrArg Value.bool (decide_eq_true (by decide))) ?_
       refine WL.ung rfl rfl rfl <| WL.r 1 rfl <| WL.ung rfl rfl rfl <| WL.r 1 rfl <| WL.ung rfl rfl rfl <| WL.r 1 rfl <| WL.ung rfl rfl rfl <| WL.r 1 rfl <| WL.ung rfl rfl rfl <| WL.run 1 [.slice ea (Zq es).length ec] rfl (by exact Z.ld 5 rfl rfl) ?_
       refine WL.ung rfl rfl rfl <| WL.ix rfl rfl (i := 0) (0) el_49 rfl rfl (by omega) (by omega) (Z.rdS 7 rfl (ZC hes)).1 ?_
       refine WL.ung rfl rfl rfl <| WL.ldC rfl rfl [.int .i64 e.1, .int .i64 e.2] Zp rfl (Z.rdS 7 rfl (ZC hes)).2 <| WL.ung rfl rfl rfl <| WL.call rfl rfl (Zgs (l := x1.es) (u := x1.a) (d := x1.c) (k := e.1) (z := e.2) (hs := hl2) (hl := (by omega)) (Z := (Z.sel 4 [3, 0, 0, 0] rfl))) rfl ?_
       clear Z; rintro _ w ⟨a1, c1, rfl, Z⟩
       replace Z := Z.n9 L (a0 := Zf 121 2 (Zq (YX e.1 e.2 x1.es)) a1 c1) rfl
       refine WL.ung rfl rfl rfl <| WL.r 1 rfl <| WL.ung rfl rfl rfl <| WL.lit rfl rfl (Zg [y1]) el_45 Z (by exact ⟨rfl, rfl⟩) (YZ _) rfl (Nat.le_of_ble_eq_true rfl) (fun b2 w Z => ?_)
       refine WL.ung rfl rfl rfl ?_
       replace Z := (Z.at_ 1 rfl).share
       replace Z := Z.n10 L (a0 := Sh 121 2 (Zq (YX e.1 e.2 x1.es)) a1 c1) (a1 := Zf 23 1 (Zg [y1]) (some ⟨b2, 0, none⟩) (Zg [y1]).length) rfl
       replace Z := (Z.at_ 1 rfl).share
       replace Z := Z.n10 L (a0 := Sh 23 1 (Zg [y1]) (some ⟨b2, 0, none⟩) (Zg [y1]).length) rfl
       refine WL.call rfl rfl (Zbn (z := z) (m := 12 + (n + 1)) (root := j1) (xe := YX e.1 e.2 x1.es) (ps := [y1]) (pa := some ⟨b2, 0, none⟩) (pc := List.length (Zg [y1])) (hW := (hWu.one f4)) (hx := (by omega)) (ht := (fun _ => ⟨_, f4.is, Tr.ins_ok _ _ t t2, by rw [hins, t4]; exact QS hl2, by rw [hins, t4]⟩)) (hps := (fun q hq => by rw [List.mem_singleton.1 hq]; exact f1)) (hpl := (by simp)) (hla := (by omega)) (hhs := hB.hr) (hhl := (by omega)) (Z := (Z.sel 9 [8, 6, 5, 3, 3, 1, 0, 0, 0] rfl))) rfl ?_
       clear Z; rintro _ w ⟨V1, A2, z1, hs1, u1, d1, rfl, Z, f5, f6, f7⟩
       replace Z := Z.n8 L (a0 := Ze p #[.pointer (some ⟨s, 0, none⟩), .int .i64 z1.cap, .int .i64 z1.T.s.cap, .slice z1.ra (Za z1.T.s.rel).length z1.rc, .int .i64 (z1.T.s.fresh + 1), .slice z1.ga (Za (z1.T.s.gen.drop 1)).length z1.gc, .slice z1.oa (Zc (z1.T.s.used.drop 1)).length z1.oc, .slice z1.va (Za (z1.T.vals.drop 1)).length z1.vc, .int .i64 z1.cap, .slice z1.pa (Zt z1.P).length z1.pc, .slice z1.ba (Zc z1.B).length z1.bc, .slice z1.la (ZI z1.LL).length z1.lc, .slice u1 (Zg hs1).length d1] 47) (a1 := Zf 23 1 (Zg hs1) u1 d1) (a2 := ZP s a V1) (a3 := Zs a A2) (a4 := Zn Z6 [z1]) rfl
       refine WL.r 2 rfl <| WL.nil ?_
       as_aux_lemma =>
       refine WC.ret ?_
       refine ⟨[.bool true], rfl, ?_⟩
       replace Z := (Z.sel 7 [0, 0, 0, 0, 0] rfl)
       exact ⟨_, _, _, _, _, _, rfl, Z, f5, hB.of f6.1 (f6.2.2.trans f4.cap) f7.1 f7.2, f6.2.1⟩
end Go.Proofs.YtbeacjcmdijdmaaGreat
namespace Go.Proofs.YtbeacjcmdijdmaaGreat
open Go Go.V Go.RowKit Go.Maps
theorem rs_at {V : VM} {ss : List Int} (hp : ss.Perm (V.rs.map RN.n)) {k : Nat} {x : Int} (h : ss[k]? = some x) : ∃ (j : Nat) (r : RN), V.rs[j]? = some r ∧ r.n = x := by
 obtain ⟨r, hr, e⟩ := List.mem_map.1 (hp.mem_iff.1 (List.mem_of_getElem? h))
 obtain ⟨j, hj⟩ := List.mem_iff_getElem?.1 hr
 exact ⟨j, r, hj, e⟩
theorem Znk {g w : World} {L : List HP} (s a : Nat) (V : VM) (ss : List Int) (hk : KOk rK RN.n V.rs V.q2) (hp : ss.Perm (V.rs.map RN.n)) (hs : ss.Pairwise (· ≤ ·)) (hl : ss.length ≤ 100000) (Z : St g (ZP s a V :: L) w) :
  Sp Tryz.prog 19 [.pointer (some ⟨s, 0, none⟩)] w (fun v w' => ∃ (a2 : Option Addr) (c2 : Nat), v = .slice a2 (Za (ss.map V.rootOf)).length c2 ∧ St g (Zf 64 1 (Za (ss.map V.rootOf)) a2 c2 :: ZP s a V :: L) w') := by
 refine Sp.enter Tryz.func19 rfl (by kernel_rfl) (by kernel_rfl) ?_
 have _ := hl
 refine WC.seq <| WC.region <| WL.r 1 rfl <| WL.nil <| WC.seq <| WC.region <| WL.r 1 rfl <| WL.nil <| WC.seq <| WC.seq <| WC.region ?_
 have hsl := Zh ss
 refine WL.r 1 rfl <| WL.call rfl rfl (QV (ss := ss) (hk := hk) (hp := hp) (hs := hs) (Z := Z)) rfl ?_
 clear Z; rintro _ w ⟨a1, c1, rfl, Z⟩
 replace Z := Z.n2 L (a0 := Zf 3 1 (Zb ss) a1 c1) rfl
 refine WL.r 2 rfl <| WL.nil <| WC.block ?_
 replace Z := Z.nil_ 64 1
 refine WC.loop [0, 2, 3, 7, 8, 9] (fun kM vs w => ∃ (k : Nat) (acc : List Int) (u : Option Addr) (d : Nat), vs = [.pointer (some ⟨s, 0, none⟩), .slice none 0 0, .slice u (Za acc).length d, .slice a1 (Zb ss).length c1, .int .i64 (List.length (Zb ss) : Int), .int .i64 (k : Int)] ∧ St g (Zf 64 1 (Za acc) u d :: Zf 3 1 (Zb ss) a1 c1 :: ZP s a V :: L) w ∧ (k ≤ ss.length) ∧ (acc = (ss.take k).map V.rootOf) ∧ (ss.length - k) = kM) ((List.length ss) - 0) ⟨0, [], none, 0, rfl, Z, (Nat.zero_le _), (rfl), rfl⟩ ?_
 clear Z; rintro _ _ w j ⟨k, acc, u, d, rfl, Z, hkl, ha, rfl⟩
 refine WC.seq <| WC.region ?_
 have hsl := Zh ss
 refine WL.r 1 rfl <| WL.nil ?_
 as_aux_lemma =>
 refine WC.seq <| WC.ifP rfl (fun cd1 => ?_) (fun cd1 => ?_)
 ·refine WC.skip <| WC.seq <| WC.block <| WC.seq <| WC.region ?_
  obtain ⟨x, hx⟩ : ∃ x, ss[k]? = some x := ⟨_, List.getElem?_eq_getElem (by omega)⟩; obtain ⟨j, r, hr, hn⟩ := rs_at hp hx; have hul := Zk acc; have hml : acc.length = k := (by rw [ha, List.length_map, List.length_take]; omega)
  refine WL.ix rfl rfl (i := (k : Int)) (k) el_56 rfl rfl (by omega) (by omega) (Z.rdO 1 rfl (Zd hx)).1 ?_
  refine WL.run 2 [.int .i64 x] rfl (by exact (Z.rdO 1 rfl (Zd hx)).2 0 _ rfl) ?_
  refine WL.nil <| WC.region ?_
  obtain ⟨⟨vt, vp, vm, vr⟩, Z⟩ := St.exOpen (f := YE s a V) (Z.at_ 2 rfl)
  replace Z := Z.n8 L (a0 := Ze s #[.pointer (some ⟨a, 0, none⟩), .pointer (some ⟨vt, 0, none⟩), .pointer (some ⟨vp, 0, none⟩), .map (some vr), .int .i64 V.cap] 144) (a1 := Xw vt V.T) (a2 := Ze vp #[.int .i64 V.cap, .int .i64 V.last, .map (some vm)] 231) (a3 := Zx vm (.map (mE (List.map vK V.xs)) V.q)) (a4 := Zn vF V.xs) (a5 := Zx vr (.map (mE (List.map rK V.rs)) V.q2)) rfl
  refine WL.run 7 [.map (some vr)] rfl (by exact Z.ld 0 rfl rfl) ?_
  refine WL.lk rfl rfl QM 5 Z rfl rfl rfl (by first | trivial | rfl) (r := some (j, .int .u32 r.root)) (hn ▸ Zgl hk.key hk.uniq hr) rfl ?_
  refine WL.lit rfl rfl (Za [r.root]) el_32 Z (by exact ⟨rfl, rfl⟩) (Yn _) rfl (Nat.le_of_ble_eq_true rfl) (fun b1 w Z => ?_)
  refine WL.app rfl rfl 7 (Za (acc ++ [r.root])) el_32 Z rfl (Z.srcO 0 rfl) (Yg _ _).symm (Rm.of (by first | omega | (simp <;> omega)) (by decide)) rfl rfl (fun a2 c2 w Z => ?_)
  replace Z := Z.n9 L (a0 := Zf 64 1 (Za [r.root]) (some ⟨b1, 0, none⟩) (Za [r.root]).length) (a7 := Zf 64 1 (Za (acc ++ [r.root])) a2 c2) rfl
  refine WL.r 1 rfl <| WL.nil <| WC.region <| WL.r 1 rfl <| WL.nw 23 rfl (Zr (by omega)) ?_
  refine WL.r 1 rfl <| WL.nil ?_
  replace Z := St.exClose (f := YE s a V) (L := Zf 64 1 (Za [r.root]) (some ⟨b1, 0, none⟩) (Za [r.root]).length :: Zf 64 1 (Za (acc ++ [r.root])) a2 c2 :: Zf 3 1 (Zb ss) a1 c1 :: L) ⟨vt, vp, vm, vr⟩ ((Z.sel 7 [1, 1, 1, 1, 1, 1, 0] rfl))
  replace Z := Z.n4 L (a0 := ZP s a V) rfl
  exact ⟨_, by omega, k + 1, acc ++ [r.root], a2, c2, rfl, (Z.sel 4 [2, 2, 0] rfl), (by omega), (by rw [ha, List.take_add_one, hx, List.map_append, ← hn]; exact congrArg (fun q => _ ++ [q]) (VM.rootOf_at hk.uniq hr).symm), rfl⟩
 ·refine WC.exit <| WC.seq <| WC.region <| WL.r 2 rfl <| WL.nil <| WC.ret ?_
  refine ⟨[.slice u (Za acc).length d], rfl, ?_⟩
  replace Z := (Z.sel 2 [0] rfl)
  have e9 : k = ss.length := (by omega); subst e9; rw [List.take_length] at ha; subst ha; exact ⟨_, _, rfl, Z⟩
end Go.Proofs.YtbeacjcmdijdmaaGreat
namespace Go.V
open Go Go.RowKit
structure Vc where
 kd : Int
 ca : Int
 cb : Int
 es : Z2
 a : Option Addr
 c : Nat
 rb : Bool
def vcC (z : Vc) : List Value := [.int .i64 z.kd, .int .u64 z.ca, .int .u64 z.cb, .slice z.a (Zq z.es).length z.c, .bool z.rb]
def vcF (z : Vc) : List HP := [Sh 121 2 (Zq z.es) z.a z.c]
def enV (l : List Vc) : List (List Value) := l.map vcC
@[simp] theorem Zgh (l : List Vc) : (enV l).length = l.length := by simp [enV]
theorem Zk7 {l : List Vc} {k : Nat} {z : Vc} (h : l[k]? = some z) : (enV l)[k]? = some [.int .i64 z.kd, .int .u64 z.ca, .int .u64 z.cb, .slice z.a (Zq z.es).length z.c, .bool z.rb] := by simp [enV, h, vcC]
theorem Zot (l : List Vc) : OkE 5 (enV l) := fun x hx => by
 obtain ⟨y, _, rfl⟩ := List.mem_map.1 hx
 exact ⟨rfl, fun u hu => by simp [vcC] at hu; rcases hu with rfl | rfl | rfl | rfl | rfl <;> rfl⟩
structure VcOk (z : Vc) : Prop where
 kd : -9223372036854775808 ≤ z.kd ∧ z.kd ≤ 9223372036854775807
 ca : 0 ≤ z.ca ∧ z.ca ≤ 18446744073709551615
 cb : 0 ≤ z.cb ∧ z.cb ≤ 18446744073709551615
 es : z.es.length ≤ maxLen
end Go.V
namespace Go.Proofs.YtbeacjcmdijdmaaGreat
open Go Go.V Go.RowKit
theorem live_len (S : SM) : ((AM.mk S [] []).live.length) = (TM.handles ⟨S, []⟩).length := by
 unfold AM.live TM.handles
 rw [List.length_map, List.filter_map, List.length_map]; rfl
theorem Zmp {T : TM} (h : SOk T.s) : (T.handles.length : Int) = T.s.cap - T.s.free := by
 have h1 := AM.cnt_live (A := AM.mk T.s [] []) h
 rw [live_len] at h1
 have h2 : (AM.mk T.s [] []).s = T.s := rfl
 have h3 : TM.handles ⟨T.s, []⟩ = T.handles := rfl
 rw [h2, h3] at h1; omega
theorem Zn3 {T : TM} (h : TOk T) {x : Int} (hx : x ∈ T.handles) : T.s.opn x = true ∧ 0 ≤ x ∧ x ≤ 18446744073709551615 := by
 obtain ⟨i, hi, rfl⟩ := List.mem_map.1 hx
 obtain ⟨h1, h2⟩ := List.mem_filter.1 hi
 have h3 := h.s.gen_rng (i : Int)
 have h4 := SM.ok_rng h.s (i := (i : Int)) (by omega) h2
 have h5 := h.s.cap
 have h6 : T.s.cap = (T.s.used.length : Int) - 1 := rfl
 have e : T.s.hd (i : Int) % 4294967296 = (i : Int) := by unfold SM.hd; omega
 refine ⟨?_, by unfold SM.hd; omega, by unfold SM.hd; omega⟩
 unfold SM.opn
 rw [e, h2, decide_eq_true rfl]; rfl
theorem VI.none {V : VM} {A : AM} {R : List Int} (h : VI V A R) (hk : KO V.xs) (h0 : V.T.s.free = V.T.s.cap) : V.xs = [] ∧ V.rs = [] := by
 have hd : ∀ z, Zj V.xs z ≠ true := fun z hz => by
  obtain ⟨i, i0, i1, _⟩ := h.all z hz
  have h1 := AM.cnt_live (A := AM.mk V.T.s [] []) h.t.s
  have h2 : i ∈ (AM.mk V.T.s [] []).live := (AM.mem_live i).2 ⟨i0, i1⟩
  have h3 := List.length_pos_of_mem h2
  have h4 : (AM.mk V.T.s [] []).s = V.T.s := rfl
  rw [h4] at h1; omega
 have hp : ∀ z, ZF V.xs z ≠ true := fun z hz => by
  rcases hk z hz with h1 | ⟨_, x, _, h1, _⟩
  ·exact hd z h1
  ·exact hd x h1
 constructor
 ·cases e : V.xs with
  | nil => rfl
  | cons x xs => exact absurd (ZO.2 ⟨x, by rw [e]; simp, rfl⟩) (hp x.n)
 ·cases e : V.rs with
  | nil => rfl
  | cons r rs => exact absurd ((h.pre r.n).1 ⟨r, by rw [e]; simp, rfl⟩) (hp r.n)
theorem Zos {g w : World} {L : List HP} (cap : Int) (Z : St g (L) w) :
  Sp Tryz.prog 61 [.int .i64 cap] w (fun v w' => v = .agg #[.int .i64 cap, .slice none 0 0, .slice none 0 0] ∧ St g (L) w') := by
 refine Sp.enter Tryz.func61 rfl (by kernel_rfl) (by kernel_rfl) ?_
 refine WC.seq <| WC.region <| WL.new rfl rfl Zae Z (fun b1 w Z => ?_)
 refine WL.nil <| WC.seq <| WC.region <| WL.r 1 rfl <| WL.build rfl rfl (cs := [.int .i64 cap, .slice none 0 0, .slice none 0 0]) Zae rfl rfl <| WL.stF rfl rfl rfl 0 Z rfl rfl rfl rfl rfl Z4 (fun w Z => ?_)
 replace Z : St g (Ze b1 #[.int .i64 cap, .slice none 0 0, .slice none 0 0] 40 :: L) w := Z
 refine WL.nil <| WC.ret ?_
 refine ⟨[.agg #[.int .i64 cap, .slice none 0 0, .slice none 0 0]], ⟨⟨_, rfl, Z.lvF 0 rfl Z4⟩, trivial⟩, ?_⟩
 replace Z := (Z.sel 1 [] rfl)
 exact ⟨rfl, Z⟩
theorem Zqg {g w : World} {L : List HP} (n : Nat) (cz : Int) (hc : cz = (n : Int)) (hn : 1 ≤ n ∧ n ≤ 4096) (Z : St g (L) w) :
  Sp Tryz.prog 12 [.int .i64 cz] w (fun v w' => ∃ (z : RSt), v = .agg (rvA z) ∧ St g (Zn Z6 [z] :: L) w' ∧ (z.T = TM.new n ∧ z.cap = n ∧ z.P = [] ∧ z.B = [] ∧ z.LL = [])) := by
 refine Sp.enter Tryz.func12 rfl (by kernel_rfl) (by kernel_rfl) ?_
 refine WC.seq <| WC.region <| WL.new rfl rfl XE Z (fun b1 w Z => ?_)
 refine WL.nil <| WC.seq <| WC.region ?_
 subst hc
 refine WL.r 2 rfl <| WL.call rfl rfl (Zpw (n := n) (hn := hn) (Z := Z)) rfl ?_
 clear Z; rintro _ w ⟨ga1, oa1, va1, gc1, oc1, vc1, rfl, Z⟩
 replace Z : St g (Sh 64 1 (Za (TM.new n).s.rel) none 0 :: Sh 64 1 (Za ((TM.new n).s.gen.drop 1)) ga1 gc1 :: Sh 4 1 (Zc ((TM.new n).s.used.drop 1)) oa1 oc1 :: Sh 64 1 (Za ((TM.new n).vals.drop 1)) va1 vc1 :: Ze b1 #[.int .i64 0, .int .i64 0, .slice none 0 0, .int .i64 0, .slice none 0 0, .slice none 0 0, .slice none 0 0, .int .i64 0, .slice none 0 0, .slice none 0 0, .slice none 0 0] 43 :: L) w := Z
 refine WL.r 1 rfl <| WL.call rfl rfl (Zos (cap := (n : Int))  (Z := Z)) rfl ?_
 clear Z; rintro _ w ⟨rfl, Z⟩
 replace Z := Z.n5 L rfl
 refine WL.build rfl rfl (cs := [.int .i64 (n : Int), .int .i64 (TM.new n).s.cap, .slice none (Za (TM.new n).s.rel).length 0, .int .i64 ((TM.new n).s.fresh + 1), .slice ga1 (List.length (Za ((TM.new n).s.gen.drop 1))) gc1, .slice oa1 (List.length (Zc ((TM.new n).s.used.drop 1))) oc1, .slice va1 (List.length (Za ((TM.new n).vals.drop 1))) vc1, .int .i64 (n : Int), .slice none 0 0, .slice none 0 0, .slice none 0 0]) XE rfl rfl <| WL.stF rfl rfl rfl 4 Z rfl rfl rfl rfl rfl Zy (fun w Z => ?_)
 replace Z := Z.n5 L (a4 := Ze b1 #[.int .i64 (n : Int), .int .i64 (TM.new n).s.cap, .slice none (Za (TM.new n).s.rel).length 0, .int .i64 ((TM.new n).s.fresh + 1), .slice ga1 (List.length (Za ((TM.new n).s.gen.drop 1))) gc1, .slice oa1 (List.length (Zc ((TM.new n).s.used.drop 1))) oc1, .slice va1 (List.length (Za ((TM.new n).vals.drop 1))) vc1, .int .i64 (n : Int), .slice none 0 0, .slice none 0 0, .slice none 0 0] 43) rfl
 refine WL.nil <| WC.ret ?_
 refine ⟨[.agg #[.int .i64 (n : Int), .int .i64 (TM.new n).s.cap, .slice none (Za (TM.new n).s.rel).length 0, .int .i64 ((TM.new n).s.fresh + 1), .slice ga1 (List.length (Za ((TM.new n).s.gen.drop 1))) gc1, .slice oa1 (List.length (Zc ((TM.new n).s.used.drop 1))) oc1, .slice va1 (List.length (Za ((TM.new n).vals.drop 1))) vc1, .int .i64 (n : Int), .slice none 0 0, .slice none 0 0, .slice none 0 0]], ⟨⟨_, rfl, Z.lvF 4 rfl Zy⟩, trivial⟩, ?_⟩
 replace Z := ((((((Z.shsNil Jk).nilS 49 1).nilS 4 1).shsNil YO).nilS 56 1).rsPut (RSt.mk n (TM.new n) [] [] [] none ga1 oa1 va1 none none none 0 gc1 oc1 vc1 0 0 0) [5, 5, 5, 5, 0, 0, 0, 0, 0] rfl).sel 11 [0] rfl; exact ⟨_, rfl, Z, rfl, rfl, rfl, rfl, rfl⟩
theorem WR.new {n : Nat} (h1 : 1 ≤ n ∧ n ≤ 4096) {z : RSt} (hz : z.T = TM.new n ∧ z.cap = n ∧ z.P = [] ∧ z.B = [] ∧ z.LL = []) (m : Nat) : WR (VM.new n) (AM.new 2500) [] z m := by
 obtain ⟨e1, e2, e3, e4, e5⟩ := hz
 refine ⟨VI.new (by omega) h1, KO.nil, ?_, e1, e2, by rw [e5, e3]; rfl, fun _ hr => (by cases hr), fun _ hx => (by rw [e5] at hx; cases hx), (show (0 : Int) ≤ 800 by decide), Int.natCast_nonneg _⟩
 rw [e3, e4]; exact RA.nil
end Go.Proofs.YtbeacjcmdijdmaaGreat
namespace Go.V
open Go Go.RowKit
structure SlE where
 al : Bool
 cn : Int
 ge : Int
 nd : Nd
def slC (x : SlE) : List Value := [.bool x.al, .int .i64 x.cn, .int .u32 x.ge, .int .i64 x.nd.key, .int .i64 x.nd.val, .int .u32 x.nd.lf, .int .u32 x.nd.rg, .int .i64 x.nd.size, .int .i64 x.nd.sum, .int .i64 x.nd.mn, .int .i64 x.nd.mx]
def Zo (l : List SlE) : List (List Value) := l.map slC
@[simp] theorem Zbt (l : List SlE) : (Zo l).length = l.length := by simp [Zo]
theorem Yd {l : List SlE} {k : Nat} {x : SlE} (h : l[k]? = some x) : (Zo l)[k]? = some (slC x) := by simp [Zo, h]
theorem Zmu (l : List SlE) (k : Nat) (x : SlE) : (Zo l).set k (slC x) = Zo (l.set k x) := by simp [Zo, List.map_set]
def SlE.zero : SlE := ⟨false, 0, 0, Nd.zero⟩
def AM.cntD (A : AM) (i : Int) : Int := if A.s.ok i = true then A.cntOf i else 0
def AM.dmpAt (A : AM) (i : Int) : SlE := ⟨A.s.ok i, A.cntD i, A.s.genOf i, (A.nodes[i.toNat]?).getD Nd.zero⟩
def AM.dmp (A : AM) : List SlE := (List.range A.s.cap.toNat).map fun j : Nat => A.dmpAt ((j : Int) + 1)
def AM.dmpK (A : AM) (k : Nat) : List SlE := (List.range A.s.cap.toNat).map fun j : Nat => if j < k then A.dmpAt ((j : Int) + 1) else SlE.zero
theorem AM.dmp_len (A : AM) : A.dmp.length = A.s.cap.toNat := by simp [AM.dmp]
theorem AM.dmpK_len (A : AM) (k : Nat) : (A.dmpK k).length = A.s.cap.toNat := by simp [AM.dmpK]
theorem AM.dmpK_0 (A : AM) : Zo (A.dmpK 0) = List.replicate A.s.cap.toNat (slC SlE.zero) := by
 unfold AM.dmpK
 have : (List.range A.s.cap.toNat).map (fun j : Nat => if j < 0 then A.dmpAt ((j : Int) + 1) else SlE.zero) = List.replicate A.s.cap.toNat SlE.zero := by
  apply List.ext_getElem <;> simp
 rw [this]; simp [Zo]
theorem AM.dmpK_set (A : AM) {k : Nat} : (A.dmpK k).set k (A.dmpAt ((k : Int) + 1)) = A.dmpK (k + 1) := by
 apply List.ext_getElem?
 intro i
 rw [List.getElem?_set]
 unfold AM.dmpK
 rw [List.length_map, List.length_range, List.getElem?_map, List.getElem?_map]
 by_cases hi : i < A.s.cap.toNat
 ·rw [List.getElem?_range hi]
  by_cases hk : k = i
  ·subst hk; rw [if_pos rfl, if_pos hi]; simp
  ·rw [if_neg hk]
   simp only [Option.map_some]
   by_cases h2 : i < k
   ·rw [if_pos h2, if_pos (by omega)]
   ·rw [if_neg h2, if_neg (by omega)]
 ·have hn : (List.range A.s.cap.toNat)[i]? = none := List.getElem?_eq_none (by simp; omega)
  rw [hn]
  by_cases hk : k = i
  ·subst hk; rw [if_pos rfl, if_neg hi]; rfl
  ·rw [if_neg hk]; rfl
theorem AM.dmpK_end (A : AM) : A.dmpK A.s.cap.toNat = A.dmp := by
 unfold AM.dmpK AM.dmp
 refine List.map_congr_left fun j hj => ?_
 rw [if_pos (List.mem_range.1 hj)]
end Go.V
namespace Go.Proofs.YtbeacjcmdijdmaaGreat
open Go Go.V
theorem Zdq {g w : World} {L : List HP} (a p : Nat) (A : AM) (na : Option Addr) (nc : Nat) (ca : Option Addr) (cc : Nat) (rd : Int) (hA : AWf A) (Z : St g (Ze a #[.pointer (some ⟨p, 0, none⟩), .slice na (Yr A.nodes).length nc, .slice ca (Zb A.cnt).length cc, .int .u64 rd] 161 :: Yp p A.s :: Zf 172 8 (Yr A.nodes) na nc :: Zf 3 1 (Zb A.cnt) ca cc :: L) w) :
  Sp Tryz.prog 14 [.pointer (some ⟨a, 0, none⟩)] w (fun v w' => v = .int .i64 A.s.cap ∧ St g (Ze a #[.pointer (some ⟨p, 0, none⟩), .slice na (Yr A.nodes).length nc, .slice ca (Zb A.cnt).length cc, .int .u64 rd] 161 :: Yp p A.s :: Zf 172 8 (Yr A.nodes) na nc :: Zf 3 1 (Zb A.cnt) ca cc :: L) w') := by
 refine Sp.enter Tryz.func14 rfl (by kernel_rfl) (by kernel_rfl) ?_
 refine WC.seq <| WC.region ?_
 have hs := hA.s
 refine WL.r 1 rfl <| WL.nil <| WC.seq <| WC.region <| WL.run 4 [.pointer (some ⟨p, 0, none⟩)] rfl (by exact Z.ld 0 rfl rfl) ?_
 refine WL.call rfl rfl (Zek (S := A.s) (hl := hA.s.le) (Z := (Z.sel 2 [1, 0] rfl))) rfl ?_
 clear Z; rintro _ w ⟨rfl, Z⟩
 replace Z := Z.n4 L rfl
 refine WL.r 1 rfl <| WL.nil <| WC.ret ?_
 refine ⟨[.int .i64 A.s.cap], rfl, ?_⟩
 replace Z := (Z.sel 2 [1, 0] rfl)
 exact ⟨rfl, Z⟩
theorem Zig {g w : World} {L : List HP} (a p : Nat) (A : AM) (na : Option Addr) (nc : Nat) (ca : Option Addr) (cc : Nat) (rd : Int) (i : Int) (hA : AWf A) (hi : 0 ≤ i ∧ i < 4294967296) (Z : St g (Ze a #[.pointer (some ⟨p, 0, none⟩), .slice na (Yr A.nodes).length nc, .slice ca (Zb A.cnt).length cc, .int .u64 rd] 161 :: Yp p A.s :: Zf 172 8 (Yr A.nodes) na nc :: Zf 3 1 (Zb A.cnt) ca cc :: L) w) :
  Sp Tryz.prog 82 [.pointer (some ⟨a, 0, none⟩), .int .u32 i] w (fun v w' => v = .int .u32 (A.s.genOf i) ∧ St g (Ze a #[.pointer (some ⟨p, 0, none⟩), .slice na (Yr A.nodes).length nc, .slice ca (Zb A.cnt).length cc, .int .u64 rd] 161 :: Yp p A.s :: Zf 172 8 (Yr A.nodes) na nc :: Zf 3 1 (Zb A.cnt) ca cc :: L) w') := by
 refine Sp.enter Tryz.func82 rfl (by kernel_rfl) (by kernel_rfl) ?_
 have _ := hi
 refine WC.seq <| WC.region ?_
 have hs := hA.s
 refine WL.r 1 rfl <| WL.nil <| WC.seq <| WC.region <| WL.run 5 [.pointer (some ⟨p, 0, none⟩)] rfl (by exact Z.ld 0 rfl rfl) ?_
 refine WL.call rfl rfl (Zh3 (S := A.s) (i := i) (hl := (by first | assumption | exact SOk.gle (by assumption))) (hi := (by omega)) (Z := (Z.sel 2 [1, 0] rfl))) rfl ?_
 clear Z; rintro _ w ⟨rfl, Z⟩
 replace Z := Z.n4 L rfl
 refine WL.r 1 rfl <| WL.nil <| WC.ret ?_
 refine ⟨[.int .u32 (A.s.genOf i)], rfl, ?_⟩
 replace Z := (Z.sel 2 [1, 0] rfl)
 exact ⟨rfl, Z⟩
theorem Ze8 {g w : World} {L : List HP} (a p : Nat) (A : AM) (na : Option Addr) (nc : Nat) (ca : Option Addr) (cc : Nat) (rd : Int) (i : Int) (hA : AWf A) (hi : 0 ≤ i ∧ i < 4294967296) (Z : St g (Ze a #[.pointer (some ⟨p, 0, none⟩), .slice na (Yr A.nodes).length nc, .slice ca (Zb A.cnt).length cc, .int .u64 rd] 161 :: Yp p A.s :: Zf 172 8 (Yr A.nodes) na nc :: Zf 3 1 (Zb A.cnt) ca cc :: L) w) :
  Sp Tryz.prog 81 [.pointer (some ⟨a, 0, none⟩), .int .u32 i] w (fun v w' => v = .int .i64 (AM.cntD A i) ∧ St g (Ze a #[.pointer (some ⟨p, 0, none⟩), .slice na (Yr A.nodes).length nc, .slice ca (Zb A.cnt).length cc, .int .u64 rd] 161 :: Yp p A.s :: Zf 172 8 (Yr A.nodes) na nc :: Zf 3 1 (Zb A.cnt) ca cc :: L) w') := by
 refine Sp.enter Tryz.func81 rfl (by kernel_rfl) (by kernel_rfl) ?_
 refine WC.seq <| WC.region <| WL.r 1 rfl <| WL.nil <| WC.seq <| WC.seq <| WC.region ?_
 have hs := hA.s; have hle := hA.s.le; have hcl := hA.cl; have hil := Zh A.cnt
 refine WL.run 5 [.pointer (some ⟨p, 0, none⟩)] rfl (by exact Z.ld 0 rfl rfl) ?_
 refine WL.call rfl rfl (Jb (S := A.s) (i := i) (hl := hle) (hi := hi) (Z := (Z.sel 2 [1, 0] rfl))) rfl ?_
 clear Z; rintro _ w ⟨rfl, Z⟩
 replace Z := Z.n4 L rfl
 refine WL.r 1 rfl <| WL.nil <| WC.if_ rfl (fun hc => ?_) (fun hc => ?_)
 ·refine WC.seq <| WC.region <| WL.r 1 rfl <| WL.nil <| WC.ret ?_
  refine ⟨[.int .i64 0], rfl, ?_⟩
  replace Z := (Z.sel 2 [1, 0] rfl)
  exact ⟨by unfold AM.cntD; rw [if_neg (by simpa using hc)]; rfl, Z⟩
 ·refine WC.skip <| WC.seq <| WC.region <| WL.run 5 [.slice ca (Zb A.cnt).length cc] rfl (by exact Z.ld 1 rfl rfl) ?_
  have hr := SM.ok_rng hA.s hi.1 (by simpa using hc); obtain ⟨x, hx⟩ : ∃ x, A.cnt[i.toNat]? = some x := ⟨_, List.getElem?_eq_getElem (by omega)⟩
  refine WL.ix rfl rfl (i := i) (i.toNat) el_56 rfl rfl (by omega) (by omega) (Z.rdO 3 rfl (Zd hx)).1 ?_
  refine WL.run 2 [.int .i64 x] rfl (by exact (Z.rdO 3 rfl (Zd hx)).2 0 _ rfl) ?_
  refine WL.nil <| WC.ret ?_
  refine ⟨[.int .i64 x], rfl, ?_⟩
  replace Z := (Z.sel 2 [1, 0] rfl)
  exact ⟨by unfold AM.cntD AM.cntOf; rw [if_pos (by simpa using hc), hx]; rfl, Z⟩
end Go.Proofs.YtbeacjcmdijdmaaGreat
namespace Go.Proofs.YtbeacjcmdijdmaaGreat
open Go Go.V
theorem Zpy {A : AM} (h : AWf A) {k : Nat} (hk : (k : Int) < A.s.cap) : ∃ nd, A.nodes[k + 1]? = some nd ∧ (A.dmpAt ((k : Int) + 1)).nd = nd := by
 have hn := h.nl
 have hc : A.s.cap = (A.s.used.length : Int) - 1 := rfl
 have h1 : A.nodes[k + 1]? = some (A.nodes[k + 1]'(by omega)) := List.getElem?_eq_getElem (by omega)
 refine ⟨_, h1, ?_⟩
 show (A.nodes[((k : Int) + 1).toNat]?).getD Nd.zero = _
 rw [show ((k : Int) + 1).toNat = k + 1 by omega, h1]; rfl
theorem Zk1 (A : AM) : List.replicate A.s.cap.toNat [.bool false, .int .i64 0, .int .u32 0, .int .i64 0, .int .i64 0, .int .u32 0, .int .u32 0, .int .i64 0, .int .i64 0, .int .i64 0, .int .i64 0] = Zo (A.dmpK 0) := A.dmpK_0.symm
theorem Zo3 {A : AM} {k : Nat} {nd : Nd} (h : (A.dmpAt ((k : Int) + 1)).nd = nd) : (Zo (A.dmpK k)).set k [.bool (A.s.ok ((k : Int) + 1)), .int .i64 (A.cntD ((k : Int) + 1)), .int .u32 (A.s.genOf ((k : Int) + 1)), .int .i64 nd.key, .int .i64 nd.val, .int .u32 nd.lf, .int .u32 nd.rg, .int .i64 nd.size, .int .i64 nd.sum, .int .i64 nd.mn, .int .i64 nd.mx] = Zo (A.dmpK (k + 1)) := by
 subst h
 exact (Zmu (A.dmpK k) k (A.dmpAt ((k : Int) + 1))).trans (congrArg Zo A.dmpK_set)
set_option maxHeartbeats 2000000 in
theorem Qj {g w : World} {L : List HP} (a : Nat) (A : AM) (hA : AWf A) (Z : St g (Zs a A :: L) w) :
  Sp Tryz.prog 20 [.pointer (some ⟨a, 0, none⟩)] w (fun v w' => ∃ (a2 : Option Addr) (c2 : Nat) (a4 : Option Addr) (c4 : Nat), v = .agg #[.slice a2 (Zo (AM.dmp A)).length c2, .slice a4 (Za (SM.order A.s)).length c4] ∧ St g (Zf 174 11 (Zo (AM.dmp A)) a2 c2 :: Zf 64 1 (Za (SM.order A.s)) a4 c4 :: Zs a A :: L) w') := by
 refine Sp.enter Tryz.func20 rfl (by kernel_rfl) (by kernel_rfl) ?_
 refine WC.seq <| WC.region ?_
 obtain ⟨⟨xp, xna, xnc, xca, xcc, xrd⟩, Z⟩ := St.exOpen (f := Yz a A) Z
 replace Z : St g (Ze a #[.pointer (some ⟨xp, 0, none⟩), .slice xna (Yr A.nodes).length xnc, .slice xca (Zb A.cnt).length xcc, .int .u64 xrd] 161 :: Yp xp A.s :: Zf 172 8 (Yr A.nodes) xna xnc :: Zf 3 1 (Zb A.cnt) xca xcc :: L) w := Z
 have hs := hA.s; have hle := hA.s.le; have hcp : A.s.cap = (A.s.used.length : Int) - 1 := rfl; have hce := hA.s.cap
 refine WL.new rfl rfl Yk Z (fun b1 w Z => ?_)
 refine WL.nil <| WC.seq <| WC.cut [0, 2, 3] (fun vs w => ∃ (b : Nat) (ua : Option Addr) (ub : Option Addr) (ud : Nat), vs = [.pointer (some ⟨a, 0, none⟩), .pointer (some ⟨b1, 0, none⟩), .pointer (some ⟨b, 0, none⟩)] ∧ St g (Ze b #[.slice ua A.s.cap.toNat A.s.cap.toNat, .slice ub (Za (SM.order A.s)).length ud] 62 :: Zf 174 11 (List.replicate A.s.cap.toNat [.bool false, .int .i64 0, .int .u32 0, .int .i64 0, .int .i64 0, .int .u32 0, .int .u32 0, .int .i64 0, .int .i64 0, .int .i64 0, .int .i64 0]) ua A.s.cap.toNat :: Zf 64 1 (Za (SM.order A.s)) ub ud :: Ze b1 #[.slice none 0 0, .slice none 0 0] 62 :: Ze a #[.pointer (some ⟨xp, 0, none⟩), .slice xna (Yr A.nodes).length xnc, .slice xca (Zb A.cnt).length xcc, .int .u64 xrd] 161 :: Yp xp A.s :: Zf 172 8 (Yr A.nodes) xna xnc :: Zf 3 1 (Zb A.cnt) xca xcc :: L) w) ?_ ?_
 ·refine WC.tree (.two [0, 3, 4, 5, 6] 1 [3, 4, 5, 6] (.three [] 2 [3, 4, 5, 6] (.two [] 7 [] (.one [8] 9 [0, 3, 4, 5, 6, 8] (.one [] 10 [] .nil)) 9 [0, 3, 4, 5, 6] (.one [] 7 [] (.one [8] 10 [] .nil))) 7 [] (.two [] 2 [3, 4, 5, 6] (.one [8] 9 [0, 3, 4, 5, 6, 8] (.one [] 10 [] .nil)) 9 [0, 3, 4, 5, 6] (.one [] 2 [3, 4, 5, 6] (.one [8] 10 [] .nil))) 9 [0, 3, 4, 5, 6] (.two [] 2 [3, 4, 5, 6] (.one [] 7 [] (.one [8] 10 [] .nil)) 7 [] (.one [] 2 [3, 4, 5, 6] (.one [8] 10 [] .nil)))) 9 [0, 3, 4, 5, 6] (.one [] 1 [3, 4, 5, 6] (.two [] 2 [3, 4, 5, 6] (.one [] 7 [] (.one [8] 10 [] .nil)) 7 [] (.one [] 2 [3, 4, 5, 6] (.one [8] 10 [] .nil))))) (by kernel_rfl) (by kernel_rfl) ?_
  refine WQ.run 5 [.pointer (some ⟨xp, 0, none⟩)] rfl (by exact Z.ld 1 rfl rfl) ?_
  refine WQ.nil ?_
  intro m1
  replace Z := Z.drewN m1; generalize hwm1 : World.drewN _ _ = w at *; clear hwm1
  refine ⟨?_, ?_⟩
  ·refine WL.call rfl rfl (Zdq (A := A) (rd := xrd) (hA := hA) (Z := (Z.sel 5 [1, 1, 1, 1, 0] rfl))) rfl ?_
   clear Z; rintro _ w ⟨rfl, Z⟩
   replace Z := Z.n5 L (a4 := Ze b1 #[.slice none 0 0, .slice none 0 0] 62) rfl
   refine WL.nil ?_
   refine ⟨by exact ⟨RQ.pure rfl rfl rfl rfl, RQ.pure rfl rfl rfl rfl, RQ.pure rfl rfl rfl rfl, RQ.load rfl rfl rfl rfl (Z.ld 0 rfl rfl)⟩, ?_⟩
   refine WQ.nil ?_
   intro m2
   replace Z := Z.drewN m2; generalize hwm2 : World.drewN _ _ = w at *; clear hwm2
   refine ⟨?_, ?_, ?_⟩
   ·refine WL.make rfl rfl (v := A.s.cap) (v' := A.s.cap) (A.s.cap.toNat) (A.s.cap.toNat) el_60 Z rfl (by omega) rfl (by omega) (by omega) (Rm.of (by omega) (by decide)) (fun b2 w Z => ?_)
    replace Z := Z.n6 L (a0 := Zf 174 11 (List.replicate A.s.cap.toNat [.bool false, .int .i64 0, .int .u32 0, .int .i64 0, .int .i64 0, .int .u32 0, .int .u32 0, .int .i64 0, .int .i64 0, .int .i64 0, .int .i64 0]) (some ⟨b2, 0, none⟩) A.s.cap.toNat) rfl
    refine WL.nil ?_
    refine ⟨by exact ⟨RQ.pure rfl rfl rfl rfl, RQ.pure rfl rfl rfl rfl, RQ.pure rfl rfl rfl rfl, RQ.load rfl rfl rfl rfl (Z.ld 1 rfl rfl)⟩, ?_⟩
    refine WQ.nil ?_
    intro m3
    replace Z := Z.drewN m3; generalize hwm3 : World.drewN _ _ = w at *; clear hwm3
    refine ⟨?_, ?_⟩
    ·refine WL.call rfl rfl (Xe (S := A.s) (hO := hs) (Z := (Z.sel 3 [2, 0, 0] rfl))) rfl ?_
     clear Z; rintro _ w ⟨a1, c1, rfl, Z⟩
     replace Z := Z.n7 L (a0 := Zf 64 1 (Za (SM.order A.s)) a1 c1) rfl
     refine WL.nil ?_
     refine ⟨by exact trivial, ?_⟩
     refine WQ.build rfl rfl (cs := [.slice (some ⟨b2, 0, none⟩) A.s.cap.toNat A.s.cap.toNat, .slice a1 (Za (SM.order A.s)).length c1]) Yk rfl rfl <| WQ.nil ?_
     intro m4
     replace Z := Z.drewN m4; generalize hwm4 : World.drewN _ _ = w at *; clear hwm4
     refine WL.new rfl rfl Yk Z (fun b3 w Z => ?_)
     refine WL.nil ?_
     refine ⟨by exact ⟨RQ.pure rfl rfl rfl rfl, RQ.pure rfl rfl rfl rfl, RQ.pure rfl rfl rfl rfl, RQ.pure rfl rfl rfl rfl, RQ.load rfl rfl rfl rfl (Z.ld 4 rfl rfl), RQ.build rfl rfl (cs := [.slice (some ⟨b2, 0, none⟩) A.s.cap.toNat A.s.cap.toNat, .slice a1 (Za (SM.order A.s)).length c1]) Yk rfl rfl rfl rfl⟩, ?_⟩
     refine WQ.nil ?_
     intro m5
     replace Z := Z.drewN m5; generalize hwm5 : World.drewN _ _ = w at *; clear hwm5
     refine WL.stF rfl rfl rfl 0 Z rfl rfl rfl rfl rfl ZA (fun w Z => ?_)
     replace Z := Z.n8 L (a0 := Ze b3 #[.slice (some ⟨b2, 0, none⟩) A.s.cap.toNat A.s.cap.toNat, .slice a1 (Za (SM.order A.s)).length c1] 62) rfl
     refine WL.nil ?_
     refine ⟨by exact trivial, ?_⟩
     intro m6
     replace Z := Z.drewN m6; generalize hwm6 : World.drewN _ _ = w at *; clear hwm6
     exact ⟨b3, (some ⟨b2, 0, none⟩), a1, c1, rfl, (Z.sel 8 [0, 2, 0, 4, 1, 0, 0, 0] rfl)⟩
    ·refine WL.new rfl rfl Yk Z (fun b3 w Z => ?_)
     refine WL.nil ?_
     refine ⟨by exact ⟨RQ.pure rfl rfl rfl rfl, RQ.pure rfl rfl rfl rfl, RQ.pure rfl rfl rfl rfl, RQ.pure rfl rfl rfl rfl, RQ.load rfl rfl rfl rfl (Z.ld 2 rfl rfl)⟩, ?_⟩
     refine WQ.nil ?_
     intro m4
     replace Z := Z.drewN m4; generalize hwm4 : World.drewN _ _ = w at *; clear hwm4
     refine WL.call rfl rfl (Xe (S := A.s) (hO := hs) (Z := (Z.sel 4 [3, 0, 0, 0] rfl))) rfl ?_
     clear Z; rintro _ w ⟨a1, c1, rfl, Z⟩
     replace Z := Z.n8 L (a0 := Zf 64 1 (Za (SM.order A.s)) a1 c1) (a2 := Ze b3 #[.slice none 0 0, .slice none 0 0] 62) rfl
     refine WL.nil ?_
     refine ⟨by exact trivial, ?_⟩
     refine WQ.build rfl rfl (cs := [.slice (some ⟨b2, 0, none⟩) A.s.cap.toNat A.s.cap.toNat, .slice a1 (Za (SM.order A.s)).length c1]) Yk rfl rfl <| WQ.nil ?_
     intro m5
     replace Z := Z.drewN m5; generalize hwm5 : World.drewN _ _ = w at *; clear hwm5
     refine WL.stF rfl rfl rfl 2 Z rfl rfl rfl rfl rfl ZA (fun w Z => ?_)
     replace Z := Z.n8 L (a2 := Ze b3 #[.slice (some ⟨b2, 0, none⟩) A.s.cap.toNat A.s.cap.toNat, .slice a1 (Za (SM.order A.s)).length c1] 62) rfl
     refine WL.nil ?_
     refine ⟨by exact trivial, ?_⟩
     intro m6
     replace Z := Z.drewN m6; generalize hwm6 : World.drewN _ _ = w at *; clear hwm6
     exact ⟨b3, (some ⟨b2, 0, none⟩), a1, c1, rfl, (Z.sel 8 [2, 2, 0, 4, 1, 0, 0, 0] rfl)⟩
   ·refine WL.call rfl rfl (Xe (S := A.s) (hO := hs) (Z := (Z.sel 2 [1, 0] rfl))) rfl ?_
    clear Z; rintro _ w ⟨a1, c1, rfl, Z⟩
    replace Z := Z.n6 L (a0 := Zf 64 1 (Za (SM.order A.s)) a1 c1) rfl
    refine WL.nil ?_
    refine ⟨by exact trivial, ?_⟩
    refine WQ.nil ?_
    intro m3
    replace Z := Z.drewN m3; generalize hwm3 : World.drewN _ _ = w at *; clear hwm3
    refine ⟨?_, ?_⟩
    ·refine WL.make rfl rfl (v := A.s.cap) (v' := A.s.cap) (A.s.cap.toNat) (A.s.cap.toNat) el_60 Z rfl (by omega) rfl (by omega) (by omega) (Rm.of (by omega) (by decide)) (fun b2 w Z => ?_)
     replace Z := Z.n7 L (a0 := Zf 174 11 (List.replicate A.s.cap.toNat [.bool false, .int .i64 0, .int .u32 0, .int .i64 0, .int .i64 0, .int .u32 0, .int .u32 0, .int .i64 0, .int .i64 0, .int .i64 0, .int .i64 0]) (some ⟨b2, 0, none⟩) A.s.cap.toNat) rfl
     refine WL.nil ?_
     refine ⟨by exact ⟨RQ.pure rfl rfl rfl rfl, RQ.pure rfl rfl rfl rfl, RQ.pure rfl rfl rfl rfl, RQ.load rfl rfl rfl rfl (Z.ld 3 rfl rfl)⟩, ?_⟩
     refine WQ.build rfl rfl (cs := [.slice (some ⟨b2, 0, none⟩) A.s.cap.toNat A.s.cap.toNat, .slice a1 (Za (SM.order A.s)).length c1]) Yk rfl rfl <| WQ.nil ?_
     intro m4
     replace Z := Z.drewN m4; generalize hwm4 : World.drewN _ _ = w at *; clear hwm4
     refine WL.new rfl rfl Yk Z (fun b3 w Z => ?_)
     refine WL.nil ?_
     refine ⟨by exact ⟨RQ.pure rfl rfl rfl rfl, RQ.pure rfl rfl rfl rfl, RQ.pure rfl rfl rfl rfl, RQ.pure rfl rfl rfl rfl, RQ.load rfl rfl rfl rfl (Z.ld 4 rfl rfl), RQ.build rfl rfl (cs := [.slice (some ⟨b2, 0, none⟩) A.s.cap.toNat A.s.cap.toNat, .slice a1 (Za (SM.order A.s)).length c1]) Yk rfl rfl rfl rfl⟩, ?_⟩
     refine WQ.nil ?_
     intro m5
     replace Z := Z.drewN m5; generalize hwm5 : World.drewN _ _ = w at *; clear hwm5
     refine WL.stF rfl rfl rfl 0 Z rfl rfl rfl rfl rfl ZA (fun w Z => ?_)
     replace Z := Z.n8 L (a0 := Ze b3 #[.slice (some ⟨b2, 0, none⟩) A.s.cap.toNat A.s.cap.toNat, .slice a1 (Za (SM.order A.s)).length c1] 62) rfl
     refine WL.nil ?_
     refine ⟨by exact trivial, ?_⟩
     intro m6
     replace Z := Z.drewN m6; generalize hwm6 : World.drewN _ _ = w at *; clear hwm6
     exact ⟨b3, (some ⟨b2, 0, none⟩), a1, c1, rfl, (Z.sel 8 [0, 0, 0, 4, 1, 0, 0, 0] rfl)⟩
    ·refine WL.new rfl rfl Yk Z (fun b2 w Z => ?_)
     refine WL.nil ?_
     refine ⟨by exact ⟨RQ.pure rfl rfl rfl rfl, RQ.pure rfl rfl rfl rfl, RQ.pure rfl rfl rfl rfl, RQ.pure rfl rfl rfl rfl, RQ.load rfl rfl rfl rfl (Z.ld 3 rfl rfl)⟩, ?_⟩
     refine WQ.nil ?_
     intro m4
     replace Z := Z.drewN m4; generalize hwm4 : World.drewN _ _ = w at *; clear hwm4
     refine WL.make rfl rfl (v := A.s.cap) (v' := A.s.cap) (A.s.cap.toNat) (A.s.cap.toNat) el_60 Z rfl (by omega) rfl (by omega) (by omega) (Rm.of (by omega) (by decide)) (fun b3 w Z => ?_)
     replace Z := Z.n8 L (a0 := Zf 174 11 (List.replicate A.s.cap.toNat [.bool false, .int .i64 0, .int .u32 0, .int .i64 0, .int .i64 0, .int .u32 0, .int .u32 0, .int .i64 0, .int .i64 0, .int .i64 0, .int .i64 0]) (some ⟨b3, 0, none⟩) A.s.cap.toNat) (a1 := Ze b2 #[.slice none 0 0, .slice none 0 0] 62) rfl
     refine WL.nil ?_
     refine ⟨by exact ⟨RQ.pure rfl rfl rfl rfl, RQ.pure rfl rfl rfl rfl, RQ.pure rfl rfl rfl rfl, RQ.load rfl rfl rfl rfl (Z.ld 4 rfl rfl)⟩, ?_⟩
     refine WQ.build rfl rfl (cs := [.slice (some ⟨b3, 0, none⟩) A.s.cap.toNat A.s.cap.toNat, .slice a1 (Za (SM.order A.s)).length c1]) Yk rfl rfl <| WQ.nil ?_
     intro m5
     replace Z := Z.drewN m5; generalize hwm5 : World.drewN _ _ = w at *; clear hwm5
     refine WL.stF rfl rfl rfl 1 Z rfl rfl rfl rfl rfl ZA (fun w Z => ?_)
     replace Z := Z.n8 L (a1 := Ze b2 #[.slice (some ⟨b3, 0, none⟩) A.s.cap.toNat A.s.cap.toNat, .slice a1 (Za (SM.order A.s)).length c1] 62) rfl
     refine WL.nil ?_
     refine ⟨by exact trivial, ?_⟩
     intro m6
     replace Z := Z.drewN m6; generalize hwm6 : World.drewN _ _ = w at *; clear hwm6
     exact ⟨b2, (some ⟨b3, 0, none⟩), a1, c1, rfl, (Z.sel 8 [1, 0, 0, 4, 1, 0, 0, 0] rfl)⟩
   ·refine WL.new rfl rfl Yk Z (fun b2 w Z => ?_)
    refine WL.nil ?_
    refine ⟨by exact ⟨RQ.pure rfl rfl rfl rfl, RQ.pure rfl rfl rfl rfl, RQ.pure rfl rfl rfl rfl, RQ.pure rfl rfl rfl rfl, RQ.load rfl rfl rfl rfl (Z.ld 1 rfl rfl)⟩, ?_⟩
    refine WQ.nil ?_
    intro m3
    replace Z := Z.drewN m3; generalize hwm3 : World.drewN _ _ = w at *; clear hwm3
    refine ⟨?_, ?_⟩
    ·refine WL.make rfl rfl (v := A.s.cap) (v' := A.s.cap) (A.s.cap.toNat) (A.s.cap.toNat) el_60 Z rfl (by omega) rfl (by omega) (by omega) (Rm.of (by omega) (by decide)) (fun b3 w Z => ?_)
     replace Z := Z.n7 L (a0 := Zf 174 11 (List.replicate A.s.cap.toNat [.bool false, .int .i64 0, .int .u32 0, .int .i64 0, .int .i64 0, .int .u32 0, .int .u32 0, .int .i64 0, .int .i64 0, .int .i64 0, .int .i64 0]) (some ⟨b3, 0, none⟩) A.s.cap.toNat) (a1 := Ze b2 #[.slice none 0 0, .slice none 0 0] 62) rfl
     refine WL.nil ?_
     refine ⟨by exact ⟨RQ.pure rfl rfl rfl rfl, RQ.pure rfl rfl rfl rfl, RQ.pure rfl rfl rfl rfl, RQ.load rfl rfl rfl rfl (Z.ld 2 rfl rfl)⟩, ?_⟩
     refine WQ.nil ?_
     intro m4
     replace Z := Z.drewN m4; generalize hwm4 : World.drewN _ _ = w at *; clear hwm4
     refine WL.call rfl rfl (Xe (S := A.s) (hO := hs) (Z := (Z.sel 4 [3, 0, 0, 0] rfl))) rfl ?_
     clear Z; rintro _ w ⟨a1, c1, rfl, Z⟩
     replace Z := Z.n8 L (a0 := Zf 64 1 (Za (SM.order A.s)) a1 c1) rfl
     refine WL.nil ?_
     refine ⟨by exact trivial, ?_⟩
     refine WQ.build rfl rfl (cs := [.slice (some ⟨b3, 0, none⟩) A.s.cap.toNat A.s.cap.toNat, .slice a1 (Za (SM.order A.s)).length c1]) Yk rfl rfl <| WQ.nil ?_
     intro m5
     replace Z := Z.drewN m5; generalize hwm5 : World.drewN _ _ = w at *; clear hwm5
     refine WL.stF rfl rfl rfl 3 Z rfl rfl rfl rfl rfl ZA (fun w Z => ?_)
     replace Z := Z.n8 L (a3 := Ze b2 #[.slice (some ⟨b3, 0, none⟩) A.s.cap.toNat A.s.cap.toNat, .slice a1 (Za (SM.order A.s)).length c1] 62) rfl
     refine WL.nil ?_
     refine ⟨by exact trivial, ?_⟩
     intro m6
     replace Z := Z.drewN m6; generalize hwm6 : World.drewN _ _ = w at *; clear hwm6
     exact ⟨b2, (some ⟨b3, 0, none⟩), a1, c1, rfl, (Z.sel 8 [3, 2, 0, 4, 1, 0, 0, 0] rfl)⟩
    ·refine WL.call rfl rfl (Xe (S := A.s) (hO := hs) (Z := (Z.sel 3 [2, 0, 0] rfl))) rfl ?_
     clear Z; rintro _ w ⟨a1, c1, rfl, Z⟩
     replace Z := Z.n7 L (a0 := Zf 64 1 (Za (SM.order A.s)) a1 c1) (a2 := Ze b2 #[.slice none 0 0, .slice none 0 0] 62) rfl
     refine WL.nil ?_
     refine ⟨by exact trivial, ?_⟩
     refine WQ.nil ?_
     intro m4
     replace Z := Z.drewN m4; generalize hwm4 : World.drewN _ _ = w at *; clear hwm4
     refine WL.make rfl rfl (v := A.s.cap) (v' := A.s.cap) (A.s.cap.toNat) (A.s.cap.toNat) el_60 Z rfl (by omega) rfl (by omega) (by omega) (Rm.of (by omega) (by decide)) (fun b3 w Z => ?_)
     replace Z := Z.n8 L (a0 := Zf 174 11 (List.replicate A.s.cap.toNat [.bool false, .int .i64 0, .int .u32 0, .int .i64 0, .int .i64 0, .int .u32 0, .int .u32 0, .int .i64 0, .int .i64 0, .int .i64 0, .int .i64 0]) (some ⟨b3, 0, none⟩) A.s.cap.toNat) rfl
     refine WL.nil ?_
     refine ⟨by exact ⟨RQ.pure rfl rfl rfl rfl, RQ.pure rfl rfl rfl rfl, RQ.pure rfl rfl rfl rfl, RQ.load rfl rfl rfl rfl (Z.ld 4 rfl rfl)⟩, ?_⟩
     refine WQ.build rfl rfl (cs := [.slice (some ⟨b3, 0, none⟩) A.s.cap.toNat A.s.cap.toNat, .slice a1 (Za (SM.order A.s)).length c1]) Yk rfl rfl <| WQ.nil ?_
     intro m5
     replace Z := Z.drewN m5; generalize hwm5 : World.drewN _ _ = w at *; clear hwm5
     refine WL.stF rfl rfl rfl 3 Z rfl rfl rfl rfl rfl ZA (fun w Z => ?_)
     replace Z := Z.n8 L (a3 := Ze b2 #[.slice (some ⟨b3, 0, none⟩) A.s.cap.toNat A.s.cap.toNat, .slice a1 (Za (SM.order A.s)).length c1] 62) rfl
     refine WL.nil ?_
     refine ⟨by exact trivial, ?_⟩
     intro m6
     replace Z := Z.drewN m6; generalize hwm6 : World.drewN _ _ = w at *; clear hwm6
     exact ⟨b2, (some ⟨b3, 0, none⟩), a1, c1, rfl, (Z.sel 8 [3, 0, 0, 4, 1, 0, 0, 0] rfl)⟩
  ·refine WL.new rfl rfl Yk Z (fun b2 w Z => ?_)
   refine WL.nil ?_
   refine ⟨by exact ⟨RQ.pure rfl rfl rfl rfl, RQ.pure rfl rfl rfl rfl, RQ.pure rfl rfl rfl rfl, RQ.pure rfl rfl rfl rfl, RQ.load rfl rfl rfl rfl (Z.ld 2 rfl rfl)⟩, ?_⟩
   refine WQ.nil ?_
   intro m2
   replace Z := Z.drewN m2; generalize hwm2 : World.drewN _ _ = w at *; clear hwm2
   refine WL.call rfl rfl (Zdq (A := A) (rd := xrd) (hA := hA) (Z := (Z.sel 6 [2, 2, 2, 2, 0, 0] rfl))) rfl ?_
   clear Z; rintro _ w ⟨rfl, Z⟩
   replace Z := Z.n6 L (a4 := Ze b2 #[.slice none 0 0, .slice none 0 0] 62) (a5 := Ze b1 #[.slice none 0 0, .slice none 0 0] 62) rfl
   refine WL.nil ?_
   refine ⟨by exact ⟨RQ.pure rfl rfl rfl rfl, RQ.pure rfl rfl rfl rfl, RQ.pure rfl rfl rfl rfl, RQ.load rfl rfl rfl rfl (Z.ld 0 rfl rfl)⟩, ?_⟩
   refine WQ.nil ?_
   intro m3
   replace Z := Z.drewN m3; generalize hwm3 : World.drewN _ _ = w at *; clear hwm3
   refine ⟨?_, ?_⟩
   ·refine WL.make rfl rfl (v := A.s.cap) (v' := A.s.cap) (A.s.cap.toNat) (A.s.cap.toNat) el_60 Z rfl (by omega) rfl (by omega) (by omega) (Rm.of (by omega) (by decide)) (fun b3 w Z => ?_)
    replace Z := Z.n7 L (a0 := Zf 174 11 (List.replicate A.s.cap.toNat [.bool false, .int .i64 0, .int .u32 0, .int .i64 0, .int .i64 0, .int .u32 0, .int .u32 0, .int .i64 0, .int .i64 0, .int .i64 0, .int .i64 0]) (some ⟨b3, 0, none⟩) A.s.cap.toNat) rfl
    refine WL.nil ?_
    refine ⟨by exact ⟨RQ.pure rfl rfl rfl rfl, RQ.pure rfl rfl rfl rfl, RQ.pure rfl rfl rfl rfl, RQ.load rfl rfl rfl rfl (Z.ld 1 rfl rfl)⟩, ?_⟩
    refine WQ.nil ?_
    intro m4
    replace Z := Z.drewN m4; generalize hwm4 : World.drewN _ _ = w at *; clear hwm4
    refine WL.call rfl rfl (Xe (S := A.s) (hO := hs) (Z := (Z.sel 3 [2, 0, 0] rfl))) rfl ?_
    clear Z; rintro _ w ⟨a1, c1, rfl, Z⟩
    replace Z := Z.n8 L (a0 := Zf 64 1 (Za (SM.order A.s)) a1 c1) rfl
    refine WL.nil ?_
    refine ⟨by exact trivial, ?_⟩
    refine WQ.build rfl rfl (cs := [.slice (some ⟨b3, 0, none⟩) A.s.cap.toNat A.s.cap.toNat, .slice a1 (Za (SM.order A.s)).length c1]) Yk rfl rfl <| WQ.nil ?_
    intro m5
    replace Z := Z.drewN m5; generalize hwm5 : World.drewN _ _ = w at *; clear hwm5
    refine WL.stF rfl rfl rfl 6 Z rfl rfl rfl rfl rfl ZA (fun w Z => ?_)
    replace Z := Z.n8 L (a6 := Ze b2 #[.slice (some ⟨b3, 0, none⟩) A.s.cap.toNat A.s.cap.toNat, .slice a1 (Za (SM.order A.s)).length c1] 62) rfl
    refine WL.nil ?_
    refine ⟨by exact trivial, ?_⟩
    intro m6
    replace Z := Z.drewN m6; generalize hwm6 : World.drewN _ _ = w at *; clear hwm6
    exact ⟨b2, (some ⟨b3, 0, none⟩), a1, c1, rfl, (Z.sel 8 [6, 2, 0, 4, 1, 0, 0, 0] rfl)⟩
   ·refine WL.call rfl rfl (Xe (S := A.s) (hO := hs) (Z := (Z.sel 2 [1, 0] rfl))) rfl ?_
    clear Z; rintro _ w ⟨a1, c1, rfl, Z⟩
    replace Z := Z.n7 L (a0 := Zf 64 1 (Za (SM.order A.s)) a1 c1) rfl
    refine WL.nil ?_
    refine ⟨by exact trivial, ?_⟩
    refine WQ.nil ?_
    intro m4
    replace Z := Z.drewN m4; generalize hwm4 : World.drewN _ _ = w at *; clear hwm4
    refine WL.make rfl rfl (v := A.s.cap) (v' := A.s.cap) (A.s.cap.toNat) (A.s.cap.toNat) el_60 Z rfl (by omega) rfl (by omega) (by omega) (Rm.of (by omega) (by decide)) (fun b3 w Z => ?_)
    replace Z := Z.n8 L (a0 := Zf 174 11 (List.replicate A.s.cap.toNat [.bool false, .int .i64 0, .int .u32 0, .int .i64 0, .int .i64 0, .int .u32 0, .int .u32 0, .int .i64 0, .int .i64 0, .int .i64 0, .int .i64 0]) (some ⟨b3, 0, none⟩) A.s.cap.toNat) rfl
    refine WL.nil ?_
    refine ⟨by exact ⟨RQ.pure rfl rfl rfl rfl, RQ.pure rfl rfl rfl rfl, RQ.pure rfl rfl rfl rfl, RQ.load rfl rfl rfl rfl (Z.ld 3 rfl rfl)⟩, ?_⟩
    refine WQ.build rfl rfl (cs := [.slice (some ⟨b3, 0, none⟩) A.s.cap.toNat A.s.cap.toNat, .slice a1 (Za (SM.order A.s)).length c1]) Yk rfl rfl <| WQ.nil ?_
    intro m5
    replace Z := Z.drewN m5; generalize hwm5 : World.drewN _ _ = w at *; clear hwm5
    refine WL.stF rfl rfl rfl 6 Z rfl rfl rfl rfl rfl ZA (fun w Z => ?_)
    replace Z := Z.n8 L (a6 := Ze b2 #[.slice (some ⟨b3, 0, none⟩) A.s.cap.toNat A.s.cap.toNat, .slice a1 (Za (SM.order A.s)).length c1] 62) rfl
    refine WL.nil ?_
    refine ⟨by exact trivial, ?_⟩
    intro m6
    replace Z := Z.drewN m6; generalize hwm6 : World.drewN _ _ = w at *; clear hwm6
    exact ⟨b2, (some ⟨b3, 0, none⟩), a1, c1, rfl, (Z.sel 8 [6, 0, 0, 4, 1, 0, 0, 0] rfl)⟩
 clear Z; rintro _ w j ⟨b, ua, ub, ud, rfl, Z⟩
 refine WC.seq <| WC.seq <| WC.region ?_
 rw [Zk1] at Z
 refine WL.run 4 [.slice ua A.s.cap.toNat A.s.cap.toNat] rfl (by exact Z.ld 0 rfl rfl) ?_
 refine WL.nil <| WC.block <| WC.loop [0, 2, 3, 17, 18] (fun kM vs w => ∃ (k : Nat), vs = [.pointer (some ⟨a, 0, none⟩), .pointer (some ⟨b1, 0, none⟩), .pointer (some ⟨b, 0, none⟩), .int .i64 (A.s.cap.toNat : Int), .int .i64 (k : Int)] ∧ St g (Ze b #[.slice ua A.s.cap.toNat A.s.cap.toNat, .slice ub (Za (SM.order A.s)).length ud] 62 :: Zf 174 11 (Zo (AM.dmpK A k)) ua A.s.cap.toNat :: Zf 64 1 (Za (SM.order A.s)) ub ud :: Ze b1 #[.slice none 0 0, .slice none 0 0] 62 :: Ze a #[.pointer (some ⟨xp, 0, none⟩), .slice xna (Yr A.nodes).length xnc, .slice xca (Zb A.cnt).length xcc, .int .u64 xrd] 161 :: Yp xp A.s :: Zf 172 8 (Yr A.nodes) xna xnc :: Zf 3 1 (Zb A.cnt) xca xcc :: L) w ∧ (k ≤ A.s.cap.toNat) ∧ (A.s.cap.toNat - k) = kM) (A.s.cap.toNat - 0) ⟨0, rfl, Z, (Nat.zero_le _), rfl⟩ ?_
 clear Z; rintro _ _ w j ⟨k, rfl, Z, hk, rfl⟩
 refine WC.seq <| WC.region <| WL.r 1 rfl <| WL.nil <| WC.seq <| WC.ifP rfl (fun cd1 => ?_) (fun cd1 => ?_)
 ·refine WC.skip ?_
  as_aux_lemma =>
  refine WC.seq <| WC.block <| WC.seq <| WC.region <| WL.r 2 rfl <| WL.nil <| WC.seq <| WC.region ?_
  obtain ⟨nd, hnd, hne⟩ := Zpy hA (k := k) (by omega); have hnl := YM A.nodes; have hnn := hA.nl; have hkl := AM.dmpK_len A k; have hsl := Zbt (AM.dmpK A k); obtain ⟨z, hz⟩ : ∃ z, (AM.dmpK A k)[k]? = some z := ⟨_, List.getElem?_eq_getElem (by omega)⟩
  refine WL.r 2 rfl <| WL.nw 22 rfl (Zr (by omega)) ?_
  refine WL.r 1 rfl <| WL.nw 23 rfl (Yq (by omega)) ?_
  refine WL.r 1 rfl <| WL.nil <| WC.plan [([0, 2, 3, 7, 9, 10, 12, 13, 15, 19, 1, 4, 16, 5, 17, 6, 18, 20, 21], some (8, [0, 1, 2, 9, 10, 12, 13, 15, 16, 17, 18, 19, 20, 21])), ([], some (11, [0, 1, 2, 12, 13, 15, 16, 17, 18, 19, 20, 21])), ([], some (14, [0, 1, 2, 15, 16, 17, 18, 19, 20, 21])), ([22, 23], some (24, []))] (by kernel_rfl) (by kernel_rfl) ?_
  refine WQ.run 17 [.slice ua A.s.cap.toNat A.s.cap.toNat, .pointer (some ⟨xp, 0, none⟩), .slice xna (Yr A.nodes).length xnc] rfl (by exact ⟨Z.ld 0 rfl rfl, Z.ld 4 rfl rfl, Z.ld 4 rfl rfl⟩) ?_
  refine WQ.ix rfl rfl (i := (k : Int) + 1) (k + 1) el_159 rfl rfl (by omega) (by omega) (Z.rdO 6 rfl (ZW hnd)).1 ?_
  refine WQ.ldC rfl rfl [.int .i64 nd.key, .int .i64 nd.val, .int .u32 nd.lf, .int .u32 nd.rg, .int .i64 nd.size, .int .i64 nd.sum, .int .i64 nd.mn, .int .i64 nd.mx] ZY rfl (Z.rdO 6 rfl (ZW hnd)).2 <| WQ.nil ?_
  intro m1
  replace Z := Z.drewN m1; generalize hwm1 : World.drewN _ _ = w at *; clear hwm1
  refine WL.call rfl rfl (Jb (S := A.s) (i := (k : Int) + 1) (hl := hle) (hi := (by omega)) (Z := (Z.sel 6 [5, 0, 0, 0, 0, 0] rfl))) rfl ?_
  clear Z; rintro _ w ⟨rfl, Z⟩
  replace Z := Z.n8 L rfl
  refine WL.nil ?_
  refine ⟨by exact ⟨RQ.pure rfl rfl rfl rfl, RQ.load rfl rfl rfl rfl (Z.ld 1 rfl rfl), RQ.pure rfl rfl rfl rfl, RQ.pure rfl rfl rfl rfl, RQ.pure rfl rfl rfl rfl, RQ.pure rfl rfl rfl rfl, RQ.pure rfl rfl rfl rfl, RQ.pure rfl rfl rfl rfl, RQ.pure rfl rfl rfl rfl, RQ.pure rfl rfl rfl rfl, RQ.load rfl rfl rfl rfl (Z.ld 5 rfl rfl), RQ.pure rfl rfl rfl rfl, RQ.ix rfl rfl (i := (k : Int) + 1) (k + 1) el_159 rfl rfl (by omega) (by omega) (Z.rdO 6 rfl (ZW hnd)).1 rfl rfl, RQ.ldC rfl rfl [.int .i64 nd.key, .int .i64 nd.val, .int .u32 nd.lf, .int .u32 nd.rg, .int .i64 nd.size, .int .i64 nd.sum, .int .i64 nd.mn, .int .i64 nd.mx] ZY rfl (Z.rdO 6 rfl (ZW hnd)).2 rfl rfl⟩, ?_⟩
  refine WQ.nil ?_
  intro m2
  replace Z := Z.drewN m2; generalize hwm2 : World.drewN _ _ = w at *; clear hwm2
  refine WL.call rfl rfl (Ze8 (A := A) (rd := xrd) (i := (k : Int) + 1) (hA := hA) (hi := (by omega)) (Z := (Z.sel 8 [5, 0, 4, 4, 0, 0, 0, 0] rfl))) rfl ?_
  clear Z; rintro _ w ⟨rfl, Z⟩
  replace Z := Z.n8 L rfl
  refine WL.nil ?_
  refine ⟨by exact ⟨RQ.pure rfl rfl rfl rfl, RQ.load rfl rfl rfl rfl (Z.ld 4 rfl rfl), RQ.pure rfl rfl rfl rfl, RQ.pure rfl rfl rfl rfl, RQ.pure rfl rfl rfl rfl, RQ.pure rfl rfl rfl rfl, RQ.pure rfl rfl rfl rfl, RQ.pure rfl rfl rfl rfl, RQ.load rfl rfl rfl rfl (Z.ld 0 rfl rfl), RQ.pure rfl rfl rfl rfl, RQ.ix rfl rfl (i := (k : Int) + 1) (k + 1) el_159 rfl rfl (by omega) (by omega) (Z.rdO 2 rfl (ZW hnd)).1 rfl rfl, RQ.ldC rfl rfl [.int .i64 nd.key, .int .i64 nd.val, .int .u32 nd.lf, .int .u32 nd.rg, .int .i64 nd.size, .int .i64 nd.sum, .int .i64 nd.mn, .int .i64 nd.mx] ZY rfl (Z.rdO 2 rfl (ZW hnd)).2 rfl rfl⟩, ?_⟩
  refine WQ.nil ?_
  intro m3
  replace Z := Z.drewN m3; generalize hwm3 : World.drewN _ _ = w at *; clear hwm3
  refine WL.call rfl rfl (Zig (A := A) (rd := xrd) (i := (k : Int) + 1) (hA := hA) (hi := (by omega)) (Z := Z)) rfl ?_
  clear Z; rintro _ w ⟨rfl, Z⟩
  replace Z := Z.n8 L rfl
  refine WL.nil ?_
  refine ⟨by exact ⟨RQ.pure rfl rfl rfl rfl, RQ.load rfl rfl rfl rfl (Z.ld 4 rfl rfl), RQ.pure rfl rfl rfl rfl, RQ.pure rfl rfl rfl rfl, RQ.pure rfl rfl rfl rfl, RQ.pure rfl rfl rfl rfl, RQ.load rfl rfl rfl rfl (Z.ld 0 rfl rfl), RQ.pure rfl rfl rfl rfl, RQ.ix rfl rfl (i := (k : Int) + 1) (k + 1) el_159 rfl rfl (by omega) (by omega) (Z.rdO 2 rfl (ZW hnd)).1 rfl rfl, RQ.ldC rfl rfl [.int .i64 nd.key, .int .i64 nd.val, .int .u32 nd.lf, .int .u32 nd.rg, .int .i64 nd.size, .int .i64 nd.sum, .int .i64 nd.mn, .int .i64 nd.mx] ZY rfl (Z.rdO 2 rfl (ZW hnd)).2 rfl rfl⟩, ?_⟩
  refine WQ.build rfl rfl (cs := [.bool (A.s.ok ((k : Int) + 1)), .int .i64 (AM.cntD A ((k : Int) + 1)), .int .u32 (A.s.genOf ((k : Int) + 1)), .int .i64 nd.key, .int .i64 nd.val, .int .u32 nd.lf, .int .u32 nd.rg, .int .i64 nd.size, .int .i64 nd.sum, .int .i64 nd.mn, .int .i64 nd.mx]) Zka rfl rfl <| WQ.ix rfl rfl (i := (k : Int)) (k) el_60 rfl rfl (by omega) (by omega) (Z.rdO 5 rfl (Yd hz)).1 ?_
  refine WQ.nil ?_
  intro m4
  replace Z := Z.drewN m4; generalize hwm4 : World.drewN _ _ = w at *; clear hwm4
  refine WL.stS rfl rfl rfl 5 (k) [.bool z.al, .int .i64 z.cn, .int .u32 z.ge, .int .i64 z.nd.key, .int .i64 z.nd.val, .int .u32 z.nd.lf, .int .u32 z.nd.rg, .int .i64 z.nd.size, .int .i64 z.nd.sum, .int .i64 z.nd.mn, .int .i64 z.nd.mx] (Zo (AM.dmpK A (k + 1))) Z rfl (Yd hz) rfl rfl rfl rfl Jn (Zo3 hne) (fun w Z => ?_)
  replace Z := Z.n8 L (a5 := Zf 174 11 (Zo (AM.dmpK A (k + 1))) ua A.s.cap.toNat) rfl
  refine WL.nil ?_
  refine ⟨by exact trivial, ?_⟩
  intro m5
  replace Z := Z.drewN m5; generalize hwm5 : World.drewN _ _ = w at *; clear hwm5
  as_aux_lemma =>
  refine WC.region <| WL.r 1 rfl <| WL.nw 48 rfl (Zr (by omega)) ?_
  refine WL.r 1 rfl <| WL.nil ?_
  exact ⟨_, by omega, k + 1, rfl, (Z.sel 8 [4, 4, 4, 4, 0, 0, 0, 0] rfl), (by omega), rfl⟩
 ·refine WC.exit ?_
  as_aux_lemma =>
  refine WC.seq <| WC.region <| WL.ldF rfl rfl 0 Z rfl rfl ZA <| WL.stF rfl rfl rfl 3 Z rfl rfl rfl rfl rfl ZA (fun w Z => ?_)
  replace Z := Z.n8 L (a3 := Ze b1 #[.slice ua A.s.cap.toNat A.s.cap.toNat, .slice ub (Za (SM.order A.s)).length ud] 62) rfl
  refine WL.nil <| WC.ret ?_
  replace Z := St.exClose (f := Yz a A) (L := Ze b #[.slice ua A.s.cap.toNat A.s.cap.toNat, .slice ub (Za (SM.order A.s)).length ud] 62 :: Zf 174 11 (Zo (AM.dmpK A k)) ua A.s.cap.toNat :: Zf 64 1 (Za (SM.order A.s)) ub ud :: Ze b1 #[.slice ua A.s.cap.toNat A.s.cap.toNat, .slice ub (Za (SM.order A.s)).length ud] 62 :: L) ⟨xp, xna, xnc, xca, xcc, xrd⟩ ((Z.sel 8 [4, 4, 4, 4, 0, 0, 0, 0] rfl))
  replace Z := Z.n5 L (a0 := Zs a A) rfl
  refine ⟨[.agg #[.slice ua A.s.cap.toNat A.s.cap.toNat, .slice ub (Za (SM.order A.s)).length ud]], ⟨⟨_, rfl, Z.lvF 4 rfl ZA⟩, trivial⟩, ?_⟩
  replace Z := (Z.sel 5 [2, 2, 0] rfl)
  have hke : k = A.s.cap.toNat := (by omega); subst hke; rw [AM.dmpK_end] at Z; exact ⟨_, _, _, _, by rw [Zbt, AM.dmp_len]; rfl, Z⟩
end Go.Proofs.YtbeacjcmdijdmaaGreat
namespace Go.V
open Go Go.RowKit
def Zw (l : List Int) (n : Nat) : List Int := (List.range n).map fun j : Nat => ((l.count ((j : Int) + 1) : Nat) : Int)
theorem YB (l : List Int) (n : Nat) : (Zw l n).length = n := by simp [Zw]
theorem Zp7 (n : Nat) : Zw [] n = List.replicate n 0 := by
 apply List.ext_getElem <;> simp [Zw]
theorem YK {l : List Int} {n k : Nat} (h : k < n) : (Zw l n)[k]? = some ((l.count ((k : Int) + 1) : Nat) : Int) := by
 simp [Zw, List.getElem?_map, List.getElem?_range h]
theorem Zgb {l : List Int} {n : Nat} {c : Int} (h : 1 ≤ c ∧ c ≤ n) : (Zw l n).set (c - 1).toNat (((l.count c : Nat) : Int) + 1) = Zw (l ++ [c]) n := by
 apply List.ext_getElem?
 intro i
 rw [List.getElem?_set, YB]
 by_cases hi : i < n
 ·rw [YK hi, YK hi, List.count_append, List.count_singleton]
  by_cases e : (c - 1).toNat = i
  ·rw [if_pos e, if_pos (by omega), show (i : Int) + 1 = c by omega]; simp
  ·rw [if_neg e]
   have hne : ¬ c = (i : Int) + 1 := by omega
   simp [hne]
 ·have hn : ∀ q, (Zw q n)[i]? = none := fun q => List.getElem?_eq_none (by rw [YB]; omega)
  rw [hn, hn, if_neg (by omega)]
theorem Zcv {l : List Int} {n : Nat} {c : Int} (h : ¬ (1 ≤ c ∧ c ≤ n)) : Zw (l ++ [c]) n = Zw l n := by
 unfold Zw
 refine List.map_congr_left fun j hj => ?_
 have hj2 := List.mem_range.1 hj
 rw [List.count_append, List.count_singleton]
 have hne : ¬ c = (j : Int) + 1 := by omega
 simp [hne]
def AM.edK (A : AM) (k : Nat) : List Int := (List.range k).flatMap fun i : Nat => if A.s.ok ((i : Int) + 1) = true then [(A.nd ((i : Int) + 1)).lf, (A.nd ((i : Int) + 1)).rg] else []
theorem AM.edK_in {A : AM} {k : Nat} (h : A.s.ok ((k : Int) + 1) = true) : A.edK (k + 1) = A.edK k ++ [(A.nd ((k : Int) + 1)).lf] ++ [(A.nd ((k : Int) + 1)).rg] := by
 unfold AM.edK
 rw [List.range_succ, List.flatMap_append, List.flatMap_singleton, if_pos h, List.append_assoc]; rfl
theorem AM.edK_out {A : AM} {k : Nat} (h : ¬ A.s.ok ((k : Int) + 1) = true) : A.edK (k + 1) = A.edK k := by
 unfold AM.edK
 rw [List.range_succ, List.flatMap_append, List.flatMap_singleton, if_neg h, List.append_nil]
theorem AM.edK_kids {A : AM} (h : SOk A.s) : A.edK A.s.cap.toNat = A.kids := by
 have hc : A.s.cap = (A.s.used.length : Int) - 1 := rfl
 have hl := h.cap
 have e1 : A.s.used.length = A.s.cap.toNat + 1 := by omega
 unfold AM.edK AM.kids AM.live
 rw [e1, List.range_succ_eq_map, List.map_cons, List.filter_cons, if_neg (by rw [show ((0 : Nat) : Int) = 0 from rfl, h.u0]; decide), List.map_map]
 generalize List.range A.s.cap.toNat = l
 induction l with
 | nil => rfl
 | cons i l ih =>
  rw [List.flatMap_cons, List.map_cons, List.filter_cons, ih]
  simp only [Function.comp, Nat.succ_eq_add_one, Int.natCast_add, Int.cast_ofNat_Int]
  by_cases h1 : A.s.ok ((i : Int) + 1) = true
  ·rw [if_pos h1, if_pos h1, List.flatMap_cons]
  ·rw [if_neg h1, if_neg h1]; rfl
theorem AM.dmp_at {A : AM} {k : Nat} (h : k < A.s.cap.toNat) : A.dmp[k]? = some (A.dmpAt ((k : Int) + 1)) := by
 simp [AM.dmp, List.getElem?_map, List.getElem?_range h]
structure MkI (A : AM) (R : List Int) (bs : List Bool) (ws : List Int) : Prop where
 len : bs.length = A.s.cap.toNat
 root : ∀ r ∈ R, r ≠ 0 → A.s.ok r = true → bs[(r - 1).toNat]? = some true ∨ r ∈ ws
 kid : ∀ j : Int, 1 ≤ j → A.s.ok j = true → bs[(j - 1).toNat]? = some true → ∀ c, c = (A.nd j).lf ∨ c = (A.nd j).rg → c ≠ 0 → bs[(c - 1).toNat]? = some true ∨ c ∈ ws
 rng : ∀ x ∈ ws, 0 ≤ x ∧ x ≤ 4294967295
theorem MkI.init {A : AM} {R : List Int} (hr : ∀ r ∈ R, 0 ≤ r ∧ r ≤ 4294967295) : MkI A R (List.replicate A.s.cap.toNat false) R :=
 ⟨List.length_replicate, fun r hr _ _ => .inr hr, fun j _ _ hb => absurd (List.eq_of_mem_replicate (List.mem_of_getElem? hb)) (by decide), hr⟩
theorem MkI.skip {A : AM} {R ws : List Int} {bs : List Bool} {i : Int} (h : MkI A R bs (ws ++ [i])) (hi : ¬ A.s.ok i = true ∨ bs[(i - 1).toNat]? = some true) (hA : ARf A R) : MkI A R bs ws := by
 refine ⟨h.len, fun r hr hne hok => ?_, fun j h1 h2 hb c hc hne => ?_, fun x hx => h.rng x (List.mem_append_left _ hx)⟩
 ·rcases h.root r hr hne hok with h3 | h3
  ·exact .inl h3
  ·rcases List.mem_append.1 h3 with h3 | h3
   ·exact .inr h3
   ·have e := List.mem_singleton.1 h3
    subst e
    exact .inl (hi.resolve_left fun h4 => h4 hok)
 ·rcases h.kid j h1 h2 hb c hc hne with h3 | h3
  ·exact .inl h3
  ·rcases List.mem_append.1 h3 with h3 | h3
   ·exact .inr h3
   ·have e := List.mem_singleton.1 h3
    subst e
    have hok := ((hA.kid j h2 (by omega) c hc).resolve_left hne).2
    exact .inl (hi.resolve_left fun h4 => h4 hok)
theorem MkI.mark {A : AM} {R ws : List Int} {bs : List Bool} {i : Int} (h : MkI A R bs (ws ++ [i])) (h1 : 1 ≤ i) (hi : i ≤ A.s.cap) (hk : (0 ≤ (A.nd i).lf ∧ (A.nd i).lf ≤ 4294967295) ∧ 0 ≤ (A.nd i).rg ∧ (A.nd i).rg ≤ 4294967295) : MkI A R (bs.set (i - 1).toNat true) (ws ++ [(A.nd i).lf, (A.nd i).rg]) := by
 have hl := h.len
 have hset : ∀ j : Int, bs[(j - 1).toNat]? = some true → (bs.set (i - 1).toNat true)[(j - 1).toNat]? = some true := fun j hj => by
  rw [List.getElem?_set]
  split
  ·rw [if_pos (by omega)]
  ·exact hj
 have hthis : (bs.set (i - 1).toNat true)[(i - 1).toNat]? = some true := by
  rw [List.getElem?_set, if_pos rfl, if_pos (by omega)]
 refine ⟨by rw [List.length_set]; exact hl, fun r hr hne hok => ?_, fun j j1 j2 hb c hc hne => ?_, fun x hx => ?_⟩
 ·rcases h.root r hr hne hok with h3 | h3
  ·exact .inl (hset r h3)
  ·rcases List.mem_append.1 h3 with h3 | h3
   ·exact .inr (List.mem_append_left _ h3)
   ·rw [List.mem_singleton.1 h3]; exact .inl hthis
 ·by_cases e : j = i
  ·subst e
   refine .inr (List.mem_append_right _ ?_)
   rcases hc with rfl | rfl <;> simp
  ·have hb2 : bs[(j - 1).toNat]? = some true := by
    rw [List.getElem?_set, if_neg (by omega)] at hb; exact hb
   rcases h.kid j j1 j2 hb2 c hc hne with h3 | h3
   ·exact .inl (hset c h3)
   ·rcases List.mem_append.1 h3 with h3 | h3
    ·exact .inr (List.mem_append_left _ h3)
    ·rw [List.mem_singleton.1 h3]; exact .inl hthis
 ·rcases List.mem_append.1 hx with hx | hx
  ·exact h.rng x (List.mem_append_left _ hx)
  ·simp only [List.mem_cons, List.not_mem_nil, or_false] at hx
   rcases hx with rfl | rfl
   ·exact hk.1
   ·exact hk.2
theorem MkI.all {A : AM} {R : List Int} {bs : List Bool} (h : MkI A R bs []) (hA : ARf A R) : ∀ j, 1 ≤ j → A.s.ok j = true → bs[(j - 1).toNat]? = some true :=
 Zlb hA (fun j => bs[(j - 1).toNat]? = some true) (fun r hr hne => by
  have hok := ((hA.ref r hr).resolve_left hne).2
  exact (h.root r hr hne hok).resolve_right fun h3 => by cases h3) (fun j h1 h2 hb c hc hne => (h.kid j h1 h2 hb c hc hne).resolve_right fun h3 => by cases h3)
def unm (bs : List Bool) : Nat := bs.countP fun b => !b
theorem Zmh {bs : List Bool} {k : Nat} (h : bs[k]? = some false) : unm (bs.set k true) + 1 = unm bs := by
 unfold unm
 induction bs generalizing k with
 | nil => cases h
 | cons b bs ih =>
  cases k with
  | zero =>
   have e : b = false := by simpa using h
   subst e; simp
  | succ k =>
   have := ih (k := k) (by simpa using h)
   simp only [List.set_cons_succ, List.countP_cons]; omega
end Go.V
namespace Go.Proofs.YtbeacjcmdijdmaaGreat
open Go Go.V Go.RowKit
theorem Zm0 (S : SM) (k : Nat) : (Ja S k).Nodup := by
 unfold Ja
 exact List.pairwise_map.2 (List.nodup_range.imp fun {a b} h e => h (by omega))
theorem Zdh {S : SM} (h : SOk S) {j : Int} (h1 : 1 ≤ j) (h2 : j ≤ S.cap) : (SM.order S).count j = if S.ok j = true then 0 else 1 := by
 have hfr := h.fr
 have hU : j ∈ Ja S (S.cap - S.fresh).toNat ↔ S.fresh < j := by
  unfold Ja
  rw [List.mem_map]
  constructor
  ·rintro ⟨i, hi, e⟩; omega
  ·intro hlt
   exact ⟨(j - S.fresh - 1).toNat, List.mem_range.2 (by omega), by omega⟩
 have hcU := (Zm0 S (S.cap - S.fresh).toNat).count (a := j)
 have hcR := h.nd.count (a := j)
 unfold SM.order
 rw [List.count_append, List.count_reverse, hcU, hcR]
 by_cases hok : S.ok j = true
 ·rw [if_pos hok]
  have n1 : ¬ j ∈ S.rel := fun hm => by have := (h.rm j hm).2.2; rw [hok] at this; cases this
  have n2 : ¬ j ∈ Ja S (S.cap - S.fresh).toNat := fun hm => by have := h.hi j (hU.1 hm); rw [hok] at this; cases this
  rw [if_neg n1, if_neg n2]
 ·rw [if_neg hok]
  by_cases hlt : S.fresh < j
  ·have n1 : ¬ j ∈ S.rel := fun hm => by have := (h.rm j hm).2.1; omega
   rw [if_neg n1, if_pos (hU.2 hlt)]
  ·have n1 := h.cov j h1 (by omega) (Bool.eq_false_iff.2 hok)
   rw [if_pos n1, if_neg fun hm => hlt (hU.1 hm)]
theorem Zha {S : SM} (h : SOk S) : ∀ j ∈ SM.order S, 1 ≤ j ∧ j ≤ S.cap := fun j hj => by
 have hfr := h.fr
 rcases List.mem_append.1 hj with hj | hj
 ·have := h.rm j (List.mem_reverse.1 hj); omega
 ·obtain ⟨i, hi, e⟩ := List.mem_map.1 hj
  have := List.mem_range.1 hi
  omega
theorem Zac (A : AM) : (Zo (AM.dmp A)).length = A.s.cap.toNat := by rw [Zbt, AM.dmp_len]
theorem Yj {A : AM} {R : List Int} (h : ARf A R) : 1 ≤ A.s.cap ∧ A.s.cap ≤ 65536 := by
 have h1 := h.s.cap
 have h2 : A.s.cap = (A.s.used.length : Int) - 1 := rfl
 omega
theorem XQ {g w : World} {L : List HP} (A : AM) (R : List Int) (da fa : Option Addr) (dc fc : Nat) (i : Int) (hA : ARf A R) (hi : 0 ≤ i ∧ i ≤ 4294967295) (Z : St g (Sh 174 11 (Zo (AM.dmp A)) da dc :: L) w) :
  Sp Tryz.prog 151 [.agg #[.slice da (Zo (AM.dmp A)).length dc, .slice fa (Za (SM.order A.s)).length fc], .int .u32 i] w (fun v w' => ∃ (b : Bool), v = .bool b ∧ St g (Sh 174 11 (Zo (AM.dmp A)) da dc :: L) w' ∧ (b = A.s.ok i)) := by
 refine Sp.enter Tryz.func151 rfl (by kernel_rfl) (by kernel_rfl) ?_
 refine WC.seq <| WC.region <| WL.box rfl rfl #[.slice da (Zo (AM.dmp A)).length dc, .slice fa (Za (SM.order A.s)).length fc] Z rfl rfl (fun b1 w Z => ?_)
 refine WL.r 1 rfl <| WL.nil <| WC.seq <| WC.region ?_
 have hn := Zac A; have hcr := Yj hA; have hfr := hA.s.fr; have hcp : A.s.cap = (A.s.used.length : Int) - 1 := rfl
 refine WL.r 3 rfl ?_
 by_cases cg1 : 1 ≤ i
 ·refine WL.reb 7 (.bool true) (congrArg Value.bool (decide_eq_true cg1)) <| WL.ung rfl rfl rfl <| WL.r 1 rfl <| WL.ung rfl rfl rfl <| WL.r 1 rfl <| WL.nw 9 rfl (Xg (by omega)) ?_
  refine WL.ung rfl rfl rfl <| WL.r 1 rfl <| WL.ung rfl rfl rfl <| WL.run 1 [.slice da (Zo (AM.dmp A)).length dc] rfl (by exact Z.ld 0 rfl rfl) ?_
  refine WL.ung rfl rfl rfl <| WL.r 1 rfl <| WL.ung rfl rfl rfl <| WL.r 1 rfl <| WL.nw 13 rfl (Xg (by omega)) ?_
  refine WL.ung rfl rfl rfl <| WL.r 3 rfl ?_
  by_cases cg2 : i ≤ (List.length (Zo (AM.dmp A)) : Int)
  ·refine WL.reb 16 (.bool true) (congrArg Value.bool (decide_eq_true cg2)) <| WL.ung rfl rfl rfl <| WL.r 1 rfl <| WL.ung rfl rfl rfl <| WL.run 1 [.slice da (Zo (AM.dmp A)).length dc] rfl (by exact Z.ld 0 rfl rfl) ?_
   refine WL.ung rfl rfl rfl <| WL.r 1 rfl <| WL.ung rfl rfl rfl <| WL.r 1 rfl <| WL.nw 20 rfl (Yq (by omega)) ?_
   refine WL.ung rfl rfl rfl <| WL.ix rfl rfl (i := i - 1) (i.toNat - 1) el_60 rfl rfl (by omega) (by omega) (Z.rdS 1 rfl (Yd (AM.dmp_at (A := A) (k := i.toNat - 1) (by omega)))).1 ?_
   refine WL.ung rfl rfl rfl <| WL.r 1 rfl <| WL.ung rfl rfl rfl <| WL.run 3 [.bool (A.dmpAt (((i.toNat - 1 : Nat) : Int) + 1)).al] rfl (by exact (Z.rdS 1 rfl (Yd (AM.dmp_at (A := A) (k := i.toNat - 1) (by omega)))).2 0 _ rfl) ?_
   refine WL.nil ?_
   as_aux_lemma =>
   refine WC.ret ?_
   refine ⟨[.bool (A.dmpAt (((i.toNat - 1 : Nat) : Int) + 1)).al], rfl, ?_⟩
   replace Z := (Z.sel 1 [] rfl)
   exact ⟨_, rfl, Z, by show A.s.ok (((i.toNat - 1 : Nat) : Int) + 1) = _; rw [show ((i.toNat - 1 : Nat) : Int) + 1 = i by omega]⟩
  ·refine WL.reb 16 (.bool false) (congrArg Value.bool (decide_eq_false cg2)) <| WL.skp rfl rfl rfl rfl <| WL.skp rfl rfl rfl rfl <| WL.skp rfl rfl rfl rfl <| WL.skp rfl rfl rfl rfl <| WL.skp rfl rfl rfl rfl <| WL.skp rfl rfl rfl rfl <| WL.skp rfl rfl rfl rfl <| WL.r 2 rfl <| WL.nil ?_
   as_aux_lemma =>
   refine WC.ret ?_
   refine ⟨[.bool false], rfl, ?_⟩
   replace Z := (Z.sel 1 [] rfl)
   exact ⟨false, rfl, Z, by have h9 : ¬ A.s.ok i = true := fun e => cg2 (by have := (SM.ok_rng hA.s (i := i) hi.1 e).2.1; omega); exact (Bool.eq_false_iff.2 h9).symm⟩
 ·refine WL.reb 7 (.bool false) (congrArg Value.bool (decide_eq_false cg1)) <| WL.skp rfl rfl rfl rfl <| WL.skp rfl rfl rfl rfl <| WL.skp rfl rfl rfl rfl <| WL.skp rfl rfl rfl rfl <| WL.skp rfl rfl rfl rfl <| WL.skp rfl rfl rfl rfl <| WL.skp rfl rfl rfl rfl <| WL.r 2 rfl <| WL.skp rfl rfl rfl rfl <| WL.skp rfl rfl rfl rfl <| WL.skp rfl rfl rfl rfl ?_
  refine WL.skp rfl rfl rfl rfl <| WL.skp rfl rfl rfl rfl <| WL.skp rfl rfl rfl rfl <| WL.skp rfl rfl rfl rfl <| WL.r 2 rfl <| WL.nil ?_
  as_aux_lemma =>
  refine WC.ret ?_
  refine ⟨[.bool false], rfl, ?_⟩
  replace Z := (Z.sel 1 [] rfl)
  exact ⟨false, rfl, Z, by rw [show i = 0 by omega]; exact hA.s.u0.symm⟩
theorem Zb1 {g w : World} {L : List HP} (x : SlE) (Z : St g (L) w) :
  Sp Tryz.prog 217 [.agg #[.bool x.al, .int .i64 x.cn, .int .u32 x.ge, .int .i64 x.nd.key, .int .i64 x.nd.val, .int .u32 x.nd.lf, .int .u32 x.nd.rg, .int .i64 x.nd.size, .int .i64 x.nd.sum, .int .i64 x.nd.mn, .int .i64 x.nd.mx]] w (fun v w' => v = .agg #[.int .u32 x.nd.lf, .int .u32 x.nd.rg] ∧ St g (L) w') := by
 refine Sp.enter Tryz.func217 rfl (by kernel_rfl) (by kernel_rfl) ?_
 refine WC.seq <| WC.region <| WL.box rfl rfl #[.bool x.al, .int .i64 x.cn, .int .u32 x.ge, .int .i64 x.nd.key, .int .i64 x.nd.val, .int .u32 x.nd.lf, .int .u32 x.nd.rg, .int .i64 x.nd.size, .int .i64 x.nd.sum, .int .i64 x.nd.mn, .int .i64 x.nd.mx] Z rfl rfl (fun b1 w Z => ?_)
 refine WL.new rfl rfl JX Z (fun b2 w Z => ?_)
 refine WL.nil <| WC.seq <| WC.region <| WL.run 6 [.int .u32 x.nd.lf, .int .u32 x.nd.rg] rfl (by exact ⟨Z.ld 1 rfl rfl, Z.ld 1 rfl rfl⟩) ?_
 refine WL.buildA rfl rfl (cs := [.int .u32 x.nd.lf, .int .u32 x.nd.rg]) Zfr JX rfl <| WL.stF rfl rfl rfl 0 Z rfl rfl rfl rfl rfl QX (fun w Z => ?_)
 replace Z : St g (Ze b2 #[.int .u32 x.nd.lf, .int .u32 x.nd.rg] 302 :: Ze b1 #[.bool x.al, .int .i64 x.cn, .int .u32 x.ge, .int .i64 x.nd.key, .int .i64 x.nd.val, .int .u32 x.nd.lf, .int .u32 x.nd.rg, .int .i64 x.nd.size, .int .i64 x.nd.sum, .int .i64 x.nd.mn, .int .i64 x.nd.mx] 174 :: L) w := Z
 refine WL.nil <| WC.ret ?_
 refine ⟨[.agg #[.int .u32 x.nd.lf, .int .u32 x.nd.rg]], ⟨⟨_, rfl, Z.lvF 0 rfl QX⟩, trivial⟩, ?_⟩
 replace Z := (Z.sel 2 [] rfl)
 exact ⟨rfl, Z⟩
end Go.Proofs.YtbeacjcmdijdmaaGreat
namespace Go.Proofs.YtbeacjcmdijdmaaGreat
open Go Go.V Go.RowKit
theorem Zf4 (n : Nat) : List.replicate n [Value.int .i64 0] = Zb (Zw [] n) := by
 rw [Zp7]; unfold Zb; rw [List.map_replicate]
theorem Zki {l : List Int} {n k : Nat} {x : Int} (hx : l[k]? = some x) (h : 1 ≤ x ∧ x ≤ n) : (Zb (Zw (l.take k) n)).set (x.toNat - 1) [Value.int .i64 ((((l.take k).count x : Nat) : Int) + 1)] = Zb (Zw (l.take (k + 1)) n) := by
 rw [show x.toNat - 1 = (x - 1).toNat by omega, Xf, Zgb h, List.take_add_one, hx]; rfl
theorem Zcu {l : List Int} {n k : Nat} {x : Int} (hx : l[k]? = some x) (h : ¬ (1 ≤ x ∧ x ≤ n)) : Zw (l.take k) n = Zw (l.take (k + 1)) n := by
 rw [List.take_add_one, hx]; exact (Zcv h).symm
theorem Zaf {g w : World} {L : List HP} (l : List Int) (n : Nat) (a : Option Addr) (c : Nat) (hn : n ≤ 65536) (hl : l.length ≤ 100000000) (hr : ∀ x ∈ l, 0 ≤ x ∧ x ≤ 4294967295) (Z : St g (Sh 64 1 (Za l) a c :: L) w) :
  Sp Tryz.prog 216 [.slice a (Za l).length c, .int .i64 (n : Int)] w (fun v w' => ∃ (u : Option Addr) (d : Nat), v = .slice u (Zb (Zw l n)).length d ∧ St g (Zf 3 1 (Zb (Zw l n)) u d :: Sh 64 1 (Za l) a c :: L) w') := by
 refine Sp.enter Tryz.func216 rfl (by kernel_rfl) (by kernel_rfl) ?_
 have _ := hl
 have _ := hn
 refine WC.seq <| WC.region <| WL.r 1 rfl <| WL.nil <| WC.seq <| WC.region ?_
 have hll := Zk l
 refine WL.r 1 rfl <| WL.make rfl rfl (v := (n : Int)) (v' := (n : Int)) (n) (n) el_56 Z rfl (by omega) rfl (by omega) (by omega) (Rm.of (by omega) (by decide)) (fun b1 w Z => ?_)
 replace Z := Z.n2 L (a0 := Zf 3 1 (List.replicate n [.int .i64 0]) (some ⟨b1, 0, none⟩) n) rfl
 refine WL.r 1 rfl <| WL.nil <| WC.seq <| WC.seq <| WC.region ?_
 rw [Zf4] at Z
 refine WL.r 1 rfl <| WL.nil <| WC.block <| WC.loop [0, 1, 4, 5, 6] (fun kM vs w => ∃ (k : Nat), vs = [.slice a (Za l).length c, .int .i64 (n : Int), .slice none 0 0, .slice (some ⟨b1, 0, none⟩) n n, .int .i64 (k : Int)] ∧ St g (Zf 3 1 (Zb (Zw (l.take k) n)) (some ⟨b1, 0, none⟩) n :: Sh 64 1 (Za l) a c :: L) w ∧ (k ≤ l.length) ∧ (l.length - k) = kM) ((List.length l) - 0) ⟨0, rfl, Z, (Nat.zero_le _), rfl⟩ ?_
 clear Z; rintro _ _ w j ⟨k, rfl, Z, hk, rfl⟩
 refine WC.seq <| WC.seq <| WC.region <| WL.r 4 rfl <| WL.nil ?_
 as_aux_lemma =>
 refine WC.ifP rfl (fun cd1 => ?_) (fun cd1 => ?_)
 ·refine WC.skip <| WC.seq <| WC.block <| WC.seq <| WC.region <| WL.r 2 rfl ?_
  obtain ⟨x, hx⟩ : ∃ x, l[k]? = some x := ⟨_, List.getElem?_eq_getElem (by omega)⟩; have hxr := hr x (List.mem_of_getElem? hx)
  refine WL.ix rfl rfl (i := (k : Int)) (k) el_32 rfl rfl (by omega) (by omega) (Z.rdS 1 rfl (Zl hx)).1 ?_
  refine WL.run 3 [.int .u32 x] rfl (by exact (Z.rdS 1 rfl (Zl hx)).2 0 _ rfl) ?_
  by_cases cg1 : 1 ≤ x
  ·refine WL.reb 20 (.bool true) (congrArg Value.bool (decide_eq_true cg1)) <| WL.ung rfl rfl rfl <| WL.r 1 rfl <| WL.ung rfl rfl rfl <| WL.r 1 rfl <| WL.ung rfl rfl rfl <| WL.ix rfl rfl (i := (k : Int)) (k) el_32 rfl rfl (by omega) (by omega) (Z.rdS 1 rfl (Zl hx)).1 ?_
   refine WL.ung rfl rfl rfl <| WL.run 1 [.int .u32 x] rfl (by exact (Z.rdS 1 rfl (Zl hx)).2 0 _ rfl) ?_
   refine WL.ung rfl rfl rfl <| WL.r 1 rfl <| WL.nw 25 rfl (Xg (by omega)) ?_
   refine WL.ung rfl rfl rfl <| WL.r 1 rfl <| WL.ung rfl rfl rfl <| WL.r 1 rfl <| WL.nw 27 rfl (Xg (by omega)) ?_
   refine WL.ung rfl rfl rfl <| WL.r 2 rfl <| WL.nil ?_
   as_aux_lemma =>
   refine WC.ifP rfl (fun cd2 => ?_) (fun cd2 => ?_)
   ·refine WC.region <| WL.r 3 rfl ?_
    have hcl := YB (l.take k) n; have hil := Zh (Zw (l.take k) n); have hce : ((x.toNat - 1 : Nat) : Int) + 1 = x := (by omega); have hct := List.count_le_length (a := x) (l := l.take k); have htl := List.length_take_le k l; have hca : (Zw (l.take k) n)[x.toNat - 1]? = some (((l.take k).count x : Nat) : Int) := (by rw [YK (by omega), hce])
    refine WL.ix rfl rfl (i := (k : Int)) (k) el_32 rfl rfl (by omega) (by omega) (Z.rdS 1 rfl (Zl hx)).1 ?_
    refine WL.run 2 [.int .u32 x] rfl (by exact (Z.rdS 1 rfl (Zl hx)).2 0 _ rfl) ?_
    refine WL.nw 35 rfl (Yq (by omega)) ?_
    refine WL.ix rfl rfl (i := x - 1) (x.toNat - 1) el_56 rfl rfl (by omega) (by omega) (Z.rdO 0 rfl (Zd hca)).1 ?_
    refine WL.run 2 [.int .i64 (((l.take k).count x : Nat) : Int)] rfl (by exact (Z.rdO 0 rfl (Zd hca)).2 0 _ rfl) ?_
    refine WL.nw 38 rfl (Zr (by omega)) ?_
    refine WL.ix rfl rfl (i := x - 1) (x.toNat - 1) el_56 rfl rfl (by omega) (by omega) (Z.rdO 0 rfl (Zd hca)).1 ?_
    refine WL.stE rfl rfl rfl 0 (x.toNat - 1) 0 [.int .i64 (((l.take k).count x : Nat) : Int)] (Zb (Zw (l.take (k + 1)) n)) Z rfl (Zd hca) rfl rfl rfl rfl rfl (Zki hx (by omega)) (fun w Z => ?_)
    replace Z := Z.n2 L (a0 := Zf 3 1 (Zb (Zw (l.take (k + 1)) n)) (some ⟨b1, 0, none⟩) n) rfl
    refine WL.nil <| WC.region <| WL.r 2 rfl <| WL.nw 14 rfl (Zr (by omega)) ?_
    refine WL.r 1 rfl <| WL.nil ?_
    exact ⟨_, by omega, k + 1, rfl, Z, (by omega), rfl⟩
   ·refine WC.skip <| WC.region <| WL.r 2 rfl <| WL.nw 14 rfl (Zr (by omega)) ?_
    refine WL.r 1 rfl <| WL.nil ?_
    rw [Zcu hx (by omega)] at Z
    exact ⟨_, by omega, k + 1, rfl, Z, (by omega), rfl⟩
  ·refine WL.reb 20 (.bool false) (congrArg Value.bool (decide_eq_false cg1)) <| WL.skp rfl rfl rfl rfl <| WL.skp rfl rfl rfl rfl <| WL.skp rfl rfl rfl rfl <| WL.skp rfl rfl rfl rfl <| WL.skp rfl rfl rfl rfl <| WL.skp rfl rfl rfl rfl <| WL.skp rfl rfl rfl rfl <| WL.skp rfl rfl rfl rfl <| WL.r 1 rfl <| WL.nil <| WC.ifF rfl rfl ?_
   refine WC.skip <| WC.region <| WL.r 2 rfl <| WL.nw 14 rfl (Zr (by omega)) ?_
   refine WL.r 1 rfl <| WL.nil ?_
   rw [Zcu hx (by omega)] at Z
   exact ⟨_, by omega, k + 1, rfl, Z, (by omega), rfl⟩
 ·refine WC.exit <| WC.seq <| WC.region <| WL.r 2 rfl <| WL.nil <| WC.ret ?_
  refine ⟨[.slice (some ⟨b1, 0, none⟩) n n], rfl, ?_⟩
  have hk9 : k = l.length := (by omega); subst hk9; rw [List.take_length] at Z; exact ⟨_, _, by rw [Zh, YB]; rfl, Z⟩
end Go.Proofs.YtbeacjcmdijdmaaGreat
namespace Go.V
open Go Go.RowKit
def sz1 (P : Program) (e : TypeId) : Bool := match P.info? e with
 | some i => i.size == 1
 | none => false
theorem Zql {P : Program} {e : TypeId} (h : sz1 P e = true) : ∃ i, P.info? e = some i ∧ i.size = 1 := by
 unfold sz1 at h
 cases hi : P.info? e with
 | none => rw [hi] at h; cases h
 | some i => rw [hi] at h; exact ⟨i, rfl, by simpa using h⟩
structure ArP (P : Program) (t : TypeId) (m : Nat) (e : TypeId) : Prop where
 und : P.underlying t = some (.array m e)
 one1 : sz1 P e = true
theorem ArP.one {P : Program} {t e : TypeId} {m : Nat} (h : ArP P t m e) : ∃ i, P.info? e = some i ∧ i.size = 1 := Zql h.one1
section
variable {P : Program} {T : Tab} [hT : TabOk P T] {n : Nat} {os l : List Oper} {K : Kt} {F : Fm} {w : World} {t e : TypeId} {m : Nat}
theorem WL.ixP {o : Oper} {x y : Operand} {b : Nat} {kk : IntKind} {i : Int} (hg : o.guard = none) (ho : o.op = .indexAddr t x y) (k : Nat) (hE : ArP P t m e) (hx : ev F x = .pointer (some ⟨b, 0, none⟩)) (hy : ev F y = .int kk i) (hik : i = k) (hlt : k < m)
  (hk : WL P n os l K (ZQ F o.dst (.pointer (some ⟨b, k, none⟩))) w) : WL P n os (o :: l) K F w := by
 refine WL.val hg (fun hok => ?_) hk
 have e1 := Zi (F := F) hok (x := x) (by simp [ho, Op.operands])
 have e2 := Zi (F := F) hok (x := y) (by simp [ho, Op.operands])
 subst hik
 have hr : (0 : Int) ≤ k ∧ (k : Int) < m := by omega
 have hadd : (⟨b, 0, none⟩ : Addr).add k = ⟨b, k, none⟩ := by unfold Addr.add; split <;> simp_all
 simp only [execOp, ho, e1, hx, e2, hy, Instr.indexAt, Instr.sureAddr, asIntOf, Sem.run_bind, Sem.run_pure, Result.andThen_ok, run_underlying hE.und, hr, and_self, if_true, ZE w hE.one, Int.toNat_natCast, Nat.mul_one, hadd]
theorem RQ.ixP {o : Oper} {x y : Operand} {b : Nat} {kk : IntKind} {i : Int} (hg : o.guard = none) (ho : o.op = .indexAddr t x y) (k : Nat) (hE : ArP P t m e) (hx : ev F x = .pointer (some ⟨b, 0, none⟩)) (hy : ev F y = .int kk i) (hik : i = k) (hlt : k < m)
  {d : Nat} (hd : o.dst = some d) (hfd : F d = (.pointer (some ⟨b, k, none⟩))) : RQ P n os w F o := by
 refine RQ.val hg (fun hok mm => ?_) hd hfd
 generalize hw0 : w.drewN mm = w0
 clear hw0
 have e1 := Zi (F := F) hok (x := x) (by simp [ho, Op.operands])
 have e2 := Zi (F := F) hok (x := y) (by simp [ho, Op.operands])
 subst hik
 have hr : (0 : Int) ≤ k ∧ (k : Int) < m := by omega
 have hadd : (⟨b, 0, none⟩ : Addr).add k = ⟨b, k, none⟩ := by unfold Addr.add; split <;> simp_all
 simp only [execOp, ho, e1, hx, e2, hy, Instr.indexAt, Instr.sureAddr, asIntOf, Sem.run_bind, Sem.run_pure, Result.andThen_ok, run_underlying hE.und, hr, and_self, if_true, ZE w0 hE.one, Int.toNat_natCast, Nat.mul_one, hadd]
theorem WQ.ixP {K : Fm → Prop} {o : Oper} {x y : Operand} {b : Nat} {kk : IntKind} {i : Int} (hg : o.guard = none) (ho : o.op = .indexAddr t x y) (k : Nat) (hE : ArP P t m e) (hx : ev F x = .pointer (some ⟨b, 0, none⟩)) (hy : ev F y = .int kk i) (hik : i = k) (hlt : k < m)
  (hk : WQ P n os l w K (ZQ F o.dst (.pointer (some ⟨b, k, none⟩)))) : WQ P n os (o :: l) w K F := by
 refine WQ.val hg (fun hok mm => ?_) hk
 generalize hw0 : w.drewN mm = w0
 clear hw0
 have e1 := Zi (F := F) hok (x := x) (by simp [ho, Op.operands])
 have e2 := Zi (F := F) hok (x := y) (by simp [ho, Op.operands])
 subst hik
 have hr : (0 : Int) ≤ k ∧ (k : Int) < m := by omega
 have hadd : (⟨b, 0, none⟩ : Addr).add k = ⟨b, k, none⟩ := by unfold Addr.add; split <;> simp_all
 simp only [execOp, ho, e1, hx, e2, hy, Instr.indexAt, Instr.sureAddr, asIntOf, Sem.run_bind, Sem.run_pure, Result.andThen_ok, run_underlying hE.und, hr, and_self, if_true, ZE w0 hE.one, Int.toNat_natCast, Nat.mul_one, hadd]
end
theorem RdE.sub {w : World} {size k : Nat} {a : Option Addr} {cs : List Value} (h : RdE w size a k cs) (d : Nat) (sub : List Value) (hs : (cs.drop d).take sub.length = sub) (j : Nat) (u : Value) (hj : sub[j]? = some u) : w.cell? ⟨bo a, oo a + k * size + d + j, none⟩ = some u := by
 have hlt := (List.getElem?_eq_some_iff.1 hj).1
 rw [← hs, List.getElem?_take, if_pos hlt, List.getElem?_drop] at hj
 rw [Nat.add_assoc]
 exact h (d + j) u hj
end Go.V
namespace Go.Proofs.YtbeacjcmdijdmaaGreat
open Go Go.V Go.RowKit
theorem XL : ArP Tryz.prog 302 2 64 := ⟨by kernel_rfl, by kernel_rfl⟩
def kd2 (x y : Int) : Array Value := #[.int .u32 x, .int .u32 y]
theorem JZ {x y v : Int} {k : Nat} (h : [x, y][k]? = some v) : (kd2 x y)[k]? = some (.int .u32 v) := by
 match k, h with
 | 0, h => cases h; rfl
 | 1, h => cases h; rfl
def JY (A : AM) (i k : Nat) : List Int := A.edK i ++ (if A.s.ok ((i : Int) + 1) = true then [(A.nd ((i : Int) + 1)).lf, (A.nd ((i : Int) + 1)).rg].take k else [])
theorem edI_0 (A : AM) (i : Nat) : JY A i 0 = A.edK i := by unfold JY; simp
theorem edI_2 (A : AM) (i : Nat) : JY A i 2 = A.edK (i + 1) := by
 unfold JY
 by_cases h : A.s.ok ((i : Int) + 1) = true
 ·rw [if_pos h, AM.edK_in h, List.append_assoc]; rfl
 ·rw [if_neg h, AM.edK_out h, List.append_nil]
theorem Zpl {A : AM} {i k : Nat} (h : ¬ A.s.ok ((i : Int) + 1) = true) : JY A i k = JY A i (k + 1) := by
 unfold JY; rw [if_neg h, if_neg h]
theorem Zkk {A : AM} {i k : Nat} {v : Int} (h : A.s.ok ((i : Int) + 1) = true) (hv : [(A.nd ((i : Int) + 1)).lf, (A.nd ((i : Int) + 1)).rg][k]? = some v) : JY A i (k + 1) = JY A i k ++ [v] := by
 unfold JY; rw [if_pos h, if_pos h, List.take_add_one, hv, List.append_assoc]; rfl
theorem Znx (A : AM) (i k : Nat) : (JY A i k).length ≤ 2 * i + 2 := by
 have h1 : (A.edK i).length ≤ 2 * i := by
  unfold AM.edK
  rw [List.length_flatMap]
  induction i with
  | zero => simp
  | succ i ih =>
   rw [List.range_succ, List.map_append, List.sum_append]
   have : (if A.s.ok ((i : Int) + 1) = true then [(A.nd ((i : Int) + 1)).lf, (A.nd ((i : Int) + 1)).rg] else []).length ≤ 2 := by split <;> simp
   simp only [List.map_cons, List.map_nil, List.sum_cons, List.sum_nil]; omega
 unfold JY
 rw [List.length_append]
 split
 ·have := List.length_take_le k [(A.nd ((i : Int) + 1)).lf, (A.nd ((i : Int) + 1)).rg]
  have h2 : ([(A.nd ((i : Int) + 1)).lf, (A.nd ((i : Int) + 1)).rg].take k).length ≤ 2 := by rw [List.length_take]; exact Nat.min_le_right _ _
  omega
 ·simp; omega
theorem Za4 {A : AM} {R : List Int} (h : ARf A R) {j : Int} (h1 : 1 ≤ j) (hok : A.s.ok j = true) {c : Int} (hc : c = (A.nd j).lf ∨ c = (A.nd j).rg) : 0 ≤ c ∧ c ≤ A.s.cap := by
 rcases h.kid j hok (by omega) c hc with e | ⟨e1, e2⟩
 ·have := Yj h; omega
 ·have := (SM.ok_rng h.s (i := c) (by omega) e2).2.1
  have := h.s.fr; omega
theorem Zh6 {A : AM} {R : List Int} (h : ARf A R) {i k : Nat} {v : Int} (hv : [(A.nd ((i : Int) + 1)).lf, (A.nd ((i : Int) + 1)).rg][k]? = some v) : 0 ≤ v ∧ v ≤ A.s.cap := by
 have hc : v = (A.nd ((i : Int) + 1)).lf ∨ v = (A.nd ((i : Int) + 1)).rg := by
  match k, hv with
  | 0, hv => cases hv; exact .inl rfl
  | 1, hv => cases hv; exact .inr rfl
 by_cases hok : A.s.ok ((i : Int) + 1) = true
 ·exact Za4 h (by omega) hok hc
 ·have hz := h.zero ((i : Int) + 1) (Bool.eq_false_iff.2 hok) (by omega)
  have := Yj h
  rw [hz] at hc
  have e : v = 0 := by rcases hc with e | e <;> exact e
  omega
theorem Zb3 {A : AM} {i k : Nat} {n : Nat} {v : Int} (hv : [(A.nd ((i : Int) + 1)).lf, (A.nd ((i : Int) + 1)).rg][k]? = some v) (h : ¬ A.s.ok ((i : Int) + 1) = true ∨ ¬ (1 ≤ v ∧ v ≤ n)) : Zw (JY A i k) n = Zw (JY A i (k + 1)) n := by
 by_cases hok : A.s.ok ((i : Int) + 1) = true
 ·rw [Zkk hok hv]; exact (Zcv (h.resolve_left fun h1 => h1 hok)).symm
 ·rw [Zpl (k := k) hok]
theorem Zlx {A : AM} {i k : Nat} {n : Nat} {v : Int} (hv : [(A.nd ((i : Int) + 1)).lf, (A.nd ((i : Int) + 1)).rg][k]? = some v) (hok : A.s.ok ((i : Int) + 1) = true) (h : 1 ≤ v ∧ v ≤ n) : (Zb (Zw (JY A i k) n)).set (v.toNat - 1) [Value.int .i64 ((((JY A i k).count v : Nat) : Int) + 1)] = Zb (Zw (JY A i (k + 1)) n) := by
 rw [show v.toNat - 1 = (v - 1).toNat by omega, Xf, Zgb h, Zkk hok hv]
theorem Zlg {g w : World} {L : List HP} (A : AM) (R : List Int) (da fa : Option Addr) (dc fc : Nat) (hA : ARf A R) (Z : St g (Sh 174 11 (Zo (AM.dmp A)) da dc :: L) w) :
  Sp Tryz.prog 214 [.agg #[.slice da (Zo (AM.dmp A)).length dc, .slice fa (Za (SM.order A.s)).length fc]] w (fun v w' => ∃ (u : Option Addr) (d : Nat), v = .slice u (Zb (Zw A.kids A.s.cap.toNat)).length d ∧ St g (Zf 3 1 (Zb (Zw A.kids A.s.cap.toNat)) u d :: Sh 174 11 (Zo (AM.dmp A)) da dc :: L) w') := by
 refine Sp.enter Tryz.func214 rfl (by kernel_rfl) (by kernel_rfl) ?_
 refine WC.seq <| WC.region <| WL.box rfl rfl #[.slice da (Zo (AM.dmp A)).length dc, .slice fa (Za (SM.order A.s)).length fc] Z rfl rfl (fun b1 w Z => ?_)
 refine WL.r 1 rfl <| WL.nil <| WC.seq <| WC.region ?_
 have hn := Zac A; have hcr := Yj hA
 refine WL.run 3 [.slice da (Zo (AM.dmp A)).length dc] rfl (by exact Z.ld 0 rfl rfl) ?_
 refine WL.make rfl rfl (v := (List.length (Zo (AM.dmp A)) : Int)) (v' := (List.length (Zo (AM.dmp A)) : Int)) (A.s.cap.toNat) (A.s.cap.toNat) el_56 Z rfl (by omega) rfl (by omega) (by omega) (Rm.of (by omega) (by decide)) (fun b2 w Z => ?_)
 replace Z := Z.n3 L (a0 := Zf 3 1 (List.replicate A.s.cap.toNat [.int .i64 0]) (some ⟨b2, 0, none⟩) A.s.cap.toNat) (a1 := Ze b1 #[.slice da (Zo (AM.dmp A)).length dc, .slice fa (Za (SM.order A.s)).length fc] 62) rfl
 refine WL.r 1 rfl <| WL.nil <| WC.seq <| WC.seq <| WC.region ?_
 rw [Zf4] at Z
 refine WL.r 1 rfl <| WL.nil <| WC.block <| WC.loop [1, 2, 3, 4] (fun kM vs w => ∃ (i : Nat), vs = [.pointer (some ⟨b1, 0, none⟩), .slice none 0 0, .slice (some ⟨b2, 0, none⟩) A.s.cap.toNat A.s.cap.toNat, .int .i64 (i : Int)] ∧ St g (Zf 3 1 (Zb (Zw (A.edK i) A.s.cap.toNat)) (some ⟨b2, 0, none⟩) A.s.cap.toNat :: Ze b1 #[.slice da (Zo (AM.dmp A)).length dc, .slice fa (Za (SM.order A.s)).length fc] 62 :: Sh 174 11 (Zo (AM.dmp A)) da dc :: L) w ∧ (i ≤ A.s.cap.toNat) ∧ (A.s.cap.toNat - i) = kM) (A.s.cap.toNat - 0) ⟨0, rfl, Z, (Nat.zero_le _), rfl⟩ ?_
 clear Z; rintro _ _ w j ⟨i, rfl, Z, hi, rfl⟩
 refine WC.seq <| WC.seq <| WC.region <| WL.run 5 [.slice da (Zo (AM.dmp A)).length dc] rfl (by exact Z.ld 1 rfl rfl) ?_
 refine WL.nil ?_
 as_aux_lemma =>
 refine WC.ifP rfl (fun cd1 => ?_) (fun cd1 => ?_)
 ·refine WC.skip <| WC.seq <| WC.block <| WC.seq <| WC.region <| WL.run 3 [.slice da (Zo (AM.dmp A)).length dc] rfl (by exact Z.ld 1 rfl rfl) ?_
  refine WL.ix rfl rfl (i := (i : Int)) (i) el_60 rfl rfl (by omega) (by omega) (Z.rdS 2 rfl (Yd (AM.dmp_at (A := A) (k := i) (by omega)))).1 ?_
  refine WL.ldC rfl rfl [.bool (A.dmpAt ((i : Int) + 1)).al, .int .i64 (A.dmpAt ((i : Int) + 1)).cn, .int .u32 (A.dmpAt ((i : Int) + 1)).ge, .int .i64 (A.dmpAt ((i : Int) + 1)).nd.key, .int .i64 (A.dmpAt ((i : Int) + 1)).nd.val, .int .u32 (A.dmpAt ((i : Int) + 1)).nd.lf, .int .u32 (A.dmpAt ((i : Int) + 1)).nd.rg, .int .i64 (A.dmpAt ((i : Int) + 1)).nd.size, .int .i64 (A.dmpAt ((i : Int) + 1)).nd.sum, .int .i64 (A.dmpAt ((i : Int) + 1)).nd.mn, .int .i64 (A.dmpAt ((i : Int) + 1)).nd.mx] Jn rfl (Z.rdS 2 rfl (Yd (AM.dmp_at (A := A) (k := i) (by omega)))).2 ?_
  refine WL.call rfl rfl (Zb1 (x := A.dmpAt ((i : Int) + 1))  (Z := Z)) rfl ?_
  clear Z; rintro _ w ⟨rfl, Z⟩
  replace Z := Z.n3 L rfl
  refine WL.new rfl rfl JX Z (fun b3 w Z => ?_)
  refine WL.stF rfl rfl rfl 0 Z rfl rfl rfl rfl rfl QX (fun w Z => ?_)
  replace Z := Z.n4 L (a0 := Ze b3 #[.int .u32 (A.dmpAt ((i : Int) + 1)).nd.lf, .int .u32 (A.dmpAt ((i : Int) + 1)).nd.rg] 302) rfl
  refine WL.nil <| WC.seq <| WC.region ?_
  rw [← edI_0] at Z
  refine WL.r 1 rfl <| WL.nil <| WC.block <| WC.loop [1, 2, 3, 4, 5, 6, 11, 12, 13, 14, 15, 18, 19, 20, 21, 22, 23] (fun kM vs w => ∃ (k : Nat), vs = [.pointer (some ⟨b1, 0, none⟩), .slice none 0 0, .slice (some ⟨b2, 0, none⟩) A.s.cap.toNat A.s.cap.toNat, .int .i64 (i : Int), .pointer (some ⟨b3, 0, none⟩), .int .i64 (k : Int), .int .i64 (i : Int), .pointer (some ⟨b1, 0, none⟩), .slice da (Zo (AM.dmp A)).length dc, .int .i64 (List.length (Zo (AM.dmp A)) : Int), .bool (decide ((i : Int) < (List.length (Zo (AM.dmp A)) : Int))), .pointer (some ⟨b1, 0, none⟩), .slice da (Zo (AM.dmp A)).length dc, .int .i64 (i : Int), .pointer (some ⟨bo da, (oo da) + (i * 11), none⟩), .agg #[.bool (A.dmpAt ((i : Int) + 1)).al, .int .i64 (A.dmpAt ((i : Int) + 1)).cn, .int .u32 (A.dmpAt ((i : Int) + 1)).ge, .int .i64 (A.dmpAt ((i : Int) + 1)).nd.key, .int .i64 (A.dmpAt ((i : Int) + 1)).nd.val, .int .u32 (A.dmpAt ((i : Int) + 1)).nd.lf, .int .u32 (A.dmpAt ((i : Int) + 1)).nd.rg, .int .i64 (A.dmpAt ((i : Int) + 1)).nd.size, .int .i64 (A.dmpAt ((i : Int) + 1)).nd.sum, .int .i64 (A.dmpAt ((i : Int) + 1)).nd.mn, .int .i64 (A.dmpAt ((i : Int) + 1)).nd.mx], .agg #[.int .u32 (A.dmpAt ((i : Int) + 1)).nd.lf, .int .u32 (A.dmpAt ((i : Int) + 1)).nd.rg]] ∧ St g (Ze b3 (kd2 (A.nd ((i : Int) + 1)).lf (A.nd ((i : Int) + 1)).rg) 302 :: Zf 3 1 (Zb (Zw (JY A i k) A.s.cap.toNat)) (some ⟨b2, 0, none⟩) A.s.cap.toNat :: Ze b1 #[.slice da (Zo (AM.dmp A)).length dc, .slice fa (Za (SM.order A.s)).length fc] 62 :: Sh 174 11 (Zo (AM.dmp A)) da dc :: L) w ∧ (k ≤ 2) ∧ (2 - k) = kM) (2 - 0) ⟨0, rfl, Z, (Nat.zero_le _), rfl⟩ ?_
  clear Z; rintro _ _ w j ⟨k, rfl, Z, hk, rfl⟩
  refine WC.seq <| WC.seq <| WC.region <| WL.r 2 rfl <| WL.nil ?_
  as_aux_lemma =>
  refine WC.ifP rfl (fun cd2 => ?_) (fun cd2 => ?_)
  ·refine WC.skip <| WC.seq <| WC.block <| WC.seq <| WC.region <| WL.run 3 [.slice da (Zo (AM.dmp A)).length dc] rfl (by exact Z.ld 2 rfl rfl) ?_
   obtain ⟨v, hv⟩ : ∃ v, [(A.nd ((i : Int) + 1)).lf, (A.nd ((i : Int) + 1)).rg][k]? = some v := ⟨_, List.getElem?_eq_getElem (by show k < 2; omega)⟩; have hvr := Zh6 hA hv; have hcl := YB (JY A i k) A.s.cap.toNat; have hil := Zh (Zw (JY A i k) A.s.cap.toNat); have hct := List.count_le_length (a := v) (l := JY A i k); have hel := Znx A i k
   refine WL.ix rfl rfl (i := (i : Int)) (i) el_60 rfl rfl (by omega) (by omega) (Z.rdS 3 rfl (Yd (AM.dmp_at (A := A) (k := i) (by omega)))).1 ?_
   refine WL.run 3 [.bool (A.dmpAt ((i : Int) + 1)).al] rfl (by exact (Z.rdS 3 rfl (Yd (AM.dmp_at (A := A) (k := i) (by omega)))).2 0 _ rfl) ?_
   by_cases cg1 : (A.dmpAt ((i : Int) + 1)).al = true
   ·refine WL.reb 34 (.bool true) (congrArg Value.bool cg1) <| WL.ung rfl rfl rfl <| WL.r 1 rfl <| WL.ung rfl rfl rfl <| WL.ixP rfl rfl (k) XL rfl rfl (by omega) (by omega) ?_
    refine WL.ung rfl rfl rfl <| WL.run 1 [.int .u32 v] rfl (by exact Z.ld 0 rfl (JZ hv)) ?_
    refine WL.ung rfl rfl rfl <| WL.r 3 rfl ?_
    by_cases cg2 : 1 ≤ v
    ·refine WL.reb 40 (.bool true) (congrArg Value.bool (decide_eq_true cg2)) <| WL.ung rfl rfl rfl <| WL.r 1 rfl <| WL.ung rfl rfl rfl <| WL.ixP rfl rfl (k) XL rfl rfl (by omega) (by omega) ?_
     refine WL.ung rfl rfl rfl <| WL.run 1 [.int .u32 v] rfl (by exact Z.ld 0 rfl (JZ hv)) ?_
     refine WL.ung rfl rfl rfl <| WL.r 1 rfl <| WL.nw 44 rfl (Xg (by omega)) ?_
     refine WL.ung rfl rfl rfl <| WL.r 1 rfl <| WL.ung rfl rfl rfl <| WL.r 1 rfl <| WL.ung rfl rfl rfl <| WL.r 1 rfl <| WL.nw 47 rfl (Xg (by omega)) ?_
     refine WL.ung rfl rfl rfl <| WL.r 2 rfl <| WL.nil ?_
     as_aux_lemma =>
     refine WC.ifP rfl (fun cd3 => ?_) (fun cd3 => ?_)
     ·refine WC.region <| WL.r 2 rfl <| WL.ixP rfl rfl (k) XL rfl rfl (by omega) (by omega) ?_
      refine WL.run 2 [.int .u32 v] rfl (by exact Z.ld 0 rfl (JZ hv)) ?_
      refine WL.nw 54 rfl (Yq (by omega)) ?_
      have hce : ((v.toNat - 1 : Nat) : Int) + 1 = v := (by omega); have hca : (Zw (JY A i k) A.s.cap.toNat)[v.toNat - 1]? = some (((JY A i k).count v : Nat) : Int) := (by rw [YK (by omega), hce])
      refine WL.ix rfl rfl (i := v - 1) (v.toNat - 1) el_56 rfl rfl (by omega) (by omega) (Z.rdO 1 rfl (Zd hca)).1 ?_
      refine WL.run 2 [.int .i64 (((JY A i k).count v : Nat) : Int)] rfl (by exact (Z.rdO 1 rfl (Zd hca)).2 0 _ rfl) ?_
      refine WL.nw 57 rfl (Zr (by omega)) ?_
      refine WL.ix rfl rfl (i := v - 1) (v.toNat - 1) el_56 rfl rfl (by omega) (by omega) (Z.rdO 1 rfl (Zd hca)).1 ?_
      refine WL.stE rfl rfl rfl 1 (v.toNat - 1) 0 [.int .i64 (((JY A i k).count v : Nat) : Int)] (Zb (Zw (JY A i (k + 1)) A.s.cap.toNat)) Z rfl (Zd hca) rfl rfl rfl rfl rfl (Zlx hv cg1 (by omega)) (fun w Z => ?_)
      replace Z := Z.n4 L (a1 := Zf 3 1 (Zb (Zw (JY A i (k + 1)) A.s.cap.toNat)) (some ⟨b2, 0, none⟩) A.s.cap.toNat) rfl
      refine WL.nil <| WC.region <| WL.r 2 rfl <| WL.nw 27 rfl (Zr (by omega)) ?_
      refine WL.r 1 rfl <| WL.nil ?_
      exact ⟨_, by omega, k + 1, rfl, Z, (by omega), rfl⟩
     ·refine WC.skip <| WC.region <| WL.r 2 rfl <| WL.nw 27 rfl (Zr (by omega)) ?_
      refine WL.r 1 rfl <| WL.nil ?_
      rw [Zb3 hv (.inr (by omega))] at Z
      exact ⟨_, by omega, k + 1, rfl, Z, (by omega), rfl⟩
    ·refine WL.reb 40 (.bool false) (congrArg Value.bool (decide_eq_false cg2)) <| WL.skp rfl rfl rfl rfl <| WL.skp rfl rfl rfl rfl <| WL.skp rfl rfl rfl rfl <| WL.skp rfl rfl rfl rfl <| WL.skp rfl rfl rfl rfl <| WL.skp rfl rfl rfl rfl <| WL.skp rfl rfl rfl rfl <| WL.skp rfl rfl rfl rfl <| WL.r 1 rfl <| WL.nil ?_
     as_aux_lemma =>
     refine WC.ifF rfl rfl <| WC.skip <| WC.region <| WL.r 2 rfl <| WL.nw 27 rfl (Zr (by omega)) ?_
     refine WL.r 1 rfl <| WL.nil ?_
     rw [Zb3 hv (.inr (by omega))] at Z
     exact ⟨_, by omega, k + 1, rfl, Z, (by omega), rfl⟩
   ·refine WL.reb 34 (.bool false) (congrArg Value.bool (Bool.eq_false_iff.2 cg1)) <| WL.skp rfl rfl rfl rfl <| WL.skp rfl rfl rfl rfl <| WL.skp rfl rfl rfl rfl <| WL.skp rfl rfl rfl rfl <| WL.r 2 rfl <| WL.skp rfl rfl rfl rfl <| WL.skp rfl rfl rfl rfl <| WL.skp rfl rfl rfl rfl <| WL.skp rfl rfl rfl rfl <| WL.skp rfl rfl rfl rfl <| WL.skp rfl rfl rfl rfl ?_
    refine WL.skp rfl rfl rfl rfl <| WL.skp rfl rfl rfl rfl <| WL.r 1 rfl <| WL.nil ?_
    as_aux_lemma =>
    refine WC.ifF rfl rfl <| WC.skip <| WC.region <| WL.r 2 rfl <| WL.nw 27 rfl (Zr (by omega)) ?_
    refine WL.r 1 rfl <| WL.nil ?_
    rw [Zb3 hv (.inl cg1)] at Z
    exact ⟨_, by omega, k + 1, rfl, Z, (by omega), rfl⟩
  ·refine WC.exit <| WC.region <| WL.r 2 rfl <| WL.nw 17 rfl (Zr (by omega)) ?_
   refine WL.r 1 rfl <| WL.nil ?_
   obtain rfl : k = 2 := (by omega); rw [edI_2] at Z
   exact ⟨_, by omega, i + 1, rfl, (Z.sel 1 [] rfl), (by omega), rfl⟩
 ·refine WC.exit <| WC.seq <| WC.region <| WL.r 2 rfl <| WL.nil <| WC.ret ?_
  refine ⟨[.slice (some ⟨b2, 0, none⟩) A.s.cap.toNat A.s.cap.toNat], rfl, ?_⟩
  replace Z := (Z.sel 2 [0] rfl)
  have hi9 : i = A.s.cap.toNat := (by omega); subst hi9; rw [AM.edK_kids hA.s] at Z; exact ⟨_, _, by rw [Zh, YB]; rfl, Z⟩
end Go.Proofs.YtbeacjcmdijdmaaGreat
namespace Go.Proofs.YtbeacjcmdijdmaaGreat
open Go Go.V Go.RowKit
theorem Znm (n : Nat) : List.replicate n [Value.bool false] = Zc (List.replicate n false) := by unfold Zc; rw [List.map_replicate]
theorem Zch {A : AM} {R : List Int} (h : ARf A R) : ∀ r ∈ R, 0 ≤ r ∧ r ≤ 4294967295 := fun r hr => by
 have := h.rng hr; omega
theorem Znh {l : List Int} (h : 0 < l.length) : ∃ a x, l = a ++ [x] := ⟨l.dropLast, l.getLast (fun e => by rw [e] at h; simp at h), (List.dropLast_concat_getLast _).symm⟩
theorem Zoq (bs : List Bool) : unm bs ≤ bs.length := List.countP_le_length
theorem Zpf {A : AM} {R : List Int} (h : ARf A R) {j : Int} (h1 : 1 ≤ j) (hok : A.s.ok j = true) : (0 ≤ (A.nd j).lf ∧ (A.nd j).lf ≤ 4294967295) ∧ 0 ≤ (A.nd j).rg ∧ (A.nd j).rg ≤ 4294967295 := by
 have h2 := Za4 h h1 hok (.inl rfl)
 have h3 := Za4 h h1 hok (.inr rfl)
 have := Yj h
 omega
theorem Zi2 {g w : World} {L : List HP} (A : AM) (R : List Int) (da fa ra : Option Addr) (dc fc rc : Nat) (hA : ARf A R) (hRl : R.length ≤ 1000000) (Z : St g (Sh 174 11 (Zo (AM.dmp A)) da dc :: Sh 64 1 (Za R) ra rc :: L) w) :
  Sp Tryz.prog 215 [.agg #[.slice da (Zo (AM.dmp A)).length dc, .slice fa (Za (SM.order A.s)).length fc], .slice ra (Za R).length rc] w (fun v w' => ∃ (bs : List Bool) (u : Option Addr) (d : Nat), v = .slice u (Zc bs).length d ∧ St g (Zf 4 1 (Zc bs) u d :: Sh 174 11 (Zo (AM.dmp A)) da dc :: Sh 64 1 (Za R) ra rc :: L) w' ∧ (bs.length = A.s.cap.toNat) ∧ (∀ j : Int, 1 ≤ j → A.s.ok j = true → bs[(j - 1).toNat]? = some true)) := by
 refine Sp.enter Tryz.func215 rfl (by kernel_rfl) (by kernel_rfl) ?_
 have _ := hRl
 refine WC.seq <| WC.region <| WL.box rfl rfl #[.slice da (Zo (AM.dmp A)).length dc, .slice fa (Za (SM.order A.s)).length fc] Z rfl rfl (fun b1 w Z => ?_)
 refine WL.r 1 rfl <| WL.nil <| WC.seq <| WC.region ?_
 have hn := Zac A; have hcr := Yj hA; have hul := Zk R
 refine WL.run 3 [.slice da (Zo (AM.dmp A)).length dc] rfl (by exact Z.ld 0 rfl rfl) ?_
 refine WL.make rfl rfl (v := (List.length (Zo (AM.dmp A)) : Int)) (v' := (List.length (Zo (AM.dmp A)) : Int)) (A.s.cap.toNat) (A.s.cap.toNat) el_33 Z rfl (by omega) rfl (by omega) (by omega) (Rm.of (by omega) (by decide)) (fun b2 w Z => ?_)
 replace Z := Z.n4 L (a0 := Zf 4 1 (List.replicate A.s.cap.toNat [.bool false]) (some ⟨b2, 0, none⟩) A.s.cap.toNat) (a1 := Ze b1 #[.slice da (Zo (AM.dmp A)).length dc, .slice fa (Za (SM.order A.s)).length fc] 62) rfl
 refine WL.r 1 rfl <| WL.nil <| WC.seq <| WC.region ?_
 rw [Znm] at Z
 replace Z := Z.n4 L (a0 := Zf 4 1 (Zc (List.replicate A.s.cap.toNat false)) (some ⟨b2, 0, none⟩) A.s.cap.toNat) rfl
 refine WL.r 1 rfl ?_
 replace Z := Z.nil_ 64 1
 refine WL.app rfl rfl 0 (Za R) el_32 Z rfl (Z.srcS 4 rfl) (List.nil_append _) (Rm.of (by first | omega | (simp <;> omega)) (by decide)) rfl rfl (fun a1 c1 w Z => ?_)
 replace Z := Z.n5 L (a0 := Zf 64 1 (Za R) a1 c1) rfl
 refine WL.r 1 rfl <| WL.nil <| WC.seq <| WC.block <| WC.loop [2, 4, 5, 6] (fun kM vs w => ∃ (bs : List Bool) (ws : List Int) (u : Option Addr) (d : Nat), vs = [.pointer (some ⟨b1, 0, none⟩), .slice none 0 0, .slice (some ⟨b2, 0, none⟩) A.s.cap.toNat A.s.cap.toNat, .slice u (Za ws).length d] ∧ St g (Zf 64 1 (Za ws) u d :: Zf 4 1 (Zc bs) (some ⟨b2, 0, none⟩) A.s.cap.toNat :: Ze b1 #[.slice da (Zo (AM.dmp A)).length dc, .slice fa (Za (SM.order A.s)).length fc] 62 :: Sh 174 11 (Zo (AM.dmp A)) da dc :: Sh 64 1 (Za R) ra rc :: L) w ∧ (MkI A R bs ws) ∧ (ws.length + 2 * unm bs ≤ R.length + 2 * A.s.cap.toNat) ∧ (2 * unm bs + ws.length) = kM) (2 * unm (List.replicate A.s.cap.toNat false) + (List.length R)) ⟨List.replicate A.s.cap.toNat false, R, _, _, rfl, Z, (MkI.init (Zch hA)), (by have := Zoq (List.replicate A.s.cap.toNat false); rw [List.length_replicate] at this; omega), rfl⟩ ?_
 clear Z; rintro _ _ w j ⟨bs, ws, u, d, rfl, Z, hI, hwl, rfl⟩
 refine WC.seq <| WC.seq <| WC.region <| WL.r 3 rfl <| WL.nil ?_
 as_aux_lemma =>
 refine WC.ifP rfl (fun cd1 => ?_) (fun cd1 => ?_)
 ·refine WC.skip <| WC.block <| WC.seq <| WC.region ?_
  obtain ⟨wt, x, rfl⟩ := Znh (l := ws) (by have := Zk ws; omega); have hu3 := Zk (wt ++ [x]); have hw3 : (wt ++ [x]).length = wt.length + 1 := (by simp); have hbl := hI.len; have hbl2 := Zv bs; have hfr := hA.s.fr; have hul := Zk R; have hu4 := Zk wt
  refine WL.r 4 rfl <| WL.nw 21 rfl (Zr (by omega)) ?_
  have hx : (wt ++ [x])[wt.length]? = some x := (by simp); have hxr := hI.rng x (by simp)
  refine WL.ix rfl rfl (i := (List.length (Za (wt ++ [x])) : Int) - 1) (wt.length) el_32 rfl rfl (by omega) (by omega) (Z.rdO 0 rfl (Zl hx)).1 ?_
  refine WL.run 2 [.int .u32 x] rfl (by exact (Z.rdO 0 rfl (Zl hx)).2 0 _ rfl) ?_
  refine WL.nil <| WC.seq <| WC.region <| WL.r 4 rfl <| WL.nw 27 rfl (Zr (by omega)) ?_
  refine WL.slOwn rfl rfl (v := (List.length (Za (wt ++ [x])) : Int) - 1) 0 (wt.length) (Za wt) el_32 Z rfl rfl rfl (by omega) (by omega) (by rw [XZ]; simp) (fun Z => ?_)
  replace Z := Z.n5 L (a0 := Zf 64 1 (Za wt) u d) rfl
  refine WL.r 1 rfl <| WL.nil <| WC.seq <| WC.seq <| WC.region <| WL.ldF rfl rfl 2 Z rfl rfl ZA <| WL.r 1 rfl <| WL.call rfl rfl (XQ (A := A) (fa := fa) (fc := fc) (i := x) (hA := hA) (hi := hxr) (Z := (Z.sel 4 [3, 0, 0, 0] rfl))) rfl ?_
  clear Z; rintro _ w ⟨b3, rfl, Z, f1⟩
  replace Z := Z.n5 L rfl
  refine WL.r 1 rfl <| WL.r 1 rfl ?_
  by_cases cg1 : (! b3) = true
  ·refine WL.reb 33 (.bool true) (congrArg Value.bool cg1) <| WL.skp rfl rfl rfl rfl <| WL.skp rfl rfl rfl rfl <| WL.skp rfl rfl rfl rfl <| WL.skp rfl rfl rfl rfl <| WL.skp rfl rfl rfl rfl <| WL.r 1 rfl <| WL.nil ?_
   as_aux_lemma =>
   refine WC.ifT rfl rfl <| WC.exit ?_
   exact ⟨_, by omega, bs, wt, _, _, rfl, (Z.sel 4 [1, 1, 1, 0] rfl), (hI.skip (.inl (by rw [← f1]; simpa using cg1)) hA), (by omega), rfl⟩
  ·refine WL.reb 33 (.bool false) (congrArg Value.bool (Bool.eq_false_iff.2 cg1)) <| WL.ung rfl rfl rfl <| WL.r 1 rfl <| WL.ung rfl rfl rfl <| WL.r 1 rfl <| WL.ung rfl rfl rfl <| WL.r 1 rfl <| WL.nw 36 rfl (Yq (by have hok9 : A.s.ok x = true := (by rw [← f1]; simpa using cg1); have hor9 := SM.ok_rng hA.s (i := x) hxr.1 hok9; omega)) ?_
   refine WL.ung rfl rfl rfl ?_
   have hok : A.s.ok x = true := (by rw [← f1]; simpa using cg1); have hor := SM.ok_rng hA.s (i := x) hxr.1 hok; obtain ⟨bv, hb⟩ : ∃ v, bs[x.toNat - 1]? = some v := ⟨_, List.getElem?_eq_getElem (by omega)⟩
   refine WL.ix rfl rfl (i := x - 1) (x.toNat - 1) el_33 rfl rfl (by omega) (by omega) (Z.rdO 2 rfl (Zu hb)).1 ?_
   refine WL.ung rfl rfl rfl <| WL.run 2 [.bool bv] rfl (by exact (Z.rdO 2 rfl (Zu hb)).2 0 _ rfl) ?_
   refine WL.nil ?_
   as_aux_lemma =>
   refine WC.if_ rfl (fun cd2 => ?_) (fun cd2 => ?_)
   ·refine WC.exit ?_
    exact ⟨_, by omega, bs, wt, _, _, rfl, (Z.sel 4 [1, 1, 1, 0] rfl), (hI.skip (.inr (by rw [show (x - 1).toNat = x.toNat - 1 by omega, hb]; simpa using cd2)) hA), (by omega), rfl⟩
   ·refine WC.skip <| WC.seq <| WC.region <| WL.r 3 rfl <| WL.nw 42 rfl (Yq (by omega)) ?_
    refine WL.ix rfl rfl (i := x - 1) (x.toNat - 1) el_33 rfl rfl (by omega) (by omega) (Z.rdO 2 rfl (Zu hb)).1 ?_
    refine WL.stE rfl rfl rfl 2 (x.toNat - 1) 0 [.bool bv] (Zc (bs.set (x.toNat - 1) true)) Z rfl (Zu hb) rfl rfl rfl rfl rfl (YL _ _ _) (fun w Z => ?_)
    replace Z := Z.n5 L (a2 := Zf 4 1 (Zc (bs.set (x.toNat - 1) true)) (some ⟨b2, 0, none⟩) A.s.cap.toNat) rfl
    refine WL.nil <| WC.seq <| WC.region <| WL.run 4 [.slice da (Zo (AM.dmp A)).length dc] rfl (by exact Z.ld 3 rfl rfl) ?_
    refine WL.nw 47 rfl (Yq (by omega)) ?_
    refine WL.ix rfl rfl (i := x - 1) (x.toNat - 1) el_60 rfl rfl (by omega) (by omega) (Z.rdS 0 rfl (Yd (AM.dmp_at (A := A) (k := x.toNat - 1) (by omega)))).1 ?_
    refine WL.ldC rfl rfl [.bool (A.dmpAt (((x.toNat - 1 : Nat) : Int) + 1)).al, .int .i64 (A.dmpAt (((x.toNat - 1 : Nat) : Int) + 1)).cn, .int .u32 (A.dmpAt (((x.toNat - 1 : Nat) : Int) + 1)).ge, .int .i64 (A.dmpAt (((x.toNat - 1 : Nat) : Int) + 1)).nd.key, .int .i64 (A.dmpAt (((x.toNat - 1 : Nat) : Int) + 1)).nd.val, .int .u32 (A.dmpAt (((x.toNat - 1 : Nat) : Int) + 1)).nd.lf, .int .u32 (A.dmpAt (((x.toNat - 1 : Nat) : Int) + 1)).nd.rg, .int .i64 (A.dmpAt (((x.toNat - 1 : Nat) : Int) + 1)).nd.size, .int .i64 (A.dmpAt (((x.toNat - 1 : Nat) : Int) + 1)).nd.sum, .int .i64 (A.dmpAt (((x.toNat - 1 : Nat) : Int) + 1)).nd.mn, .int .i64 (A.dmpAt (((x.toNat - 1 : Nat) : Int) + 1)).nd.mx] Jn rfl (Z.rdS 0 rfl (Yd (AM.dmp_at (A := A) (k := x.toNat - 1) (by omega)))).2 ?_
    refine WL.call rfl rfl (Zb1 (x := A.dmpAt (((x.toNat - 1 : Nat) : Int) + 1))  (Z := Z)) rfl ?_
    clear Z; rintro _ w ⟨rfl, Z⟩
    replace Z := Z.n5 L rfl
    refine WL.new rfl rfl JX Z (fun b4 w Z => ?_)
    refine WL.stF rfl rfl rfl 0 Z rfl rfl rfl rfl rfl QX (fun w Z => ?_)
    replace Z := Z.n6 L (a0 := Ze b4 #[.int .u32 (A.dmpAt (((x.toNat - 1 : Nat) : Int) + 1)).nd.lf, .int .u32 (A.dmpAt (((x.toNat - 1 : Nat) : Int) + 1)).nd.rg] 302) rfl
    refine WL.nil <| WC.region ?_
    have hus := Zmh (k := x.toNat - 1) (show bs[x.toNat - 1]? = some false by rw [hb]; simpa using cd2); have hnd : (A.dmpAt (((x.toNat - 1 : Nat) : Int) + 1)).nd = A.nd x := (by rw [show ((x.toNat - 1 : Nat) : Int) + 1 = x by omega]; rfl); have hl2 : (wt ++ [(A.dmpAt (((x.toNat - 1 : Nat) : Int) + 1)).nd.lf, (A.dmpAt (((x.toNat - 1 : Nat) : Int) + 1)).nd.rg]).length = wt.length + 2 := (by simp)
    refine WL.r 1 rfl <| WL.ixP rfl rfl (0) XL rfl rfl (by omega) (by omega) ?_
    refine WL.run 1 [.int .u32 (A.dmpAt (((x.toNat - 1 : Nat) : Int) + 1)).nd.lf] rfl (by exact Z.ld 0 rfl rfl) ?_
    refine WL.ixP rfl rfl (1) XL rfl rfl (by omega) (by omega) ?_
    refine WL.run 1 [.int .u32 (A.dmpAt (((x.toNat - 1 : Nat) : Int) + 1)).nd.rg] rfl (by exact Z.ld 0 rfl rfl) ?_
    refine WL.lit rfl rfl (Za [(A.dmpAt (((x.toNat - 1 : Nat) : Int) + 1)).nd.lf, (A.dmpAt (((x.toNat - 1 : Nat) : Int) + 1)).nd.rg]) el_32 Z (by exact ⟨rfl, rfl, rfl, rfl⟩) (Yn _) rfl (Nat.le_of_ble_eq_true rfl) (fun b5 w Z => ?_)
    refine WL.app rfl rfl 3 (Za (wt ++ [(A.dmpAt (((x.toNat - 1 : Nat) : Int) + 1)).nd.lf, (A.dmpAt (((x.toNat - 1 : Nat) : Int) + 1)).nd.rg])) el_32 Z rfl (Z.srcO 0 rfl) (Yg _ _).symm (Rm.of (by first | omega | (simp <;> omega)) (by decide)) rfl rfl (fun a3 c2 w Z => ?_)
    replace Z := Z.n7 L (a0 := Zf 64 1 (Za [(A.dmpAt (((x.toNat - 1 : Nat) : Int) + 1)).nd.lf, (A.dmpAt (((x.toNat - 1 : Nat) : Int) + 1)).nd.rg]) (some ⟨b5, 0, none⟩) (List.length (Za [(A.dmpAt (((x.toNat - 1 : Nat) : Int) + 1)).nd.lf, (A.dmpAt (((x.toNat - 1 : Nat) : Int) + 1)).nd.rg]))) (a3 := Zf 64 1 (Za (wt ++ [(A.dmpAt (((x.toNat - 1 : Nat) : Int) + 1)).nd.lf, (A.dmpAt (((x.toNat - 1 : Nat) : Int) + 1)).nd.rg])) a3 c2) rfl
    refine WL.r 1 rfl <| WL.nil ?_
    exact ⟨_, by omega, bs.set (x.toNat - 1) true, wt ++ [(A.dmpAt (((x.toNat - 1 : Nat) : Int) + 1)).nd.lf, (A.dmpAt (((x.toNat - 1 : Nat) : Int) + 1)).nd.rg], _, _, rfl, (Z.sel 6 [3, 3, 3, 2] rfl), (by rw [hnd, show x.toNat - 1 = (x - 1).toNat by omega]; exact hI.mark hor.1 (by omega) (Zpf hA hor.1 hok)), (by omega), rfl⟩
 ·refine WC.exit <| WC.seq <| WC.region <| WL.r 2 rfl <| WL.nil <| WC.ret ?_
  refine ⟨[.slice (some ⟨b2, 0, none⟩) A.s.cap.toNat A.s.cap.toNat], rfl, ?_⟩
  replace Z := (Z.sel 3 [1] rfl)
  exact ⟨bs, _, _, by rw [Zv, hI.len]; rfl, Z, hI.len, by have e9 : ws = [] := (by have := Zk ws; exact List.eq_nil_of_length_eq_zero (by omega)); subst e9; exact hI.all hA⟩
end Go.Proofs.YtbeacjcmdijdmaaGreat
namespace Go.Proofs.YtbeacjcmdijdmaaGreat
open Go Go.V Go.RowKit
theorem Zl4 {A : AM} {R : List Int} (h : ARf A R) {n : Nat} (hn : n < A.s.cap.toNat) : (((SM.order A.s).count ((n : Int) + 1) : Nat) : Int) = if A.s.ok ((n : Int) + 1) = true then 0 else 1 := by
 have hcr := Yj h
 rw [Zdh h.s (by omega) (by omega)]
 split <;> rfl
theorem Zix {A : AM} {R : List Int} (h : ARf A R) {n : Nat} (hok : A.s.ok ((n : Int) + 1) = true) : ((A.kids.count ((n : Int) + 1) : Nat) : Int) + ((R.count ((n : Int) + 1) : Nat) : Int) = A.cntD ((n : Int) + 1) := by
 have h1 := (h.cnt ((n : Int) + 1) hok (by omega)).1
 rw [List.count_append] at h1
 unfold AM.cntD; rw [if_pos hok]; omega
theorem Zms {A : AM} {R : List Int} (h : ARf A R) (i : Int) : A.cntD i ≤ 2000000000 := by
 unfold AM.cntD
 split
 ·rename_i hi
  by_cases h0 : 0 ≤ i
  ·exact (h.cnt_le hi h0).2
  ·exfalso
   have e : i.toNat = 0 := by omega
   have hu := h.s.u0
   unfold SM.ok at hi hu
   rw [e] at hi
   rw [show (0 : Int).toNat = 0 from rfl] at hu
   rw [hu] at hi; cases hi
 ·omega
theorem c5_no {A : AM} {n : Nat} (hok : ¬ A.s.ok ((n : Int) + 1) = true) : (0 : Int) = A.cntD ((n : Int) + 1) := by
 unfold AM.cntD; rw [if_neg hok]
def szK (A : AM) (x y : Int) (k : Nat) : Int := if k = 0 then 1 else if k = 1 then 1 + A.sz x else 1 + A.sz x + A.sz y
theorem Zeg {A : AM} {x y v : Int} {k : Nat} (hv : [x, y][k]? = some v) : szK A x y (k + 1) = szK A x y k + A.sz v := by
 match k, hv with
 | 0, hv => cases hv; rfl
 | 1, hv => cases hv; rfl
theorem Zn6 {A : AM} {R : List Int} (h : ARf A R) {j : Int} (h1 : 1 ≤ j) (hok : A.s.ok j = true) (k : Nat) : 1 ≤ szK A (A.nd j).lf (A.nd j).rg k ∧ szK A (A.nd j).lf (A.nd j).rg k ≤ 2147483647 := by
 have h2 := h.sz j hok (by omega)
 have h3 : ∀ c, 0 ≤ A.sz c := fun c => by
  unfold AM.sz
  split
  ·rename_i hc
   by_cases c0 : 0 ≤ c
   ·have := h.pos c hc c0; omega
   ·exfalso
    have e : c.toNat = 0 := by omega
    have hu := h.s.u0
    unfold SM.ok at hc hu
    rw [e] at hc
    rw [show (0 : Int).toNat = 0 from rfl] at hu
    rw [hu] at hc; cases hc
  ·omega
 have h4 := h3 (A.nd j).lf
 have h5 := h3 (A.nd j).rg
 unfold szK
 split
 ·omega
 ·split <;> omega
theorem Zpr {x y v : Int} {k : Nat} (h : [x, y][k]? = some v) : v = x ∨ v = y := by
 match k, h with
 | 0, h => cases h; exact .inl rfl
 | 1, h => cases h; exact .inr rfl
theorem sz_no {A : AM} {c : Int} (h : ¬ A.s.ok c = true) : A.sz c = 0 := if_neg h
set_option maxHeartbeats 4000000 in
theorem Zkf {g w : World} {L : List HP} (A : AM) (R : List Int) (da fa ra : Option Addr) (dc fc rc : Nat) (hA : ARf A R) (hRl : R.length ≤ 1000000) (Z : St g (Sh 174 11 (Zo (AM.dmp A)) da dc :: Sh 64 1 (Za (SM.order A.s)) fa fc :: Sh 64 1 (Za R) ra rc :: L) w) :
  Sp Tryz.prog 184 [.agg #[.slice da (Zo (AM.dmp A)).length dc, .slice fa (Za (SM.order A.s)).length fc], .slice ra (Za R).length rc] w (fun v w' => v = .slice none 0 0 ∧ St g (Sh 174 11 (Zo (AM.dmp A)) da dc :: Sh 64 1 (Za (SM.order A.s)) fa fc :: Sh 64 1 (Za R) ra rc :: L) w') := by
 refine Sp.enter Tryz.func184 rfl (by kernel_rfl) (by kernel_rfl) ?_
 refine WC.seq <| WC.region <| WL.box rfl rfl #[.slice da (Zo (AM.dmp A)).length dc, .slice fa (Za (SM.order A.s)).length fc] Z rfl rfl (fun b1 w Z => ?_)
 refine WL.r 1 rfl <| WL.nil <| WC.seq <| WC.region <| WL.r 1 rfl <| WL.nil <| WC.seq <| WC.plan [([0, 2, 3], some (1, [2, 3])), ([], some (4, [])), ([5, 6], none)] (by kernel_rfl) (by kernel_rfl) ?_
 have hn := Zac A; have hcr := Yj hA; have hul := Zk R; have hol := Zk (SM.order A.s); have hog := Zf7 hA.s; have hfr := hA.s.free_rng; have hor := Zha hA.s; have hce : (((Zo (AM.dmp A)).length : Nat) : Int) = A.s.cap := (by omega)
 refine WQ.ldF rfl rfl 0 Z rfl rfl ZA <| WQ.ldF rfl rfl 0 Z rfl rfl ZA <| WQ.r 1 rfl <| WQ.nil ?_
 intro m1
 replace Z := Z.drewN m1; generalize hwm1 : World.drewN _ _ = w at *; clear hwm1
 refine WL.call rfl rfl (Zlg (A := A) (R := R) (fa := fa) (fc := fc) (hA := hA) (Z := (Z.sel 2 [1, 0] rfl))) rfl ?_
 clear Z; rintro _ w ⟨u1, d1, rfl, Z⟩
 replace Z := Z.n5 L (a0 := Zf 3 1 (Zb (Zw A.kids A.s.cap.toNat)) u1 d1) (a2 := Ze b1 #[.slice da (Zo (AM.dmp A)).length dc, .slice fa (Za (SM.order A.s)).length fc] 62) rfl
 refine WL.nil ?_
 refine ⟨by exact ⟨RQ.ldF rfl rfl 2 Z rfl rfl ZA rfl rfl, RQ.pure rfl rfl rfl rfl⟩, ?_⟩
 refine WQ.nil ?_
 intro m2
 replace Z := Z.drewN m2; generalize hwm2 : World.drewN _ _ = w at *; clear hwm2
 refine WL.call rfl rfl (Zi2 (A := A) (fa := fa) (fc := fc) (hA := hA) (hRl := hRl) (Z := (Z.sel 5 [1, 3, 0, 0, 0] rfl))) rfl ?_
 clear Z; rintro _ w ⟨bs1, u2, d2, rfl, Z, f1, f2⟩
 replace Z := Z.n6 L (a0 := Zf 4 1 (Zc bs1) u2 d2) rfl
 refine WL.nil ?_
 refine ⟨by exact trivial, ?_⟩
 refine WQ.r 2 rfl <| WQ.nil ?_
 intro m3
 replace Z := Z.drewN m3; generalize hwm3 : World.drewN _ _ = w at *; clear hwm3
 as_aux_lemma =>
 refine WC.seq <| WC.plan [([0, 2, 6, 7, 1, 3, 8, 4, 9], some (5, [6, 7, 8, 9])), ([], some (10, [])), ([11, 12], none)] (by kernel_rfl) (by kernel_rfl) ?_
 refine WQ.run 9 [.slice fa (Za (SM.order A.s)).length fc, .slice da (Zo (AM.dmp A)).length dc, .slice da (Zo (AM.dmp A)).length dc] rfl (by exact ⟨Z.ld 4 rfl rfl, Z.ld 4 rfl rfl, Z.ld 4 rfl rfl⟩) ?_
 refine WQ.nil ?_
 intro m4
 replace Z := Z.drewN m4; generalize hwm4 : World.drewN _ _ = w at *; clear hwm4
 refine WL.call rfl rfl (Zaf (l := SM.order A.s) (n := List.length (Zo (AM.dmp A))) (hn := (by omega)) (hl := (by omega)) (hr := (fun x hx => by have := hor x hx; omega)) (Z := (Z.sel 6 [5, 0, 0, 0, 0, 0] rfl))) rfl ?_
 clear Z; rintro _ w ⟨u3, d3, rfl, Z⟩
 replace Z := Z.n7 L (a0 := Zf 3 1 (Zb (Zw (SM.order A.s) (Zo (AM.dmp A)).length)) u3 d3) rfl
 refine WL.nil ?_
 refine ⟨by exact ⟨RQ.pure rfl rfl rfl rfl, RQ.pure rfl rfl rfl rfl, RQ.load rfl rfl rfl rfl (Z.ld 6 rfl rfl), RQ.pure rfl rfl rfl rfl⟩, ?_⟩
 refine WQ.nil ?_
 intro m5
 replace Z := Z.drewN m5; generalize hwm5 : World.drewN _ _ = w at *; clear hwm5
 refine WL.call rfl rfl (Zaf (n := List.length (Zo (AM.dmp A))) (hn := (by omega)) (hl := (by omega)) (hr := (Zch hA)) (Z := (Z.sel 5 [4, 0, 0, 0, 0] rfl))) rfl ?_
 clear Z; rintro _ w ⟨u4, d4, rfl, Z⟩
 replace Z := Z.n8 L (a0 := Zf 3 1 (Zb (Zw R (Zo (AM.dmp A)).length)) u4 d4) rfl
 refine WL.nil ?_
 refine ⟨by exact trivial, ?_⟩
 refine WQ.r 2 rfl <| WQ.nil ?_
 intro m6
 replace Z := Z.drewN m6; generalize hwm6 : World.drewN _ _ = w at *; clear hwm6
 refine WC.seq <| WC.seq <| WC.region <| WL.r 1 rfl <| WL.nil ?_
 as_aux_lemma =>
 refine WC.block <| WC.loop [1, 2, 4, 5, 6, 7, 8, 9, 10] (fun kM vs w => ∃ (n : Nat), vs = [.slice ra (Za R).length rc, .pointer (some ⟨b1, 0, none⟩), .slice none 0 0, .slice none 0 0, .slice u1 (Zb (Zw A.kids A.s.cap.toNat)).length d1, .slice u2 (Zc bs1).length d2, .slice u3 (List.length (Zb (Zw (SM.order A.s) (Zo (AM.dmp A)).length))) d3, .slice u4 (List.length (Zb (Zw R (Zo (AM.dmp A)).length))) d4, .int .i64 (n : Int)] ∧ St g (Zf 3 1 (Zb (Zw R (Zo (AM.dmp A)).length)) u4 d4 :: Sh 64 1 (Za R) ra rc :: Zf 3 1 (Zb (Zw (SM.order A.s) (Zo (AM.dmp A)).length)) u3 d3 :: Sh 64 1 (Za (SM.order A.s)) fa fc :: Zf 4 1 (Zc bs1) u2 d2 :: Sh 174 11 (Zo (AM.dmp A)) da dc :: Zf 3 1 (Zb (Zw A.kids A.s.cap.toNat)) u1 d1 :: Ze b1 #[.slice da (Zo (AM.dmp A)).length dc, .slice fa (Za (SM.order A.s)).length fc] 62 :: L) w ∧ (n ≤ A.s.cap.toNat) ∧ (A.s.cap.toNat - n) = kM) (A.s.cap.toNat - 0) ⟨0, rfl, Z, (Nat.zero_le _), rfl⟩ ?_
 clear Z; rintro _ _ w j ⟨n, rfl, Z, hnl, rfl⟩
 refine WC.seq <| WC.seq <| WC.region <| WL.run 5 [.slice da (Zo (AM.dmp A)).length dc] rfl (by exact Z.ld 7 rfl rfl) ?_
 refine WL.nil <| WC.ifP rfl (fun cd1 => ?_) (fun cd1 => ?_)
 ·refine WC.skip <| WC.seq <| WC.block <| WC.seq <| WC.plan [([0, 3, 5, 1, 4, 2, 6, 7], some (8, [0, 1, 2, 3, 4, 5, 6, 7])), ([9], some (10, []))] (by kernel_rfl) (by kernel_rfl) ?_
  refine WQ.r 4 rfl <| WQ.nw 45 rfl (Zr (by omega)) ?_
  refine WQ.run 2 [.slice da (Zo (AM.dmp A)).length dc] rfl (by exact Z.ld 7 rfl rfl) ?_
  refine WQ.nw 46 rfl (Yq (by omega)) ?_
  have hkl := YB A.kids A.s.cap.toNat; have hrl := YB R (Zo (AM.dmp A)).length; have hdl := YB (SM.order A.s) (Zo (AM.dmp A)).length; have hi1 := Zh (Zw A.kids A.s.cap.toNat); have hi2 := Zh (Zw R (Zo (AM.dmp A)).length); have hi3 := Zh (Zw (SM.order A.s) (Zo (AM.dmp A)).length); have hbl := Zv bs1
  refine WQ.ix rfl rfl (i := (n : Int)) (n) el_60 rfl rfl (by omega) (by omega) (Z.rdS 5 rfl (Yd (AM.dmp_at (A := A) (k := n) (by omega)))).1 ?_
  refine WQ.ldC rfl rfl [.bool (A.dmpAt ((n : Int) + 1)).al, .int .i64 (A.dmpAt ((n : Int) + 1)).cn, .int .u32 (A.dmpAt ((n : Int) + 1)).ge, .int .i64 (A.dmpAt ((n : Int) + 1)).nd.key, .int .i64 (A.dmpAt ((n : Int) + 1)).nd.val, .int .u32 (A.dmpAt ((n : Int) + 1)).nd.lf, .int .u32 (A.dmpAt ((n : Int) + 1)).nd.rg, .int .i64 (A.dmpAt ((n : Int) + 1)).nd.size, .int .i64 (A.dmpAt ((n : Int) + 1)).nd.sum, .int .i64 (A.dmpAt ((n : Int) + 1)).nd.mn, .int .i64 (A.dmpAt ((n : Int) + 1)).nd.mx] Jn rfl (Z.rdS 5 rfl (Yd (AM.dmp_at (A := A) (k := n) (by omega)))).2 ?_
  refine WQ.nil ?_
  intro m7
  replace Z := Z.drewN m7; generalize hwm7 : World.drewN _ _ = w at *; clear hwm7
  refine WL.new rfl rfl Zka Z (fun b2 w Z => ?_)
  refine WL.nil ?_
  refine ⟨by exact ⟨RQ.pure rfl rfl rfl rfl, RQ.pure rfl rfl rfl (congrArg (Value.int .i64) (Eq.symm (Zr (by omega)))), RQ.pure rfl rfl rfl (congrArg (Value.int .u32) (Eq.symm (Yq (by omega)))), RQ.pure rfl rfl rfl rfl, RQ.load rfl rfl rfl rfl (Z.ld 8 rfl rfl), RQ.pure rfl rfl rfl rfl, RQ.ix rfl rfl (i := (n : Int)) (n) el_60 rfl rfl (by omega) (by omega) (Z.rdS 6 rfl (Yd (AM.dmp_at (A := A) (k := n) (by omega)))).1 rfl rfl, RQ.ldC rfl rfl [.bool (A.dmpAt ((n : Int) + 1)).al, .int .i64 (A.dmpAt ((n : Int) + 1)).cn, .int .u32 (A.dmpAt ((n : Int) + 1)).ge, .int .i64 (A.dmpAt ((n : Int) + 1)).nd.key, .int .i64 (A.dmpAt ((n : Int) + 1)).nd.val, .int .u32 (A.dmpAt ((n : Int) + 1)).nd.lf, .int .u32 (A.dmpAt ((n : Int) + 1)).nd.rg, .int .i64 (A.dmpAt ((n : Int) + 1)).nd.size, .int .i64 (A.dmpAt ((n : Int) + 1)).nd.sum, .int .i64 (A.dmpAt ((n : Int) + 1)).nd.mn, .int .i64 (A.dmpAt ((n : Int) + 1)).nd.mx] Jn rfl (Z.rdS 6 rfl (Yd (AM.dmp_at (A := A) (k := n) (by omega)))).2 rfl rfl⟩, ?_⟩
  refine WQ.r 1 rfl <| WQ.nil ?_
  intro m8
  replace Z := Z.drewN m8; generalize hwm8 : World.drewN _ _ = w at *; clear hwm8
  refine WL.stF rfl rfl rfl 0 Z rfl rfl rfl rfl rfl Jn (fun w Z => ?_)
  replace Z := Z.n9 L (a0 := Ze b2 #[.bool (A.dmpAt ((n : Int) + 1)).al, .int .i64 (A.dmpAt ((n : Int) + 1)).cn, .int .u32 (A.dmpAt ((n : Int) + 1)).ge, .int .i64 (A.dmpAt ((n : Int) + 1)).nd.key, .int .i64 (A.dmpAt ((n : Int) + 1)).nd.val, .int .u32 (A.dmpAt ((n : Int) + 1)).nd.lf, .int .u32 (A.dmpAt ((n : Int) + 1)).nd.rg, .int .i64 (A.dmpAt ((n : Int) + 1)).nd.size, .int .i64 (A.dmpAt ((n : Int) + 1)).nd.sum, .int .i64 (A.dmpAt ((n : Int) + 1)).nd.mn, .int .i64 (A.dmpAt ((n : Int) + 1)).nd.mx] 174) rfl
  refine WL.nil ?_
  refine ⟨by exact trivial, ?_⟩
  intro m9
  replace Z := Z.drewN m9; generalize hwm9 : World.drewN _ _ = w at *; clear hwm9
  as_aux_lemma =>
  refine WC.seq <| WC.region <| WL.r 1 rfl <| WL.nil <| WC.seq <| WC.seq <| WC.region <| WL.run 2 [.bool (A.dmpAt ((n : Int) + 1)).al] rfl (by exact Z.ld 0 rfl rfl) ?_
  refine WL.nil <| WC.cut [1, 2, 4, 5, 6, 7, 8, 9, 10, 11, 12, 13, 37, 38, 39, 40, 41, 44, 45, 46, 47, 48, 49, 50, 51, 52, 53] (fun vs w => ∃ (fr : Int), vs = [.slice ra (Za R).length rc, .pointer (some ⟨b1, 0, none⟩), .slice none 0 0, .slice none 0 0, .slice u1 (Zb (Zw A.kids A.s.cap.toNat)).length d1, .slice u2 (Zc bs1).length d2, .slice u3 (List.length (Zb (Zw (SM.order A.s) (Zo (AM.dmp A)).length))) d3, .slice u4 (List.length (Zb (Zw R (Zo (AM.dmp A)).length))) d4, .int .i64 (n : Int), .int .u32 ((n : Int) + 1), .pointer (some ⟨b2, 0, none⟩), .int .i64 fr, .int .i64 (n : Int), .pointer (some ⟨b1, 0, none⟩), .slice da (Zo (AM.dmp A)).length dc, .int .i64 (List.length (Zo (AM.dmp A)) : Int), .bool (decide ((n : Int) < (List.length (Zo (AM.dmp A)) : Int))), .int .i64 (n : Int), .int .i64 ((n : Int) + 1), .int .u32 ((n : Int) + 1), .pointer (some ⟨b1, 0, none⟩), .slice da (Zo (AM.dmp A)).length dc, .int .i64 (n : Int), .pointer (some ⟨bo da, (oo da) + (n * 11), none⟩), .agg #[.bool (A.dmpAt ((n : Int) + 1)).al, .int .i64 (A.dmpAt ((n : Int) + 1)).cn, .int .u32 (A.dmpAt ((n : Int) + 1)).ge, .int .i64 (A.dmpAt ((n : Int) + 1)).nd.key, .int .i64 (A.dmpAt ((n : Int) + 1)).nd.val, .int .u32 (A.dmpAt ((n : Int) + 1)).nd.lf, .int .u32 (A.dmpAt ((n : Int) + 1)).nd.rg, .int .i64 (A.dmpAt ((n : Int) + 1)).nd.size, .int .i64 (A.dmpAt ((n : Int) + 1)).nd.sum, .int .i64 (A.dmpAt ((n : Int) + 1)).nd.mn, .int .i64 (A.dmpAt ((n : Int) + 1)).nd.mx], .pointer (some ⟨b2, 0, none⟩), .bool (A.dmpAt ((n : Int) + 1)).al] ∧ St g (Ze b2 #[.bool (A.dmpAt ((n : Int) + 1)).al, .int .i64 (A.dmpAt ((n : Int) + 1)).cn, .int .u32 (A.dmpAt ((n : Int) + 1)).ge, .int .i64 (A.dmpAt ((n : Int) + 1)).nd.key, .int .i64 (A.dmpAt ((n : Int) + 1)).nd.val, .int .u32 (A.dmpAt ((n : Int) + 1)).nd.lf, .int .u32 (A.dmpAt ((n : Int) + 1)).nd.rg, .int .i64 (A.dmpAt ((n : Int) + 1)).nd.size, .int .i64 (A.dmpAt ((n : Int) + 1)).nd.sum, .int .i64 (A.dmpAt ((n : Int) + 1)).nd.mn, .int .i64 (A.dmpAt ((n : Int) + 1)).nd.mx] 174 :: Zf 3 1 (Zb (Zw R (Zo (AM.dmp A)).length)) u4 d4 :: Sh 64 1 (Za R) ra rc :: Zf 3 1 (Zb (Zw (SM.order A.s) (Zo (AM.dmp A)).length)) u3 d3 :: Sh 64 1 (Za (SM.order A.s)) fa fc :: Zf 4 1 (Zc bs1) u2 d2 :: Sh 174 11 (Zo (AM.dmp A)) da dc :: Zf 3 1 (Zb (Zw A.kids A.s.cap.toNat)) u1 d1 :: Ze b1 #[.slice da (Zo (AM.dmp A)).length dc, .slice fa (Za (SM.order A.s)).length fc] 62 :: L) w ∧ (fr = if A.s.ok ((n : Int) + 1) = true then 0 else 1)) ?_ ?_
  ·refine WC.if_ rfl (fun cd2 => ?_) (fun cd2 => ?_)
   ·refine WC.region <| WL.r 1 rfl <| WL.nil ?_
    exact ⟨0, rfl, Z, (if_pos cd2).symm⟩
   ·refine WC.skip ?_
    exact ⟨1, rfl, Z, (if_neg (Bool.eq_false_iff.1 cd2)).symm⟩
  clear Z; rintro _ w j ⟨fr, rfl, Z, hfe⟩
  refine WC.seq <| WC.seq <| WC.region <| WL.r 2 rfl <| WL.ix rfl rfl (i := (n : Int)) (n) el_56 rfl rfl (by omega) (by omega) (Z.rdO 3 rfl (Zd (YK (l := SM.order A.s) (n := (Zo (AM.dmp A)).length) (k := n) (by omega)))).1 ?_
  refine WL.run 2 [.int .i64 (((SM.order A.s).count ((n : Int) + 1) : Nat) : Int)] rfl (by exact (Z.rdO 3 rfl (Zd (YK (l := SM.order A.s) (n := (Zo (AM.dmp A)).length) (k := n) (by omega)))).2 0 _ rfl) ?_
  refine WL.nil <| WC.seq <| WC.region <| WL.r 3 rfl <| WL.nil <| WC.ifF rfl (decide_eq_false ((by rw [hfe, Zl4 hA (by omega)]; simp))) ?_
  refine WC.skip <| WC.seq <| WC.region <| WL.r 1 rfl <| WL.nil ?_
  as_aux_lemma =>
  refine WC.seq <| WC.seq <| WC.region <| WL.run 2 [.bool (A.dmpAt ((n : Int) + 1)).al] rfl (by exact Z.ld 0 rfl rfl) ?_
  refine WL.nil <| WC.cut [1, 2, 4, 5, 6, 7, 8, 9, 10, 11, 12, 13, 14, 15, 37, 38, 39, 40, 41, 44, 45, 46, 47, 48, 49, 50, 51, 52, 53, 54, 55, 56, 57, 58, 59, 60, 68, 69] (fun vs w => ∃ (ct : Int), vs = [.slice ra (Za R).length rc, .pointer (some ⟨b1, 0, none⟩), .slice none 0 0, .slice none 0 0, .slice u1 (Zb (Zw A.kids A.s.cap.toNat)).length d1, .slice u2 (Zc bs1).length d2, .slice u3 (List.length (Zb (Zw (SM.order A.s) (Zo (AM.dmp A)).length))) d3, .slice u4 (List.length (Zb (Zw R (Zo (AM.dmp A)).length))) d4, .int .i64 (n : Int), .int .u32 ((n : Int) + 1), .pointer (some ⟨b2, 0, none⟩), .int .i64 fr, .int .i64 (((SM.order A.s).count ((n : Int) + 1) : Nat) : Int), .int .i64 ct, .int .i64 (n : Int), .pointer (some ⟨b1, 0, none⟩), .slice da (Zo (AM.dmp A)).length dc, .int .i64 (List.length (Zo (AM.dmp A)) : Int), .bool (decide ((n : Int) < (List.length (Zo (AM.dmp A)) : Int))), .int .i64 (n : Int), .int .i64 ((n : Int) + 1), .int .u32 ((n : Int) + 1), .pointer (some ⟨b1, 0, none⟩), .slice da (Zo (AM.dmp A)).length dc, .int .i64 (n : Int), .pointer (some ⟨bo da, (oo da) + (n * 11), none⟩), .agg #[.bool (A.dmpAt ((n : Int) + 1)).al, .int .i64 (A.dmpAt ((n : Int) + 1)).cn, .int .u32 (A.dmpAt ((n : Int) + 1)).ge, .int .i64 (A.dmpAt ((n : Int) + 1)).nd.key, .int .i64 (A.dmpAt ((n : Int) + 1)).nd.val, .int .u32 (A.dmpAt ((n : Int) + 1)).nd.lf, .int .u32 (A.dmpAt ((n : Int) + 1)).nd.rg, .int .i64 (A.dmpAt ((n : Int) + 1)).nd.size, .int .i64 (A.dmpAt ((n : Int) + 1)).nd.sum, .int .i64 (A.dmpAt ((n : Int) + 1)).nd.mn, .int .i64 (A.dmpAt ((n : Int) + 1)).nd.mx], .pointer (some ⟨b2, 0, none⟩), .bool (A.dmpAt ((n : Int) + 1)).al, .slice u3 (List.length (Zb (Zw (SM.order A.s) (Zo (AM.dmp A)).length))) d3, .int .i64 (n : Int), .pointer (some ⟨bo u3, (oo u3) + (n * 1), none⟩), .int .i64 (((SM.order A.s).count ((n : Int) + 1) : Nat) : Int), .int .i64 (((SM.order A.s).count ((n : Int) + 1) : Nat) : Int), .int .i64 fr, .bool (decide ((((SM.order A.s).count ((n : Int) + 1) : Nat) : Int) ≠ fr)), .pointer (some ⟨b2, 0, none⟩), .bool (A.dmpAt ((n : Int) + 1)).al] ∧ St g (Ze b2 #[.bool (A.dmpAt ((n : Int) + 1)).al, .int .i64 (A.dmpAt ((n : Int) + 1)).cn, .int .u32 (A.dmpAt ((n : Int) + 1)).ge, .int .i64 (A.dmpAt ((n : Int) + 1)).nd.key, .int .i64 (A.dmpAt ((n : Int) + 1)).nd.val, .int .u32 (A.dmpAt ((n : Int) + 1)).nd.lf, .int .u32 (A.dmpAt ((n : Int) + 1)).nd.rg, .int .i64 (A.dmpAt ((n : Int) + 1)).nd.size, .int .i64 (A.dmpAt ((n : Int) + 1)).nd.sum, .int .i64 (A.dmpAt ((n : Int) + 1)).nd.mn, .int .i64 (A.dmpAt ((n : Int) + 1)).nd.mx] 174 :: Zf 3 1 (Zb (Zw R (Zo (AM.dmp A)).length)) u4 d4 :: Sh 64 1 (Za R) ra rc :: Zf 3 1 (Zb (Zw (SM.order A.s) (Zo (AM.dmp A)).length)) u3 d3 :: Sh 64 1 (Za (SM.order A.s)) fa fc :: Zf 4 1 (Zc bs1) u2 d2 :: Sh 174 11 (Zo (AM.dmp A)) da dc :: Zf 3 1 (Zb (Zw A.kids A.s.cap.toNat)) u1 d1 :: Ze b1 #[.slice da (Zo (AM.dmp A)).length dc, .slice fa (Za (SM.order A.s)).length fc] 62 :: L) w ∧ (ct = A.cntD ((n : Int) + 1))) ?_ ?_
  ·refine WC.if_ rfl (fun cd2 => ?_) (fun cd2 => ?_)
   ·refine WC.seq <| WC.region <| WL.ldF rfl rfl 0 Z rfl rfl Jn <| WL.call rfl rfl (Zb1 (x := A.dmpAt ((n : Int) + 1))  (Z := Z)) rfl ?_
    clear Z; rintro _ w ⟨rfl, Z⟩
    replace Z := Z.n9 L rfl
    refine WL.new rfl rfl JX Z (fun b3 w Z => ?_)
    refine WL.stF rfl rfl rfl 0 Z rfl rfl rfl rfl rfl QX (fun w Z => ?_)
    replace Z := Z.n10 L (a0 := Ze b3 #[.int .u32 (A.dmpAt ((n : Int) + 1)).nd.lf, .int .u32 (A.dmpAt ((n : Int) + 1)).nd.rg] 302) rfl
    refine WL.nil <| WC.seq <| WC.region <| WL.r 1 rfl <| WL.nil <| WC.seq <| WC.seq <| WC.region <| WL.r 1 rfl <| WL.nil ?_
    as_aux_lemma =>
    refine WC.block <| WC.loop [1, 2, 4, 5, 6, 7, 8, 9, 10, 11, 12, 13, 14, 15, 16, 17, 18, 37, 38, 39, 40, 41, 44, 45, 46, 47, 48, 49, 50, 51, 52, 53, 54, 55, 56, 57, 58, 59, 60, 68, 69, 70, 71] (fun kM vs w => ∃ (k : Nat) (sz : Int), vs = [.slice ra (Za R).length rc, .pointer (some ⟨b1, 0, none⟩), .slice none 0 0, .slice none 0 0, .slice u1 (Zb (Zw A.kids A.s.cap.toNat)).length d1, .slice u2 (Zc bs1).length d2, .slice u3 (List.length (Zb (Zw (SM.order A.s) (Zo (AM.dmp A)).length))) d3, .slice u4 (List.length (Zb (Zw R (Zo (AM.dmp A)).length))) d4, .int .i64 (n : Int), .int .u32 ((n : Int) + 1), .pointer (some ⟨b2, 0, none⟩), .int .i64 fr, .int .i64 (((SM.order A.s).count ((n : Int) + 1) : Nat) : Int), .int .i64 0, .pointer (some ⟨b3, 0, none⟩), .int .i64 sz, .int .i64 (k : Int), .int .i64 (n : Int), .pointer (some ⟨b1, 0, none⟩), .slice da (Zo (AM.dmp A)).length dc, .int .i64 (List.length (Zo (AM.dmp A)) : Int), .bool (decide ((n : Int) < (List.length (Zo (AM.dmp A)) : Int))), .int .i64 (n : Int), .int .i64 ((n : Int) + 1), .int .u32 ((n : Int) + 1), .pointer (some ⟨b1, 0, none⟩), .slice da (Zo (AM.dmp A)).length dc, .int .i64 (n : Int), .pointer (some ⟨bo da, (oo da) + (n * 11), none⟩), .agg #[.bool (A.dmpAt ((n : Int) + 1)).al, .int .i64 (A.dmpAt ((n : Int) + 1)).cn, .int .u32 (A.dmpAt ((n : Int) + 1)).ge, .int .i64 (A.dmpAt ((n : Int) + 1)).nd.key, .int .i64 (A.dmpAt ((n : Int) + 1)).nd.val, .int .u32 (A.dmpAt ((n : Int) + 1)).nd.lf, .int .u32 (A.dmpAt ((n : Int) + 1)).nd.rg, .int .i64 (A.dmpAt ((n : Int) + 1)).nd.size, .int .i64 (A.dmpAt ((n : Int) + 1)).nd.sum, .int .i64 (A.dmpAt ((n : Int) + 1)).nd.mn, .int .i64 (A.dmpAt ((n : Int) + 1)).nd.mx], .pointer (some ⟨b2, 0, none⟩), .bool (A.dmpAt ((n : Int) + 1)).al, .slice u3 (List.length (Zb (Zw (SM.order A.s) (Zo (AM.dmp A)).length))) d3, .int .i64 (n : Int), .pointer (some ⟨bo u3, (oo u3) + (n * 1), none⟩), .int .i64 (((SM.order A.s).count ((n : Int) + 1) : Nat) : Int), .int .i64 (((SM.order A.s).count ((n : Int) + 1) : Nat) : Int), .int .i64 fr, .bool (decide ((((SM.order A.s).count ((n : Int) + 1) : Nat) : Int) ≠ fr)), .pointer (some ⟨b2, 0, none⟩), .bool (A.dmpAt ((n : Int) + 1)).al, .agg #[.bool (A.dmpAt ((n : Int) + 1)).al, .int .i64 (A.dmpAt ((n : Int) + 1)).cn, .int .u32 (A.dmpAt ((n : Int) + 1)).ge, .int .i64 (A.dmpAt ((n : Int) + 1)).nd.key, .int .i64 (A.dmpAt ((n : Int) + 1)).nd.val, .int .u32 (A.dmpAt ((n : Int) + 1)).nd.lf, .int .u32 (A.dmpAt ((n : Int) + 1)).nd.rg, .int .i64 (A.dmpAt ((n : Int) + 1)).nd.size, .int .i64 (A.dmpAt ((n : Int) + 1)).nd.sum, .int .i64 (A.dmpAt ((n : Int) + 1)).nd.mn, .int .i64 (A.dmpAt ((n : Int) + 1)).nd.mx], .agg #[.int .u32 (A.dmpAt ((n : Int) + 1)).nd.lf, .int .u32 (A.dmpAt ((n : Int) + 1)).nd.rg]] ∧ St g (Ze b3 (kd2 (A.nd ((n : Int) + 1)).lf (A.nd ((n : Int) + 1)).rg) 302 :: Ze b2 #[.bool (A.dmpAt ((n : Int) + 1)).al, .int .i64 (A.dmpAt ((n : Int) + 1)).cn, .int .u32 (A.dmpAt ((n : Int) + 1)).ge, .int .i64 (A.dmpAt ((n : Int) + 1)).nd.key, .int .i64 (A.dmpAt ((n : Int) + 1)).nd.val, .int .u32 (A.dmpAt ((n : Int) + 1)).nd.lf, .int .u32 (A.dmpAt ((n : Int) + 1)).nd.rg, .int .i64 (A.dmpAt ((n : Int) + 1)).nd.size, .int .i64 (A.dmpAt ((n : Int) + 1)).nd.sum, .int .i64 (A.dmpAt ((n : Int) + 1)).nd.mn, .int .i64 (A.dmpAt ((n : Int) + 1)).nd.mx] 174 :: Zf 3 1 (Zb (Zw R (Zo (AM.dmp A)).length)) u4 d4 :: Sh 64 1 (Za R) ra rc :: Zf 3 1 (Zb (Zw (SM.order A.s) (Zo (AM.dmp A)).length)) u3 d3 :: Sh 64 1 (Za (SM.order A.s)) fa fc :: Zf 4 1 (Zc bs1) u2 d2 :: Sh 174 11 (Zo (AM.dmp A)) da dc :: Zf 3 1 (Zb (Zw A.kids A.s.cap.toNat)) u1 d1 :: Ze b1 #[.slice da (Zo (AM.dmp A)).length dc, .slice fa (Za (SM.order A.s)).length fc] 62 :: L) w ∧ (k ≤ 2) ∧ (sz = szK A (A.nd ((n : Int) + 1)).lf (A.nd ((n : Int) + 1)).rg k) ∧ (2 - k) = kM) (2 - 0) ⟨0, 1, rfl, Z, (Nat.zero_le _), (rfl), rfl⟩ ?_
    clear Z; rintro _ _ w j ⟨k, sz, rfl, Z, hk, hsz, rfl⟩
    refine WC.seq <| WC.seq <| WC.region <| WL.r 2 rfl <| WL.nil <| WC.ifP rfl (fun cd3 => ?_) (fun cd3 => ?_)
    ·refine WC.skip <| WC.seq <| WC.block <| WC.seq <| WC.plan [([0, 1, 2, 3], some (4, []))] (by kernel_rfl) (by kernel_rfl) ?_
     obtain ⟨v, hv⟩ : ∃ v, [(A.nd ((n : Int) + 1)).lf, (A.nd ((n : Int) + 1)).rg][k]? = some v := ⟨_, List.getElem?_eq_getElem (by show k < 2; omega)⟩; have hvr := Zh6 hA hv
     refine WQ.ldF rfl rfl 9 Z rfl rfl ZA <| WQ.r 1 rfl <| WQ.ixP rfl rfl (k) XL rfl rfl (by omega) (by omega) ?_
     refine WQ.run 1 [.int .u32 v] rfl (by exact Z.ld 0 rfl (JZ hv)) ?_
     refine WQ.nil ?_
     intro m10
     replace Z := Z.drewN m10; generalize hwm10 : World.drewN _ _ = w at *; clear hwm10
     refine WL.call rfl rfl (XQ (A := A) (fa := fa) (fc := fc) (i := v) (hA := hA) (hi := (by omega)) (Z := (Z.sel 8 [7, 0, 0, 0, 0, 0, 0, 0] rfl))) rfl ?_
     clear Z; rintro _ w ⟨b4, rfl, Z, f3⟩
     replace Z := Z.n10 L rfl
     refine WL.nil ?_
     refine ⟨by exact trivial, ?_⟩
     intro m11
     replace Z := Z.drewN m11; generalize hwm11 : World.drewN _ _ = w at *; clear hwm11
     as_aux_lemma =>
     refine WC.if_ rfl (fun cd4 => ?_) (fun cd4 => ?_)
     ·refine WC.plan [([0, 1, 3, 2], some (4, [0, 1, 2])), ([5, 6], some (7, [0])), ([8, 9, 10, 11], some (12, []))] (by kernel_rfl) (by kernel_rfl) ?_
      have hok : A.s.ok v = true := (by rw [← f3]; exact cd4); have hor := SM.ok_rng hA.s (i := v) hvr.1 hok; have hzr := Zn6 hA (j := (n : Int) + 1) (by omega) cd2 (k + 1); rw [Zeg hv, ← hsz] at hzr; have hzv : (A.dmpAt (((v.toNat - 1 : Nat) : Int) + 1)).nd.size = A.sz v := (by rw [show ((v.toNat - 1 : Nat) : Int) + 1 = v by omega, Zc1 hok]; rfl)
      refine WQ.run 4 [.slice da (Zo (AM.dmp A)).length dc] rfl (by exact Z.ld 9 rfl rfl) ?_
      refine WQ.nil ?_
      intro m12
      replace Z := Z.drewN m12; generalize hwm12 : World.drewN _ _ = w at *; clear hwm12
      refine WL.ixP rfl rfl (k) XL rfl rfl (by omega) (by omega) ?_
      refine WL.nil ?_
      refine ⟨by exact ⟨RQ.pure rfl rfl rfl rfl, RQ.pure rfl rfl rfl rfl, RQ.load rfl rfl rfl rfl (Z.ld 9 rfl rfl)⟩, ?_⟩
      refine WQ.run 2 [.int .u32 v] rfl (by exact Z.ld 1 rfl (JZ hv)) ?_
      refine WQ.nw 87 rfl (Yq (by omega)) ?_
      refine WQ.nil ?_
      intro m13
      replace Z := Z.drewN m13; generalize hwm13 : World.drewN _ _ = w at *; clear hwm13
      refine WL.ix rfl rfl (i := v - 1) (v.toNat - 1) el_60 rfl rfl (by omega) (by omega) (Z.rdS 0 rfl (Yd (AM.dmp_at (A := A) (k := v.toNat - 1) (by omega)))).1 ?_
      refine WL.nil ?_
      refine ⟨by exact RQ.pure rfl rfl rfl rfl, ?_⟩
      refine WQ.run 4 [.int .i64 (A.dmpAt (((v.toNat - 1 : Nat) : Int) + 1)).nd.size] rfl (by exact (Z.rdS 0 rfl (Yd (AM.dmp_at (A := A) (k := v.toNat - 1) (by omega)))).2 7 _ rfl) ?_
      refine WQ.nw 92 rfl (Zr (by omega)) ?_
      refine WQ.nil ?_
      intro m14
      replace Z := Z.drewN m14; generalize hwm14 : World.drewN _ _ = w at *; clear hwm14
      refine WL.r 1 rfl <| WL.nil ?_
      refine ⟨by exact trivial, ?_⟩
      intro m15
      replace Z := Z.drewN m15; generalize hwm15 : World.drewN _ _ = w at *; clear hwm15
      as_aux_lemma =>
      refine WC.region <| WL.r 2 rfl <| WL.nw 75 rfl (Zr (by omega)) ?_
      refine WL.r 1 rfl <| WL.nil ?_
      exact ⟨_, by omega, k + 1, sz + (A.dmpAt (((v.toNat - 1 : Nat) : Int) + 1)).nd.size, rfl, (Z.sel 8 [1, 1, 1, 1, 1, 1, 1, 0] rfl), (by omega), (by rw [Zeg hv, hsz, hzv]), rfl⟩
     ·refine WC.seq <| WC.region ?_
      have hnok : ¬ A.s.ok v = true := (by rw [← f3, cd4]; decide); have hv0 : v = 0 := (hA.kid ((n : Int) + 1) cd2 (by omega) v (Zpr hv)).resolve_right (fun h => hnok h.2)
      refine WL.r 1 rfl <| WL.ixP rfl rfl (k) XL rfl rfl (by omega) (by omega) ?_
      refine WL.run 2 [.int .u32 v] rfl (by exact Z.ld 1 rfl (JZ hv)) ?_
      refine WL.nil <| WC.ifF rfl (decide_eq_false ((by omega))) ?_
      refine WC.skip <| WC.region <| WL.r 2 rfl <| WL.nw 75 rfl (Zr (by omega)) ?_
      refine WL.r 1 rfl <| WL.nil ?_
      exact ⟨_, by omega, k + 1, sz, rfl, (Z.sel 8 [1, 1, 1, 1, 1, 1, 1, 0] rfl), (by omega), (by rw [Zeg hv, hsz, sz_no hnok, Int.add_zero]), rfl⟩
    ·refine WC.exit <| WC.seq <| WC.seq <| WC.region <| WL.run 5 [.int .i64 (A.dmpAt ((n : Int) + 1)).nd.size] rfl (by exact Z.ld 1 rfl rfl) ?_
     refine WL.nil <| WC.ifF rfl (decide_eq_false ((fun h => h (by have e9 : k = 2 := (by omega); rw [hsz, e9]; exact (hA.sz ((n : Int) + 1) cd2 (by omega)).1.symm)))) ?_
     refine WC.skip <| WC.plan [([0, 1, 4, 5, 2, 6, 3, 7, 8, 9], none)] (by kernel_rfl) (by kernel_rfl) ?_
     have hct1 := List.count_le_length (a := (n : Int) + 1) (l := R); have hct2 := Zix hA (n := n) cd2; have hct3 := Zms hA ((n : Int) + 1)
     refine WQ.r 4 rfl <| WQ.ix rfl rfl (i := (n : Int)) (n) el_56 rfl rfl (by omega) (by omega) (Z.rdO 8 rfl (Zd (YK (l := A.kids) (n := A.s.cap.toNat) (k := n) (by omega)))).1 ?_
     refine WQ.ix rfl rfl (i := (n : Int)) (n) el_56 rfl rfl (by omega) (by omega) (Z.rdO 2 rfl (Zd (YK (l := R) (n := (Zo (AM.dmp A)).length) (k := n) (by omega)))).1 ?_
     refine WQ.run 3 [.int .i64 ((A.kids.count ((n : Int) + 1) : Nat) : Int), .int .i64 ((R.count ((n : Int) + 1) : Nat) : Int)] rfl (by exact ⟨(Z.rdO 8 rfl (Zd (YK (l := A.kids) (n := A.s.cap.toNat) (k := n) (by omega)))).2 0 _ rfl, (Z.rdO 2 rfl (Zd (YK (l := R) (n := (Zo (AM.dmp A)).length) (k := n) (by omega)))).2 0 _ rfl⟩) ?_
     refine WQ.nw 128 rfl (Zr (by omega)) ?_
     refine WQ.r 1 rfl <| WQ.nil ?_
     intro m10
     replace Z := Z.drewN m10; generalize hwm10 : World.drewN _ _ = w at *; clear hwm10
     exact ⟨((A.kids.count ((n : Int) + 1) : Nat) : Int) + ((R.count ((n : Int) + 1) : Nat) : Int), rfl, (Z.sel 1 [] rfl), (Zix hA cd2)⟩
   ·refine WC.skip ?_
    exact ⟨0, rfl, Z, (c5_no (Bool.eq_false_iff.1 cd2))⟩
  clear Z; rintro _ w j ⟨ct, rfl, Z, hcte⟩
  refine WC.seq <| WC.seq <| WC.region <| WL.run 4 [.int .i64 (A.dmpAt ((n : Int) + 1)).cn] rfl (by exact Z.ld 0 rfl rfl) ?_
  refine WL.nil <| WC.ifF rfl (decide_eq_false ((fun h => h hcte))) <| WC.skip <| WC.seq <| WC.region <| WL.run 3 [.bool (A.dmpAt ((n : Int) + 1)).al] rfl (by exact Z.ld 0 rfl rfl) ?_
  by_cases cg1 : (A.dmpAt ((n : Int) + 1)).al = true
  ·refine WL.reb 143 (.bool true) (congrArg Value.bool cg1) <| WL.ung rfl rfl rfl <| WL.r 1 rfl <| WL.ung rfl rfl rfl <| WL.r 1 rfl <| WL.ung rfl rfl rfl ?_
   have hbn : bs1[n]? = some true := (by have h9 := f2 ((n : Int) + 1) (by omega) cg1; rw [show ((n : Int) + 1 - 1).toNat = n by omega] at h9; exact h9)
   refine WL.ix rfl rfl (i := (n : Int)) (n) el_33 rfl rfl (by omega) (by omega) (Z.rdO 5 rfl (Zu hbn)).1 ?_
   refine WL.ung rfl rfl rfl <| WL.run 1 [.bool true] rfl (by exact (Z.rdO 5 rfl (Zu hbn)).2 0 _ rfl) ?_
   refine WL.ung rfl rfl rfl <| WL.r 2 rfl <| WL.nil ?_
   as_aux_lemma =>
   refine WC.ifF rfl rfl <| WC.skip <| WC.region <| WL.r 2 rfl <| WL.nw 43 rfl (Zr (by omega)) ?_
   refine WL.r 1 rfl <| WL.nil ?_
   exact ⟨_, by omega, n + 1, rfl, (Z.sel 1 [] rfl), (by omega), rfl⟩
  ·refine WL.reb 143 (.bool false) (congrArg Value.bool (Bool.eq_false_iff.2 cg1)) <| WL.skp rfl rfl rfl rfl <| WL.skp rfl rfl rfl rfl <| WL.skp rfl rfl rfl rfl <| WL.skp rfl rfl rfl rfl <| WL.skp rfl rfl rfl rfl <| WL.r 1 rfl <| WL.nil ?_
   as_aux_lemma =>
   refine WC.ifF rfl rfl <| WC.skip <| WC.region <| WL.r 2 rfl <| WL.nw 43 rfl (Zr (by omega)) ?_
   refine WL.r 1 rfl <| WL.nil ?_
   exact ⟨_, by omega, n + 1, rfl, (Z.sel 1 [] rfl), (by omega), rfl⟩
 ·refine WC.exit <| WC.seq <| WC.seq <| WC.region <| WL.r 1 rfl <| WL.nil <| WC.block <| WC.loop [1, 2, 4, 5, 19] (fun kM vs w => ∃ (k : Nat), vs = [.slice ra (Za R).length rc, .pointer (some ⟨b1, 0, none⟩), .slice none 0 0, .slice none 0 0, .int .i64 (k : Int)] ∧ St g (Zf 3 1 (Zb (Zw R (Zo (AM.dmp A)).length)) u4 d4 :: Sh 64 1 (Za R) ra rc :: Zf 3 1 (Zb (Zw (SM.order A.s) (Zo (AM.dmp A)).length)) u3 d3 :: Sh 64 1 (Za (SM.order A.s)) fa fc :: Zf 4 1 (Zc bs1) u2 d2 :: Sh 174 11 (Zo (AM.dmp A)) da dc :: Zf 3 1 (Zb (Zw A.kids A.s.cap.toNat)) u1 d1 :: Ze b1 #[.slice da (Zo (AM.dmp A)).length dc, .slice fa (Za (SM.order A.s)).length fc] 62 :: L) w ∧ (k ≤ (SM.order A.s).length) ∧ ((SM.order A.s).length - k) = kM) ((SM.order A.s).length - 0) ⟨0, rfl, Z, (Nat.zero_le _), rfl⟩ ?_
  clear Z; rintro _ _ w j ⟨k, rfl, Z, hk, rfl⟩
  refine WC.seq <| WC.seq <| WC.region <| WL.run 5 [.slice fa (Za (SM.order A.s)).length fc] rfl (by exact Z.ld 7 rfl rfl) ?_
  refine WL.nil <| WC.ifP rfl (fun cd2 => ?_) (fun cd2 => ?_)
  ·refine WC.skip ?_
   as_aux_lemma =>
   refine WC.seq <| WC.block <| WC.seq <| WC.plan [([0, 2, 1, 3, 4, 5, 6, 7, 9, 13, 8, 14, 10, 15, 11, 16, 12, 17, 18], none)] (by kernel_rfl) (by kernel_rfl) ?_
   refine WQ.run 3 [.slice fa (Za (SM.order A.s)).length fc] rfl (by exact Z.ld 7 rfl rfl) ?_
   obtain ⟨x, hx⟩ : ∃ x, (SM.order A.s)[k]? = some x := ⟨_, List.getElem?_eq_getElem (by omega)⟩; have hxr := hor x (List.mem_of_getElem? hx)
   refine WQ.ix rfl rfl (i := (k : Int)) (k) el_32 rfl rfl (by omega) (by omega) (Z.rdS 3 rfl (Zl hx)).1 ?_
   refine WQ.run 3 [.int .u32 x] rfl (by exact (Z.rdS 3 rfl (Zl hx)).2 0 _ rfl) ?_
   refine WQ.reb 168 (.bool false) (congrArg Value.bool (decide_eq_false ((by omega)))) ?_
   refine WQ.ung rfl rfl rfl <| WQ.r 1 rfl <| WQ.ung rfl rfl rfl <| WQ.r 1 rfl <| WQ.ung rfl rfl rfl <| WQ.r 1 rfl <| WQ.ung rfl rfl rfl <| WQ.run 1 [.slice fa (Za (SM.order A.s)).length fc] rfl (by exact Z.ld 7 rfl rfl) ?_
   refine WQ.ung rfl rfl rfl <| WQ.run 1 [.slice da (Zo (AM.dmp A)).length dc] rfl (by exact Z.ld 7 rfl rfl) ?_
   refine WQ.ung rfl rfl rfl <| WQ.ix rfl rfl (i := (k : Int)) (k) el_32 rfl rfl (by omega) (by omega) (Z.rdS 3 rfl (Zl hx)).1 ?_
   refine WQ.ung rfl rfl rfl <| WQ.r 1 rfl <| WQ.ung rfl rfl rfl <| WQ.run 1 [.int .u32 x] rfl (by exact (Z.rdS 3 rfl (Zl hx)).2 0 _ rfl) ?_
   refine WQ.ung rfl rfl rfl <| WQ.r 1 rfl <| WQ.nw 178 rfl (Xg (by omega)) ?_
   refine WQ.ung rfl rfl rfl <| WQ.r 1 rfl <| WQ.nw 174 rfl (Xg (by omega)) ?_
   refine WQ.ung rfl rfl rfl <| WQ.r 2 rfl <| WQ.nil ?_
   intro m7
   replace Z := Z.drewN m7; generalize hwm7 : World.drewN _ _ = w at *; clear hwm7
   as_aux_lemma =>
   refine WC.ifF rfl (decide_eq_false ((by omega))) ?_
   refine WC.skip <| WC.region <| WL.r 2 rfl <| WL.nw 161 rfl (Zr (by omega)) ?_
   refine WL.r 1 rfl <| WL.nil ?_
   exact ⟨_, by omega, k + 1, rfl, Z, (by omega), rfl⟩
  ·refine WC.exit ?_
   as_aux_lemma =>
   refine WC.seq <| WC.seq <| WC.region <| WL.r 1 rfl <| WL.nil <| WC.block <| WC.loop [1, 2, 4, 5, 20] (fun kM vs w => ∃ (k : Nat), vs = [.slice ra (Za R).length rc, .pointer (some ⟨b1, 0, none⟩), .slice none 0 0, .slice none 0 0, .int .i64 (k : Int)] ∧ St g (Zf 3 1 (Zb (Zw R (Zo (AM.dmp A)).length)) u4 d4 :: Sh 64 1 (Za R) ra rc :: Zf 3 1 (Zb (Zw (SM.order A.s) (Zo (AM.dmp A)).length)) u3 d3 :: Sh 64 1 (Za (SM.order A.s)) fa fc :: Zf 4 1 (Zc bs1) u2 d2 :: Sh 174 11 (Zo (AM.dmp A)) da dc :: Zf 3 1 (Zb (Zw A.kids A.s.cap.toNat)) u1 d1 :: Ze b1 #[.slice da (Zo (AM.dmp A)).length dc, .slice fa (Za (SM.order A.s)).length fc] 62 :: L) w ∧ (k ≤ R.length) ∧ (R.length - k) = kM) ((List.length R) - 0) ⟨0, rfl, Z, (Nat.zero_le _), rfl⟩ ?_
   clear Z; rintro _ _ w j ⟨k, rfl, Z, hk, rfl⟩
   refine WC.seq <| WC.seq <| WC.region <| WL.r 4 rfl <| WL.nil <| WC.ifP rfl (fun cd3 => ?_) (fun cd3 => ?_)
   ·refine WC.skip <| WC.seq <| WC.block <| WC.seq <| WC.plan [([0, 1, 2, 3, 4, 5, 6, 7, 8, 9, 10], some (11, [])), ([12, 13], none)] (by kernel_rfl) (by kernel_rfl) ?_
    refine WQ.r 2 rfl ?_
    obtain ⟨x, hx⟩ : ∃ x, R[k]? = some x := ⟨_, List.getElem?_eq_getElem (by omega)⟩; have hxr := Zch hA x (List.mem_of_getElem? hx); have hxo := hA.ref x (List.mem_of_getElem? hx)
    refine WQ.ix rfl rfl (i := (k : Int)) (k) el_32 rfl rfl (by omega) (by omega) (Z.rdS 1 rfl (Zl hx)).1 ?_
    refine WQ.run 3 [.int .u32 x] rfl (by exact (Z.rdS 1 rfl (Zl hx)).2 0 _ rfl) ?_
    by_cases cg1 : x ≠ 0
    ·refine WQ.reb 201 (.bool true) (congrArg Value.bool (decide_eq_true cg1)) <| WQ.ung rfl rfl rfl <| WQ.ldF rfl rfl 7 Z rfl rfl ZA <| WQ.ung rfl rfl rfl <| WQ.r 1 rfl <| WQ.ung rfl rfl rfl <| WQ.r 1 rfl <| WQ.ung rfl rfl rfl <| WQ.ix rfl rfl (i := (k : Int)) (k) el_32 rfl rfl (by omega) (by omega) (Z.rdS 1 rfl (Zl hx)).1 ?_
     refine WQ.ung rfl rfl rfl <| WQ.run 1 [.int .u32 x] rfl (by exact (Z.rdS 1 rfl (Zl hx)).2 0 _ rfl) ?_
     refine WQ.nil ?_
     intro m7
     replace Z := Z.drewN m7; generalize hwm7 : World.drewN _ _ = w at *; clear hwm7
     refine WL.ung rfl rfl rfl <| WL.call rfl rfl (XQ (A := A) (fa := fa) (fc := fc) (i := x) (hA := hA) (hi := hxr) (Z := (Z.sel 6 [5, 0, 0, 0, 0, 0] rfl))) rfl ?_
     clear Z; rintro _ w ⟨b2, rfl, Z, f3⟩
     replace Z := Z.n8 L rfl
     refine WL.nil ?_
     refine ⟨by exact trivial, ?_⟩
     refine WQ.ung rfl rfl rfl <| WQ.r 1 rfl <| WQ.r 1 rfl <| WQ.nil ?_
     intro m8
     replace Z := Z.drewN m8; generalize hwm8 : World.drewN _ _ = w at *; clear hwm8
     as_aux_lemma =>
     refine WC.ifF rfl (by have h9 := (hxo.resolve_left cg1).2; rw [← f3] at h9; rw [h9]; rfl) ?_
     refine WC.skip <| WC.region <| WL.r 2 rfl <| WL.nw 195 rfl (Zr (by omega)) ?_
     refine WL.r 1 rfl <| WL.nil ?_
     exact ⟨_, by omega, k + 1, rfl, (Z.sel 6 [1, 1, 1, 1, 1, 0] rfl), (by omega), rfl⟩
    ·refine WQ.reb 201 (.bool false) (congrArg Value.bool (decide_eq_false cg1)) <| WQ.skp rfl rfl rfl rfl <| WQ.skp rfl rfl rfl rfl <| WQ.skp rfl rfl rfl rfl <| WQ.skp rfl rfl rfl rfl <| WQ.skp rfl rfl rfl rfl <| WQ.nil ?_
     intro m7
     replace Z := Z.drewN m7; generalize hwm7 : World.drewN _ _ = w at *; clear hwm7
     refine WL.skp rfl rfl rfl rfl <| WL.nil ?_
     refine ⟨by exact trivial, ?_⟩
     refine WQ.skp rfl rfl rfl rfl <| WQ.r 1 rfl <| WQ.nil ?_
     intro m8
     replace Z := Z.drewN m8; generalize hwm8 : World.drewN _ _ = w at *; clear hwm8
     as_aux_lemma =>
     refine WC.ifF rfl rfl <| WC.skip <| WC.region <| WL.r 2 rfl <| WL.nw 195 rfl (Zr (by omega)) ?_
     refine WL.r 1 rfl <| WL.nil ?_
     exact ⟨_, by omega, k + 1, rfl, Z, (by omega), rfl⟩
   ·refine WC.exit <| WC.seq <| WC.region <| WL.r 2 rfl <| WL.nil <| WC.ret ?_
    refine ⟨[.slice none 0 0], rfl, ?_⟩
    replace Z := (Z.sel 8 [5, 3, 1] rfl)
    exact ⟨rfl, Z⟩
theorem Zij {g w : World} {L : List HP} (A : AM) (R : List Int) (da fa ra : Option Addr) (dc fc rc : Nat) (hA : ARf A R) (hRl : R.length ≤ 1000000) (Z : St g (Sh 174 11 (Zo (AM.dmp A)) da dc :: Sh 64 1 (Za (SM.order A.s)) fa fc :: Sh 64 1 (Za R) ra rc :: L) w) :
  Sp Tryz.prog 122 [.agg #[.slice da (Zo (AM.dmp A)).length dc, .slice fa (Za (SM.order A.s)).length fc], .slice ra (Za R).length rc] w (fun v w' => v = .bool true ∧ St g (Sh 174 11 (Zo (AM.dmp A)) da dc :: Sh 64 1 (Za (SM.order A.s)) fa fc :: Sh 64 1 (Za R) ra rc :: L) w') := by
 refine Sp.enter Tryz.func122 rfl (by kernel_rfl) (by kernel_rfl) ?_
 refine WC.seq <| WC.region <| WL.box rfl rfl #[.slice da (Zo (AM.dmp A)).length dc, .slice fa (Za (SM.order A.s)).length fc] Z rfl rfl (fun b1 w Z => ?_)
 refine WL.r 1 rfl <| WL.nil <| WC.seq <| WC.region <| WL.ldF rfl rfl 0 Z rfl rfl ZA <| WL.r 1 rfl <| WL.call rfl rfl (Zkf (A := A) (hA := hA) (hRl := hRl) (Z := (Z.sel 4 [1, 1, 1, 0] rfl))) rfl ?_
 clear Z; rintro _ w ⟨rfl, Z⟩
 replace Z := Z.n4 L (a3 := Ze b1 #[.slice da (Zo (AM.dmp A)).length dc, .slice fa (Za (SM.order A.s)).length fc] 62) rfl
 refine WL.r 3 rfl <| WL.nil <| WC.ret ?_
 refine ⟨[.bool (decide (0 = 0))], rfl, ?_⟩
 replace Z := (Z.sel 4 [0, 0, 0] rfl)
 exact ⟨rfl, Z⟩
end Go.Proofs.YtbeacjcmdijdmaaGreat
