/-
  What the proof of Jva stands on, part 4.
  Conditions: none.
-/
import Derived.Test.YtbeacjcmdijdmaaGreatZvaC
set_option maxRecDepth 8192
namespace Go.Proofs.YtbeacjcmdijdmaaGreat
open Go Go.V
theorem Zmk {g w : World} {L : List HP} (S : SM) (ra ga oa : Option Addr) (rc gc oc : Nat) (hO : SOk S) (Z : St g (Sh 64 1 (Za S.rel) ra rc :: Sh 64 1 (Za (S.gen.drop 1)) ga gc :: Sh 4 1 (Zc (S.used.drop 1)) oa oc :: L) w) :
  Sp Tryz.prog 160 [.agg #[.int .i64 S.cap, .slice ra (Za S.rel).length rc, .int .i64 (S.fresh + 1), .slice ga (Za (S.gen.drop 1)).length gc, .slice oa (Zc (S.used.drop 1)).length oc]] w (fun v w' => ∃ (a2 : Option Addr) (c2 : Nat), v = .slice a2 (Za (SM.order S)).length c2 ∧ St g (Zf 64 1 (Za (SM.order S)) a2 c2 :: Sh 64 1 (Za S.rel) ra rc :: Sh 64 1 (Za (S.gen.drop 1)) ga gc :: Sh 4 1 (Zc (S.used.drop 1)) oa oc :: L) w') := by
 refine Sp.enter Tryz.func160 rfl (by kernel_rfl) (by kernel_rfl) ?_
 refine WC.seq <| WC.region <| WL.box rfl rfl #[.int .i64 S.cap, .slice ra (Za S.rel).length rc, .int .i64 (S.fresh + 1), .slice ga (Za (S.gen.drop 1)).length gc, .slice oa (Zc (S.used.drop 1)).length oc] Z rfl rfl (fun b1 w Z => ?_)
 refine WL.r 1 rfl <| WL.nil <| WC.seq <| WC.region ?_
 have hfr := hO.fr; have hcp : S.cap = (S.used.length : Int) - 1 := rfl; have hle := hO.le; have hrl := hO.rle; have hru := Zk S.rel
 refine WL.r 1 rfl <| WL.nil <| WC.seq <| WC.seq <| WC.region <| WL.run 4 [.slice ra (Za S.rel).length rc] rfl (by exact Z.ld 0 rfl rfl) ?_
 refine WL.nw 9 rfl (Zr (by omega)) ?_
 refine WL.r 1 rfl <| WL.nil <| WC.block ?_
 replace Z := Z.nil_ 64 1
 refine WC.loop [1, 2, 3, 4] (fun kM vs w => ∃ (j : Int) (out : List Int) (ub : Option Addr) (ud : Nat), vs = [.pointer (some ⟨b1, 0, none⟩), .slice none 0 0, .slice ub (Za out).length ud, .int .i64 j] ∧ St g (Zf 64 1 (Za out) ub ud :: Ze b1 #[.int .i64 S.cap, .slice ra (Za S.rel).length rc, .int .i64 (S.fresh + 1), .slice ga (Za (S.gen.drop 1)).length gc, .slice oa (Zc (S.used.drop 1)).length oc] 35 :: Sh 64 1 (Za S.rel) ra rc :: Sh 64 1 (Za (S.gen.drop 1)) ga gc :: Sh 4 1 (Zc (S.used.drop 1)) oa oc :: L) w ∧ (-1 ≤ j ∧ j < S.rel.length) ∧ (out = (S.rel.drop (j + 1).toNat).reverse) ∧ ((j + 1).toNat) = kM) ((((List.length (Za S.rel) : Int) - 1) + 1).toNat) ⟨((Za S.rel).length : Int) - 1, [], none, 0, rfl, Z, (by omega), (by rw [List.drop_eq_nil_of_le (by omega)]; rfl), rfl⟩ ?_
 clear Z; rintro _ _ w j ⟨j, out, ub, ud, rfl, Z, hj, ho, rfl⟩
 refine WC.seq <| WC.seq <| WC.region <| WL.r 2 rfl <| WL.nil ?_
 as_aux_lemma =>
 refine WC.ifP rfl (fun cd1 => ?_) (fun cd1 => ?_)
 ·refine WC.skip <| WC.seq <| WC.block <| WC.region <| WL.run 4 [.slice ra (Za S.rel).length rc] rfl (by exact Z.ld 1 rfl rfl) ?_
  obtain ⟨x, hx⟩ : ∃ x, S.rel[j.toNat]? = some x := ⟨_, List.getElem?_eq_getElem (by omega)⟩; have hol : out.length ≤ S.rel.length := (by rw [ho, List.length_reverse, List.length_drop]; omega); have hoe := Zk out
  refine WL.ix rfl rfl (i := j) (j.toNat) el_32 rfl rfl (by omega) (by omega) (Z.rdS 2 rfl (Zl hx)).1 ?_
  refine WL.run 1 [.int .u32 x] rfl (by exact (Z.rdS 2 rfl (Zl hx)).2 0 _ rfl) ?_
  refine WL.lit rfl rfl (Za [x]) el_32 Z (by exact ⟨rfl, rfl⟩) (Yn _) rfl (Nat.le_of_ble_eq_true rfl) (fun b2 w Z => ?_)
  refine WL.app rfl rfl 1 (Za (out ++ [x])) el_32 Z rfl (Z.srcO 0 rfl) (Yg _ _).symm (Rm.of (by first | omega | (simp <;> omega)) (by decide)) rfl rfl (fun a1 c1 w Z => ?_)
  replace Z := Z.n6 L (a0 := Zf 64 1 (Za [x]) (some ⟨b2, 0, none⟩) (Za [x]).length) (a1 := Zf 64 1 (Za (out ++ [x])) a1 c1) rfl
  refine WL.r 1 rfl <| WL.nil <| WC.region <| WL.r 2 rfl <| WL.nw 13 rfl (Zr (by omega)) ?_
  refine WL.r 1 rfl <| WL.nil ?_
  exact ⟨_, by omega, j - 1, out ++ [x], _, _, rfl, (Z.sel 1 [] rfl), (by omega), (by rw [ho, show (j + 1).toNat = j.toNat + 1 by omega, show (j - 1 + 1).toNat = j.toNat by omega]; exact (Zd1 hx).symm), rfl⟩
 ·refine WC.exit <| WC.seq <| WC.seq <| WC.region ?_
  have hor : out = S.rel.reverse := (by rw [ho, show (j + 1).toNat = 0 by omega]; rfl)
  refine WL.run 3 [.int .i64 (S.fresh + 1)] rfl (by exact Z.ld 1 rfl rfl) ?_
  refine WL.nil <| WC.block <| WC.loop [1, 2, 3, 5] (fun kM vs w => ∃ (k : Nat) (j2 : Int) (acc : List Int) (uf : Option Addr) (ud2 : Nat), vs = [.pointer (some ⟨b1, 0, none⟩), .slice none 0 0, .slice uf (Za acc).length ud2, .int .i64 j2] ∧ St g (Zf 64 1 (Za acc) uf ud2 :: Ze b1 #[.int .i64 S.cap, .slice ra (Za S.rel).length rc, .int .i64 (S.fresh + 1), .slice ga (Za (S.gen.drop 1)).length gc, .slice oa (Zc (S.used.drop 1)).length oc] 35 :: Sh 64 1 (Za S.rel) ra rc :: Sh 64 1 (Za (S.gen.drop 1)) ga gc :: Sh 4 1 (Zc (S.used.drop 1)) oa oc :: L) w ∧ ((k : Int) ≤ S.cap - S.fresh) ∧ (j2 = S.fresh + 1 + (k : Int)) ∧ (acc = S.rel.reverse ++ Ja S k) ∧ ((S.cap - S.fresh).toNat - k) = kM) ((S.cap - S.fresh).toNat - 0) ⟨0, S.fresh + 1, out, ub, ud, rfl, Z, (by omega), (by omega), (by rw [hor]; simp [Ja]), rfl⟩ ?_
  clear Z; rintro _ _ w j ⟨k, j2, acc, uf, ud2, rfl, Z, hk, hj2, ha, rfl⟩
  refine WC.seq <| WC.seq <| WC.region <| WL.run 4 [.int .i64 S.cap] rfl (by exact Z.ld 1 rfl rfl) ?_
  refine WL.nil <| WC.ifP rfl (fun cd2 => ?_) (fun cd2 => ?_)
  ·refine WC.skip <| WC.seq <| WC.block <| WC.region ?_
   have hal : acc.length ≤ 140000 := (by rw [ha, List.length_append, List.length_reverse]; unfold Ja; simp; omega); have hac := Zk acc
   refine WL.r 3 rfl <| WL.nw 32 rfl (Yq (by omega)) ?_
   refine WL.lit rfl rfl (Za [j2]) el_32 Z (by exact ⟨rfl, rfl⟩) (Yn _) rfl (Nat.le_of_ble_eq_true rfl) (fun b2 w Z => ?_)
   refine WL.app rfl rfl 1 (Za (acc ++ [j2])) el_32 Z rfl (Z.srcO 0 rfl) (Yg _ _).symm (Rm.of (by first | omega | (simp <;> omega)) (by decide)) rfl rfl (fun a1 c1 w Z => ?_)
   replace Z := Z.n6 L (a0 := Zf 64 1 (Za [j2]) (some ⟨b2, 0, none⟩) (Za [j2]).length) (a1 := Zf 64 1 (Za (acc ++ [j2])) a1 c1) rfl
   refine WL.r 1 rfl <| WL.nil ?_
   as_aux_lemma =>
   refine WC.region <| WL.r 2 rfl <| WL.nw 29 rfl (Zr (by omega)) ?_
   refine WL.r 1 rfl <| WL.nil ?_
   exact ⟨_, by omega, k + 1, j2 + 1, acc ++ [j2], _, _, rfl, (Z.sel 1 [] rfl), (by omega), (by omega), (by rw [hj2, ha, Zal, List.append_assoc]), rfl⟩
  ·refine WC.exit <| WC.seq <| WC.region <| WL.r 2 rfl <| WL.nil <| WC.ret ?_
   refine ⟨[.slice uf (Za acc).length ud2], rfl, ?_⟩
   replace Z := (Z.sel 2 [0] rfl)
   have hke : k = (S.cap - S.fresh).toNat := (by omega); subst hke; rw [show acc = SM.order S from ha] at Z ⊢; exact ⟨_, _, rfl, Z⟩
theorem Zjc {g w : World} {L : List HP} (n : Nat) (hn : 1 ≤ n ∧ n ≤ 4096) (Z : St g (L) w) :
  Sp Tryz.prog 130 [.int .i64 (n : Int)] w (fun v w' => ∃ (ga oa : Option Addr) (gc oc : Nat), v = .agg #[.int .i64 (SM.new n).cap, .slice none (Za (SM.new n).rel).length 0, .int .i64 ((SM.new n).fresh + 1), .slice ga (List.length (Za ((SM.new n).gen.drop 1))) gc, .slice oa (List.length (Zc ((SM.new n).used.drop 1))) oc] ∧ St g (Sh 64 1 (Za (SM.new n).rel) none 0 :: Sh 64 1 (Za ((SM.new n).gen.drop 1)) ga gc :: Sh 4 1 (Zc ((SM.new n).used.drop 1)) oa oc :: L) w') := by
 refine Sp.enter Tryz.func130 rfl (by kernel_rfl) (by kernel_rfl) ?_
 have _ := hn
 refine WC.seq <| WC.region <| WL.new rfl rfl QU Z (fun b1 w Z => ?_)
 refine WL.nil <| WC.seq <| WC.tree (.two [0, 1, 3] 2 [0, 3] (.one [] 4 [0, 1] (.one [5] 6 [] .nil)) 4 [0, 1] (.one [] 2 [0, 3] (.one [5] 6 [] .nil))) (by kernel_rfl) (by kernel_rfl) ?_
 refine WQ.r 3 rfl <| WQ.nil ?_
 intro m1
 replace Z := Z.drewN m1; generalize hwm1 : World.drewN _ _ = w at *; clear hwm1
 refine ⟨?_, ?_⟩
 ·refine WL.make rfl rfl (v := (n : Int)) (v' := (n : Int)) (n) (n) el_32 Z rfl (by omega) rfl (by omega) (by omega) (Rm.of (by omega) (by decide)) (fun b2 w Z => ?_)
  replace Z : St g (Zf 64 1 (List.replicate n [.int .u32 0]) (some ⟨b2, 0, none⟩) n :: Ze b1 #[.int .i64 0, .slice none 0 0, .int .i64 0, .slice none 0 0, .slice none 0 0] 35 :: L) w := Z
  refine WL.nil ?_
  refine ⟨by exact ⟨RQ.pure rfl rfl rfl rfl, RQ.pure rfl rfl rfl rfl⟩, ?_⟩
  refine WQ.nil ?_
  intro m2
  replace Z := Z.drewN m2; generalize hwm2 : World.drewN _ _ = w at *; clear hwm2
  refine WL.make rfl rfl (v := (n : Int)) (v' := (n : Int)) (n) (n) el_33 Z rfl (by omega) rfl (by omega) (by omega) (Rm.of (by omega) (by decide)) (fun b3 w Z => ?_)
  replace Z := Z.n3 L (a0 := Zf 4 1 (List.replicate n [.bool false]) (some ⟨b3, 0, none⟩) n) rfl
  refine WL.nil ?_
  refine ⟨by exact ⟨RQ.pure rfl rfl rfl rfl, RQ.pure rfl rfl rfl rfl⟩, ?_⟩
  refine WQ.build rfl rfl (cs := [.int .i64 (n : Int), .slice none 0 0, .int .i64 1, .slice (some ⟨b2, 0, none⟩) n n, .slice (some ⟨b3, 0, none⟩) n n]) QU rfl rfl <| WQ.nil ?_
  intro m3
  replace Z := Z.drewN m3; generalize hwm3 : World.drewN _ _ = w at *; clear hwm3
  refine WL.stF rfl rfl rfl 2 Z rfl rfl rfl rfl rfl Z0 (fun w Z => ?_)
  replace Z := Z.n3 L (a2 := Ze b1 #[.int .i64 (n : Int), .slice none 0 0, .int .i64 1, .slice (some ⟨b2, 0, none⟩) n n, .slice (some ⟨b3, 0, none⟩) n n] 35) rfl
  refine WL.nil ?_
  refine ⟨by exact trivial, ?_⟩
  intro m4
  replace Z := Z.drewN m4; generalize hwm4 : World.drewN _ _ = w at *; clear hwm4
  as_aux_lemma =>
  refine WC.ret ?_
  rw [X_, Xb] at Z; replace Z := ((Z.at_ 0 rfl).share.at_ 1 rfl).share.nilS 64 1
  replace Z := Z.n4 L (a0 := Sh 64 1 (Za (SM.new n).rel) none 0) (a1 := Sh 64 1 (Za ((SM.new n).gen.drop 1)) (some ⟨b2, 0, none⟩) n) (a2 := Sh 4 1 (Zc ((SM.new n).used.drop 1)) (some ⟨b3, 0, none⟩) n) rfl
  refine ⟨[.agg #[.int .i64 (n : Int), .slice none 0 0, .int .i64 1, .slice (some ⟨b2, 0, none⟩) n n, .slice (some ⟨b3, 0, none⟩) n n]], ⟨⟨_, rfl, Z.lvF 3 rfl Z0⟩, trivial⟩, ?_⟩
  replace Z := (Z.sel 4 [0, 0, 0] rfl)
  first | exact ⟨some ⟨b2, 0, none⟩, some ⟨b3, 0, none⟩, n, n, by rw [Za6, Zb0, Zbq]; rfl, Z⟩ | exact ⟨some ⟨b3, 0, none⟩, some ⟨b2, 0, none⟩, n, n, by rw [Za6, Zb0, Zbq]; rfl, Z⟩
 ·refine WL.make rfl rfl (v := (n : Int)) (v' := (n : Int)) (n) (n) el_33 Z rfl (by omega) rfl (by omega) (by omega) (Rm.of (by omega) (by decide)) (fun b2 w Z => ?_)
  replace Z : St g (Zf 4 1 (List.replicate n [.bool false]) (some ⟨b2, 0, none⟩) n :: Ze b1 #[.int .i64 0, .slice none 0 0, .int .i64 0, .slice none 0 0, .slice none 0 0] 35 :: L) w := Z
  refine WL.nil ?_
  refine ⟨by exact ⟨RQ.pure rfl rfl rfl rfl, RQ.pure rfl rfl rfl rfl⟩, ?_⟩
  refine WQ.nil ?_
  intro m2
  replace Z := Z.drewN m2; generalize hwm2 : World.drewN _ _ = w at *; clear hwm2
  refine WL.make rfl rfl (v := (n : Int)) (v' := (n : Int)) (n) (n) el_32 Z rfl (by omega) rfl (by omega) (by omega) (Rm.of (by omega) (by decide)) (fun b3 w Z => ?_)
  replace Z := Z.n3 L (a0 := Zf 64 1 (List.replicate n [.int .u32 0]) (some ⟨b3, 0, none⟩) n) rfl
  refine WL.nil ?_
  refine ⟨by exact ⟨RQ.pure rfl rfl rfl rfl, RQ.pure rfl rfl rfl rfl⟩, ?_⟩
  refine WQ.build rfl rfl (cs := [.int .i64 (n : Int), .slice none 0 0, .int .i64 1, .slice (some ⟨b3, 0, none⟩) n n, .slice (some ⟨b2, 0, none⟩) n n]) QU rfl rfl <| WQ.nil ?_
  intro m3
  replace Z := Z.drewN m3; generalize hwm3 : World.drewN _ _ = w at *; clear hwm3
  refine WL.stF rfl rfl rfl 2 Z rfl rfl rfl rfl rfl Z0 (fun w Z => ?_)
  replace Z := Z.n3 L (a2 := Ze b1 #[.int .i64 (n : Int), .slice none 0 0, .int .i64 1, .slice (some ⟨b3, 0, none⟩) n n, .slice (some ⟨b2, 0, none⟩) n n] 35) rfl
  refine WL.nil ?_
  refine ⟨by exact trivial, ?_⟩
  intro m4
  replace Z := Z.drewN m4; generalize hwm4 : World.drewN _ _ = w at *; clear hwm4
  as_aux_lemma =>
  refine WC.ret ?_
  rw [X_, Xb] at Z; replace Z := ((Z.at_ 1 rfl).share.at_ 1 rfl).share.nilS 64 1
  replace Z := Z.n4 L (a0 := Sh 64 1 (Za (SM.new n).rel) none 0) (a1 := Sh 64 1 (Za ((SM.new n).gen.drop 1)) (some ⟨b3, 0, none⟩) n) (a2 := Sh 4 1 (Zc ((SM.new n).used.drop 1)) (some ⟨b2, 0, none⟩) n) rfl
  refine ⟨[.agg #[.int .i64 (n : Int), .slice none 0 0, .int .i64 1, .slice (some ⟨b3, 0, none⟩) n n, .slice (some ⟨b2, 0, none⟩) n n]], ⟨⟨_, rfl, Z.lvF 3 rfl Z0⟩, trivial⟩, ?_⟩
  replace Z := (Z.sel 4 [0, 0, 0] rfl)
  first | exact ⟨some ⟨b2, 0, none⟩, some ⟨b3, 0, none⟩, n, n, by rw [Za6, Zb0, Zbq]; rfl, Z⟩ | exact ⟨some ⟨b3, 0, none⟩, some ⟨b2, 0, none⟩, n, n, by rw [Za6, Zb0, Zbq]; rfl, Z⟩
theorem Zpw {g w : World} {L : List HP} (n : Nat) (hn : 1 ≤ n ∧ n ≤ 4096) (Z : St g (L) w) :
  Sp Tryz.prog 60 [.int .i64 (n : Int)] w (fun v w' => ∃ (ga oa va : Option Addr) (gc oc vc : Nat), v = .agg #[.int .i64 (TM.new n).s.cap, .slice none (Za (TM.new n).s.rel).length 0, .int .i64 ((TM.new n).s.fresh + 1), .slice ga (List.length (Za ((TM.new n).s.gen.drop 1))) gc, .slice oa (List.length (Zc ((TM.new n).s.used.drop 1))) oc, .slice va (List.length (Za ((TM.new n).vals.drop 1))) vc] ∧ St g (Sh 64 1 (Za (TM.new n).s.rel) none 0 :: Sh 64 1 (Za ((TM.new n).s.gen.drop 1)) ga gc :: Sh 4 1 (Zc ((TM.new n).s.used.drop 1)) oa oc :: Sh 64 1 (Za ((TM.new n).vals.drop 1)) va vc :: L) w') := by
 refine Sp.enter Tryz.func60 rfl (by kernel_rfl) (by kernel_rfl) ?_
 refine WC.seq <| WC.region <| WL.new rfl rfl JG Z (fun b1 w Z => ?_)
 refine WL.nil <| WC.seq <| WC.tree (.two [0, 2] 1 [2] (.one [] 3 [0] (.one [4] 5 [] .nil)) 3 [0] (.one [] 1 [2] (.one [4] 5 [] .nil))) (by kernel_rfl) (by kernel_rfl) ?_
 refine WQ.r 2 rfl <| WQ.nil ?_
 intro m1
 replace Z := Z.drewN m1; generalize hwm1 : World.drewN _ _ = w at *; clear hwm1
 refine ⟨?_, ?_⟩
 ·refine WL.call rfl rfl (Zjc (n := n) (hn := hn) (Z := Z)) rfl ?_
  clear Z; rintro _ w ⟨ga1, oa1, gc1, oc1, rfl, Z⟩
  replace Z : St g (Sh 64 1 (Za (SM.new n).rel) none 0 :: Sh 64 1 (Za ((SM.new n).gen.drop 1)) ga1 gc1 :: Sh 4 1 (Zc ((SM.new n).used.drop 1)) oa1 oc1 :: Ze b1 #[.int .i64 0, .slice none 0 0, .int .i64 0, .slice none 0 0, .slice none 0 0, .slice none 0 0] 37 :: L) w := Z
  refine WL.nil ?_
  refine ⟨by exact RQ.pure rfl rfl rfl rfl, ?_⟩
  refine WQ.nil ?_
  intro m2
  replace Z := Z.drewN m2; generalize hwm2 : World.drewN _ _ = w at *; clear hwm2
  refine WL.make rfl rfl (v := (n : Int)) (v' := (n : Int)) (n) (n) el_32 Z rfl (by omega) rfl (by omega) (by omega) (Rm.of (by omega) (by decide)) (fun b2 w Z => ?_)
  replace Z := Z.n5 L (a0 := Zf 64 1 (List.replicate n [.int .u32 0]) (some ⟨b2, 0, none⟩) n) rfl
  refine WL.nil ?_
  refine ⟨by exact RQ.pure rfl rfl rfl rfl, ?_⟩
  refine WQ.build rfl rfl (cs := [.int .i64 (SM.new n).cap, .slice none (Za (SM.new n).rel).length 0, .int .i64 ((SM.new n).fresh + 1), .slice ga1 (List.length (Za ((SM.new n).gen.drop 1))) gc1, .slice oa1 (List.length (Zc ((SM.new n).used.drop 1))) oc1, .slice (some ⟨b2, 0, none⟩) n n]) JG rfl rfl <| WQ.nil ?_
  intro m3
  replace Z := Z.drewN m3; generalize hwm3 : World.drewN _ _ = w at *; clear hwm3
  refine WL.stF rfl rfl rfl 4 Z rfl rfl rfl rfl rfl ZD (fun w Z => ?_)
  replace Z := Z.n5 L (a4 := Ze b1 #[.int .i64 (SM.new n).cap, .slice none (Za (SM.new n).rel).length 0, .int .i64 ((SM.new n).fresh + 1), .slice ga1 (List.length (Za ((SM.new n).gen.drop 1))) gc1, .slice oa1 (List.length (Zc ((SM.new n).used.drop 1))) oc1, .slice (some ⟨b2, 0, none⟩) n n] 37) rfl
  refine WL.nil ?_
  refine ⟨by exact trivial, ?_⟩
  intro m4
  replace Z := Z.drewN m4; generalize hwm4 : World.drewN _ _ = w at *; clear hwm4
  as_aux_lemma =>
  refine WC.ret ?_
  rw [Xb] at Z; replace Z := (Z.at_ 0 rfl).share.sel 5 [1, 1, 1, 0, 0] rfl
  replace Z := Z.n5 L (a0 := Sh 64 1 (Za (TM.new n).s.rel) none 0) (a1 := Sh 64 1 (Za ((TM.new n).s.gen.drop 1)) ga1 gc1) (a2 := Sh 4 1 (Zc ((TM.new n).s.used.drop 1)) oa1 oc1) (a3 := Sh 64 1 (Za ((TM.new n).vals.drop 1)) (some ⟨b2, 0, none⟩) n) rfl
  refine ⟨[.agg #[.int .i64 (SM.new n).cap, .slice none (Za (SM.new n).rel).length 0, .int .i64 ((SM.new n).fresh + 1), .slice ga1 (List.length (Za ((SM.new n).gen.drop 1))) gc1, .slice oa1 (List.length (Zc ((SM.new n).used.drop 1))) oc1, .slice (some ⟨b2, 0, none⟩) n n]], ⟨⟨_, rfl, Z.lvF 4 rfl ZD⟩, trivial⟩, ?_⟩
  replace Z := (Z.sel 5 [0, 0, 0, 0] rfl)
  exact ⟨ga1, oa1, some ⟨b2, 0, none⟩, gc1, oc1, n, by rw [Zi4]; rfl, Z⟩
 ·refine WL.make rfl rfl (v := (n : Int)) (v' := (n : Int)) (n) (n) el_32 Z rfl (by omega) rfl (by omega) (by omega) (Rm.of (by omega) (by decide)) (fun b2 w Z => ?_)
  replace Z : St g (Zf 64 1 (List.replicate n [.int .u32 0]) (some ⟨b2, 0, none⟩) n :: Ze b1 #[.int .i64 0, .slice none 0 0, .int .i64 0, .slice none 0 0, .slice none 0 0, .slice none 0 0] 37 :: L) w := Z
  refine WL.nil ?_
  refine ⟨by exact RQ.pure rfl rfl rfl rfl, ?_⟩
  refine WQ.nil ?_
  intro m2
  replace Z := Z.drewN m2; generalize hwm2 : World.drewN _ _ = w at *; clear hwm2
  refine WL.call rfl rfl (Zjc (n := n) (hn := hn) (Z := Z)) rfl ?_
  clear Z; rintro _ w ⟨ga1, oa1, gc1, oc1, rfl, Z⟩
  replace Z := Z.n5 L (a0 := Sh 64 1 (Za (SM.new n).rel) none 0) (a1 := Sh 64 1 (Za ((SM.new n).gen.drop 1)) ga1 gc1) (a2 := Sh 4 1 (Zc ((SM.new n).used.drop 1)) oa1 oc1) rfl
  refine WL.nil ?_
  refine ⟨by exact RQ.pure rfl rfl rfl rfl, ?_⟩
  refine WQ.build rfl rfl (cs := [.int .i64 (SM.new n).cap, .slice none (Za (SM.new n).rel).length 0, .int .i64 ((SM.new n).fresh + 1), .slice ga1 (List.length (Za ((SM.new n).gen.drop 1))) gc1, .slice oa1 (List.length (Zc ((SM.new n).used.drop 1))) oc1, .slice (some ⟨b2, 0, none⟩) n n]) JG rfl rfl <| WQ.nil ?_
  intro m3
  replace Z := Z.drewN m3; generalize hwm3 : World.drewN _ _ = w at *; clear hwm3
  refine WL.stF rfl rfl rfl 4 Z rfl rfl rfl rfl rfl ZD (fun w Z => ?_)
  replace Z := Z.n5 L (a4 := Ze b1 #[.int .i64 (SM.new n).cap, .slice none (Za (SM.new n).rel).length 0, .int .i64 ((SM.new n).fresh + 1), .slice ga1 (List.length (Za ((SM.new n).gen.drop 1))) gc1, .slice oa1 (List.length (Zc ((SM.new n).used.drop 1))) oc1, .slice (some ⟨b2, 0, none⟩) n n] 37) rfl
  refine WL.nil ?_
  refine ⟨by exact trivial, ?_⟩
  intro m4
  replace Z := Z.drewN m4; generalize hwm4 : World.drewN _ _ = w at *; clear hwm4
  as_aux_lemma =>
  refine WC.ret ?_
  rw [Xb] at Z; replace Z := (Z.at_ 3 rfl).share.sel 5 [1, 1, 1, 0, 0] rfl
  replace Z := Z.n5 L (a0 := Sh 64 1 (Za (TM.new n).s.rel) none 0) (a1 := Sh 64 1 (Za ((TM.new n).s.gen.drop 1)) ga1 gc1) (a2 := Sh 4 1 (Zc ((TM.new n).s.used.drop 1)) oa1 oc1) (a3 := Sh 64 1 (Za ((TM.new n).vals.drop 1)) (some ⟨b2, 0, none⟩) n) rfl
  refine ⟨[.agg #[.int .i64 (SM.new n).cap, .slice none (Za (SM.new n).rel).length 0, .int .i64 ((SM.new n).fresh + 1), .slice ga1 (List.length (Za ((SM.new n).gen.drop 1))) gc1, .slice oa1 (List.length (Zc ((SM.new n).used.drop 1))) oc1, .slice (some ⟨b2, 0, none⟩) n n]], ⟨⟨_, rfl, Z.lvF 4 rfl ZD⟩, trivial⟩, ?_⟩
  replace Z := (Z.sel 5 [0, 0, 0, 0] rfl)
  exact ⟨ga1, oa1, some ⟨b2, 0, none⟩, gc1, oc1, n, by rw [Zi4]; rfl, Z⟩
end Go.Proofs.YtbeacjcmdijdmaaGreat
namespace Go.V
open Go Go.RowKit
structure PR where
 ps : List Int
 a : Option Addr
 c : Nat
def prC (r : PR) : List Value := [.slice r.a (Zb r.ps).length r.c]
def Zt (l : List PR) : List (List Value) := l.map prC
@[simp] theorem Zbl (l : List PR) : (Zt l).length = l.length := by simp [Zt]
theorem Zb4 {l : List PR} {k : Nat} {r : PR} (h : l[k]? = some r) : (Zt l)[k]? = some [.slice r.a (Zb r.ps).length r.c] := by simp [Zt, h, prC]
theorem Znq (l m : List PR) : Zt (l ++ m) = Zt l ++ Zt m := by simp [Zt]
theorem Zqi (l : List PR) : OkE 1 (Zt l) := fun x hx => by
 obtain ⟨y, _, rfl⟩ := List.mem_map.1 hx
 exact ⟨rfl, fun u hu => by simp [prC] at hu; subst hu; rfl⟩
def YO (r : PR) : List HP := [Sh 3 1 (Zb r.ps) r.a r.c]
theorem Zpu (r : PR) : ∀ A ∈ YO r, Sht A := fun A hA => by
 simp only [YO, List.mem_singleton] at hA; subst hA; exact Sht.sh
inductive Rch (P : List PR) (n : Int) : Int → Prop
 | refl : 1 ≤ n → n ≤ P.length → Rch P n n
 | step {i : Nat} {r : PR} {u : Int} : Rch P n ((i : Int) + 1) → P[i]? = some r → u ∈ r.ps → Rch P n u
def PRk (P : List PR) : Prop := ∀ (i : Nat) (r : PR), P[i]? = some r → r.ps.length ≤ 2 ∧ ∀ u ∈ r.ps, 1 ≤ u ∧ u ≤ (i : Int)
theorem PRk.nil : PRk [] := fun i r h => by simp at h
theorem Rch.rng {P : List PR} {n u : Int} (hP : PRk P) (h : Rch P n u) : 1 ≤ u ∧ u ≤ n ∧ 1 ≤ n ∧ n ≤ P.length := by
 induction h with
 | refl h1 h2 => exact ⟨h1, Int.le_refl _, h1, h2⟩
 | step _ hr hu ih => have := (hP _ _ hr).2 _ hu; omega
theorem Rch.trans {P : List PR} {n m u : Int} (h : Rch P n m) (k : Rch P m u) : Rch P n u := by
 induction k with
 | refl _ _ => exact h
 | step _ hr hu ih => exact .step ih hr hu
theorem Rch.head {P : List PR} {n u : Int} (hP : PRk P) (h : Rch P n u) : u = n ∨ ∃ (i : Nat) (r : PR) (p : Int), n = (i : Int) + 1 ∧ P[i]? = some r ∧ p ∈ r.ps ∧ Rch P p u := by
 induction h with
 | refl _ _ => exact .inl rfl
 | @step i r u h1 hr hu ih =>
  have h2 := (hP _ _ hr).2 _ hu
  have h3 := (List.getElem?_eq_some_iff.1 hr).1
  rcases ih with e | ⟨i', r', p, e, hr', hp, hk⟩
  ·exact .inr ⟨i, r, u, e.symm, hr, hu, .refl h2.1 (by omega)⟩
  ·exact .inr ⟨i', r', p, e, hr', hp, .step hk hr hu⟩
theorem Rch.mono {P : List PR} {r : PR} {n u : Int} (h : Rch P n u) : Rch (P ++ [r]) n u := by
 induction h with
 | refl h1 h2 => exact .refl h1 (by simp; omega)
 | step _ hr hu ih => exact .step ih (by rw [List.getElem?_append_left (List.getElem?_eq_some_iff.1 hr).1]; exact hr) hu
theorem PRk.snoc {P : List PR} {r : PR} (hP : PRk P) (hl : r.ps.length ≤ 2) (h : ∀ u ∈ r.ps, 1 ≤ u ∧ u ≤ (P.length : Int)) : PRk (P ++ [r]) := fun i x hx => by
 by_cases hi : i < P.length
 ·rw [List.getElem?_append_left hi] at hx; exact hP i x hx
 ·have h1 := (List.getElem?_eq_some_iff.1 hx).1
  have h2 : i = P.length := by simp at h1; omega
  subst h2
  simp at hx; subst hx; exact ⟨hl, h⟩
theorem Rch.old {P : List PR} {r : PR} {n u : Int} (hP : PRk (P ++ [r])) (hn : n ≤ P.length) (h : Rch (P ++ [r]) n u) : Rch P n u := by
 induction h with
 | refl h1 h2 => exact .refl h1 hn
 | @step i r' u h1 hr hu ih =>
  have h2 := (h1.rng hP).2.1
  rw [List.getElem?_append_left (by omega)] at hr
  exact .step ih hr hu
theorem Zm4 {P : List PR} {r : PR} {u : Int} (hP : PRk (P ++ [r])) : Rch (P ++ [r]) ((P.length : Int) + 1) u ↔ u = (P.length : Int) + 1 ∨ ∃ p ∈ r.ps, Rch P p u := by
 have hlast : (P ++ [r])[P.length]? = some r := by simp
 constructor
 ·intro h
  rcases h.head hP with e | ⟨i, r', p, e, hr, hp, hk⟩
  ·exact .inl e
  ·have : i = P.length := by omega
   subst this
   rw [hlast] at hr; cases hr
   exact .inr ⟨p, hp, hk.old hP ((hP _ _ hlast).2 p hp).2⟩
 ·have h0 : Rch (P ++ [r]) ((P.length : Int) + 1) ((P.length : Int) + 1) := .refl (by omega) (by simp)
  rintro (rfl | ⟨p, hp, hk⟩)
  ·exact h0
  ·exact (Rch.step h0 hlast hp).trans hk.mono
theorem Zc4 {l m : List Bool} (hl : l.length = m.length) (h : ∀ (j : Nat) (x y : Bool), l[j]? = some x → m[j]? = some y → (x = true ↔ y = true)) : l = m := by
 refine List.ext_getElem? fun j => ?_
 cases h1 : l[j]? with
 | none => rw [List.getElem?_eq_none_iff] at h1; rw [List.getElem?_eq_none (by omega)]
 | some x =>
  have h2 := (List.getElem?_eq_some_iff.1 h1).1
  have h3 := List.getElem?_eq_getElem (l := m) (i := j) (by omega)
  rw [h3]
  have h4 := h j x _ h1 h3
  cases x <;> cases h5 : m[j] <;> simp_all
def ZU (bs : List Bool) : List Int := bs.zipIdx.filterMap fun p => if p.1 = true then some ((p.2 : Int) + 1) else none
theorem J3 {bs : List Bool} {k : Nat} {x : Bool} (h : bs[k]? = some x) : ZU (bs.take (k + 1)) = ZU (bs.take k) ++ (if x = true then [(k : Int) + 1] else []) := by
 have hl := (List.getElem?_eq_some_iff.1 h).1
 unfold ZU
 rw [List.take_add_one, h]
 simp only [Option.toList_some, List.zipIdx_append, List.filterMap_append]
 have : (bs.take k).length = k := by rw [List.length_take]; omega
 rw [this]
 cases x <;> simp
theorem Zah (bs : List Bool) : ∀ k, k ≤ bs.length → Asc (ZU (bs.take k)) ∧ (ZU (bs.take k)).length ≤ k ∧ ∀ z, z ∈ ZU (bs.take k) ↔ ∃ j : Nat, j < k ∧ bs[j]? = some true ∧ z = (j : Int) + 1
 | 0, _ => ⟨by simp [ZU, Asc], by simp [ZU], fun z => ⟨fun h => by simp [ZU] at h, fun ⟨j, hj, _⟩ => by omega⟩⟩
 | k + 1, hk => by
  obtain ⟨h1, h0, h2⟩ := Zah bs k (by omega)
  obtain ⟨x, hx⟩ : ∃ x, bs[k]? = some x := ⟨_, List.getElem?_eq_getElem (by omega)⟩
  rw [J3 hx]
  cases x with
  | false =>
   refine ⟨by simpa using h1, by simp; omega, fun z => ?_⟩
   rw [if_neg (by decide), List.append_nil, h2]
   constructor
   ·rintro ⟨j, hj, he, e⟩; exact ⟨j, by omega, he, e⟩
   ·rintro ⟨j, hj, he, e⟩
    refine ⟨j, ?_, he, e⟩
    rcases Nat.lt_or_ge j k with h | h
    ·exact h
    ·have : j = k := by omega
     subst this; rw [hx] at he; cases he
  | true =>
   rw [if_pos rfl]
   refine ⟨List.pairwise_append.2 ⟨h1, List.pairwise_singleton _ _, fun a ha b hb => ?_⟩, by simp; omega, fun z => ?_⟩
   ·obtain ⟨j, hj, _, e⟩ := (h2 a).1 ha
    rw [List.mem_singleton.1 hb]; omega
   ·rw [List.mem_append, List.mem_singleton, h2]
    constructor
    ·rintro (⟨j, hj, he, e⟩ | rfl)
     ·exact ⟨j, by omega, he, e⟩
     ·exact ⟨k, by omega, hx, rfl⟩
    ·rintro ⟨j, hj, he, e⟩
     rcases Nat.lt_or_ge j k with h | h
     ·exact .inl ⟨j, h, he, e⟩
     ·have : j = k := by omega
      subst this; exact .inr e
theorem Z5 (bs : List Bool) : Asc (ZU bs) ∧ (ZU bs).length ≤ bs.length ∧ ∀ z, z ∈ ZU bs ↔ ∃ j : Nat, bs[j]? = some true ∧ z = (j : Int) + 1 := by
 have h := Zah bs bs.length (Nat.le_refl _)
 rw [List.take_length] at h
 refine ⟨h.1, h.2.1, fun z => ?_⟩
 rw [h.2.2]
 exact ⟨fun ⟨j, _, h1, h2⟩ => ⟨j, h1, h2⟩, fun ⟨j, h1, h2⟩ => ⟨j, (List.getElem?_eq_some_iff.1 h1).1, h1, h2⟩⟩
open Classical in
noncomputable def up (P : List PR) (n : Int) : List Bool := (List.range P.length).map fun i : Nat => decide (Rch P n ((i : Int) + 1))
@[simp] theorem J1 (P : List PR) (n : Int) : (up P n).length = P.length := by simp [up]
open Classical in
theorem Zh9 {P : List PR} {n : Int} {j : Nat} {x : Bool} (h : (up P n)[j]? = some x) : x = true ↔ Rch P n ((j : Int) + 1) := by
 unfold up at h
 rw [List.getElem?_map] at h
 cases hj : (List.range P.length)[j]? with
 | none => rw [hj] at h; cases h
 | some i =>
  rw [hj] at h
  have hl := (List.getElem?_eq_some_iff.1 hj).2
  rw [List.getElem_range] at hl
  subst hl
  simp at h
  rw [← h, decide_eq_true_eq]
theorem up_eq {P : List PR} {n : Int} {bs : List Bool} (hl : bs.length = P.length) (h : ∀ (j : Nat) (x : Bool), bs[j]? = some x → (x = true ↔ Rch P n ((j : Int) + 1))) : bs = up P n :=
 Zc4 (by simpa using hl) fun j x y hx hy => (h j x hx).trans (Zh9 hy).symm
theorem JV {P : List PR} (hP : PRk P) (n z : Int) : z ∈ ZU (up P n) ↔ Rch P n z := by
 rw [(Z5 _).2.2]
 constructor
 ·rintro ⟨j, hj, rfl⟩; exact (Zh9 hj).1 rfl
 ·intro h
  have h1 := h.rng hP
  obtain ⟨x, hx⟩ : ∃ x, (up P n)[(z - 1).toNat]? = some x := ⟨_, List.getElem?_eq_getElem (by rw [J1]; omega)⟩
  have hz : (((z - 1).toNat : Nat) : Int) + 1 = z := by omega
  have h2 := (Zh9 hx).2 (by rw [hz]; exact h)
  subst h2
  exact ⟨_, hx, hz.symm⟩
def Abv (P : List PR) (n i : Int) (T : List Int) (bs : List Bool) : Prop := bs.length = P.length ∧ ∀ (j : Nat) (x : Bool), bs[j]? = some x → (x = true ↔ ((j : Int) + 1 = n ∨ ∃ (i' : Nat) (r : PR), i < i' ∧ P[i']? = some r ∧ Rch P n ((i' : Int) + 1) ∧ (j : Int) + 1 ∈ r.ps) ∨ (Rch P n (i + 1) ∧ (j : Int) + 1 ∈ T))
theorem abv_0 {P : List PR} {n : Int} (hn : ¬ (1 ≤ n ∧ n ≤ P.length)) : Abv P n (P.length - 1) [] (List.replicate P.length false) := by
 refine ⟨by simp, fun j x hx => ?_⟩
 have h1 := (List.getElem?_eq_some_iff.1 hx).1
 have h2 := List.eq_of_mem_replicate (List.mem_of_getElem? hx)
 rw [List.length_replicate] at h1
 subst h2
 refine ⟨fun h => (by cases h), fun h => ?_⟩
 rcases h with (h | ⟨i', r, h3, h4, _⟩) | ⟨_, h⟩
 ·omega
 ·have := (List.getElem?_eq_some_iff.1 h4).1; omega
 ·cases h
theorem abv_1 {P : List PR} {n : Int} (hn : 1 ≤ n ∧ n ≤ P.length) : Abv P n (P.length - 1) [] ((List.replicate P.length false).set (n - 1).toNat true) := by
 refine ⟨by simp, fun j x hx => ?_⟩
 have h1 := (List.getElem?_eq_some_iff.1 hx).1
 rw [List.length_set, List.length_replicate] at h1
 have hno : ¬ ∃ (i' : Nat) (r : PR), (P.length : Int) - 1 < i' ∧ P[i']? = some r ∧ Rch P n ((i' : Int) + 1) ∧ (j : Int) + 1 ∈ r.ps := fun ⟨i', r, h3, h4, _⟩ => by
  have := (List.getElem?_eq_some_iff.1 h4).1; omega
 rw [List.getElem?_set] at hx
 split at hx
 ·rename_i he
  rw [if_pos (by rw [List.length_replicate]; omega)] at hx
  cases hx
  exact ⟨fun _ => .inl (.inl (by omega)), fun _ => rfl⟩
 ·rename_i he
  have h2 := List.eq_of_mem_replicate (List.mem_of_getElem? hx)
  subst h2
  refine ⟨fun h => (by cases h), fun h => ?_⟩
  rcases h with (h | h) | ⟨_, h⟩
  ·omega
  ·exact absurd h hno
  ·cases h
theorem abv_i {P : List PR} {n : Int} {i : Nat} {T : List Int} {bs : List Bool} {x : Bool} {r : PR} (hP : PRk P) (h : Abv P n i T bs) (hr : P[i]? = some r) (hx : bs[i]? = some x) : x = true ↔ Rch P n ((i : Int) + 1) := by
 have hl := (List.getElem?_eq_some_iff.1 hr).1
 rw [h.2 i x hx]
 constructor
 ·rintro ((e | ⟨i', r', h1, h2, h3, h4⟩) | ⟨h3, h4⟩)
  ·rw [e]; exact .refl (by omega) (by omega)
  ·exact .step h3 h2 h4
  ·exact h3
 ·intro hk
  cases hk with
  | refl h1 h2 => exact .inl (.inl rfl)
  | @step i' r' u h1 h2 h3 =>
   have h4 := (hP _ _ h2).2 _ h3
   exact .inl (.inr ⟨i', r', by omega, h2, h1, h3⟩)
theorem Zmt {P : List PR} {n : Int} {i k : Nat} {bs : List Bool} {r : PR} {u : Int} (hP : PRk P) (h : Abv P n i (r.ps.take k) bs) (hr : P[i]? = some r) (hi : Rch P n ((i : Int) + 1)) (hu : r.ps[k]? = some u) : Abv P n i (r.ps.take (k + 1)) (bs.set (u - 1).toNat true) := by
 refine ⟨by rw [List.length_set]; exact h.1, fun j x hx => ?_⟩
 have hub := (hP _ _ hr).2 u (List.mem_of_getElem? hu)
 have hl := (List.getElem?_eq_some_iff.1 hr).1
 rw [List.getElem?_set] at hx
 rw [List.take_add_one, hu]
 split at hx
 ·rename_i he
  have e2 : (j : Int) + 1 = u := by omega
  split at hx
  ·cases hx
   exact ⟨fun _ => .inr ⟨hi, by rw [e2]; simp⟩, fun _ => rfl⟩
  ·cases hx
 ·rename_i he
  rw [h.2 j x hx]
  have e2 : (j : Int) + 1 ≠ u := by omega
  constructor
  ·rintro (h1 | ⟨h1, h2⟩)
   ·exact .inl h1
   ·exact .inr ⟨h1, List.mem_append_left _ h2⟩
  ·rintro (h1 | ⟨h1, h2⟩)
   ·exact .inl h1
   ·rcases List.mem_append.1 h2 with h2 | h2
    ·exact .inr ⟨h1, h2⟩
    ·simp at h2; exact absurd h2 e2
theorem Zia {P : List PR} {n : Int} {i : Nat} {T : List Int} {bs : List Bool} {r : PR} (h : Abv P n i T bs) (hr : P[i]? = some r) (hT : T = r.ps ∨ ¬ Rch P n ((i : Int) + 1)) : Abv P n ((i : Int) - 1) [] bs := by
 refine ⟨h.1, fun j x hx => ?_⟩
 rw [h.2 j x hx]
 constructor
 ·rintro ((e | ⟨i', r', h1, h2, h3, h4⟩) | ⟨h3, h4⟩)
  ·exact .inl (.inl e)
  ·exact .inl (.inr ⟨i', r', by omega, h2, h3, h4⟩)
  ·rcases hT with rfl | hT
   ·exact .inl (.inr ⟨i, r, by omega, hr, h3, h4⟩)
   ·exact absurd h3 hT
 ·rintro ((e | ⟨i', r', h1, h2, h3, h4⟩) | ⟨h3, h4⟩)
  ·exact .inl (.inl e)
  ·by_cases he : i' = i
   ·subst he
    rw [hr] at h2; cases h2
    rcases hT with rfl | hT
    ·exact .inr ⟨h3, h4⟩
    ·exact absurd h3 hT
   ·exact .inl (.inr ⟨i', r', by omega, h2, h3, h4⟩)
  ·cases h4
theorem Zkw {P : List PR} {n i : Int} {k : Nat} {T : List Int} {bs : List Bool} {x : Bool} {r : PR} (hk : i = k) (hP : PRk P) (h : Abv P n i T bs) (hr : P[k]? = some r) (hx : bs[k]? = some x) : x = true ↔ Rch P n (i + 1) := by
 subst hk; exact abv_i hP h hr hx
theorem Zi5 {P : List PR} {n i : Int} {k m : Nat} {bs : List Bool} {r : PR} {u : Int} (hk : i = k) (hP : PRk P) (h : Abv P n i (r.ps.take m) bs) (hr : P[k]? = some r) (hi : Rch P n (i + 1)) (hu : r.ps[m]? = some u) : Abv P n i (r.ps.take (m + 1)) (bs.set (u - 1).toNat true) := by
 subst hk; exact Zmt hP h hr hi hu
theorem Zag {P : List PR} {n i : Int} {k : Nat} {T : List Int} {bs : List Bool} {r : PR} (hk : i = k) (h : Abv P n i T bs) (hr : P[k]? = some r) (hT : T = r.ps ∨ ¬ Rch P n (i + 1)) : Abv P n (i - 1) [] bs := by
 subst hk; exact Zia h hr hT
theorem Zlz {P : List PR} {n : Int} {bs : List Bool} {i : Int} (hi : i < 0) (h : Abv P n i [] bs) : bs = up P n := up_eq h.1 fun j x hx => by
 have hl := (List.getElem?_eq_some_iff.1 hx).1
 have hl2 := h.1
 rw [h.2 j x hx]
 constructor
 ·rintro ((e | ⟨i', r', h1, h2, h3, h4⟩) | ⟨h3, h4⟩)
  ·rw [e]; exact .refl (by omega) (by omega)
  ·exact .step h3 h2 h4
  ·cases h4
 ·intro hk
  generalize hz : (j : Int) + 1 = z at hk
  cases hk with
  | refl h1 h2 => exact .inl (.inl rfl)
  | @step i' r' u h1 h2 h3 => exact .inl (.inr ⟨i', r', by omega, h2, h1, h3⟩)
noncomputable def Yy (P : List PR) (x y : Int) : Int := gcm (ZU (up P x)) (ZU (up P y))
theorem Zo0 {P : List PR} {x y : Int} {i : Nat} (h1 : (up P x)[i]? = some true) (h2 : (up P y)[i]? = some true) (h : ∀ j : Nat, i < j → (up P x)[j]? = some true → (up P y)[j]? = some true → False) : Yy P x y = (i : Int) + 1 := by
 refine Jg (Z5 _).1 ((Z5 _).2.2 _ |>.2 ⟨i, h1, rfl⟩) ((Z5 _).2.2 _ |>.2 ⟨i, h2, rfl⟩) fun z hz hz2 => ?_
 obtain ⟨j, hj, rfl⟩ := ((Z5 _).2.2 z).1 hz
 obtain ⟨j', hj', e⟩ := ((Z5 _).2.2 _).1 hz2
 have : j' = j := by omega
 subst this
 rcases Nat.lt_or_ge i j' with hl | hl
 ·exact absurd (h j' hl hj hj') id
 ·omega
theorem Zqe {P : List PR} {x y : Int} (h : ∀ j : Nat, (up P x)[j]? = some true → (up P y)[j]? = some true → False) : Yy P x y = 0 := by
 refine JO fun z hz hz2 => ?_
 obtain ⟨j, hj, rfl⟩ := ((Z5 _).2.2 z).1 hz
 obtain ⟨j', hj', e⟩ := ((Z5 _).2.2 _).1 hz2
 have : j' = j := by omega
 subst this
 exact h j' hj hj'
theorem JW {P : List PR} (hP : PRk P) (x y : Int) : (Yy P x y = 0 ∧ ∀ z, Rch P x z → ¬ Rch P y z) ∨ (Rch P x (Yy P x y) ∧ Rch P y (Yy P x y) ∧ ∀ z, Rch P x z → Rch P y z → z ≤ Yy P x y) := by
 rcases X9 (l := ZU (up P x)) (m := ZU (up P y)) (Z5 _).1 with ⟨h1, h2⟩ | ⟨h1, h2, h3⟩
 ·exact .inl ⟨h1, fun z hz hz2 => h2 z ((JV hP x z).2 hz) ((JV hP y z).2 hz2)⟩
 ·exact .inr ⟨(JV hP x _).1 h1, (JV hP y _).1 h2, fun z hz hz2 => h3 z ((JV hP x z).2 hz) ((JV hP y z).2 hz2)⟩
theorem Zcj {P : List PR} (hP : PRk P) (x y : Int) : 0 ≤ Yy P x y ∧ Yy P x y ≤ P.length := by
 rcases JW hP x y with ⟨h, _⟩ | ⟨h, _, _⟩
 ·omega
 ·have := h.rng hP; omega
def ZB (L : List Bool) (n : Int) : Bool := decide (1 ≤ n) && (L[(n - 1).toNat]?).getD false
theorem ZN {L : List Bool} {n : Int} {k : Nat} {x : Bool} (hn : n = (k : Int) + 1) (h : L[k]? = some x) : ZB L n = x := by
 subst hn
 unfold ZB
 rw [show ((k : Int) + 1 - 1).toNat = k by omega, h, decide_eq_true (by omega)]; rfl
theorem Yv {L : List Bool} {n : Int} (h : ¬ (1 ≤ n ∧ n ≤ L.length)) : ZB L n = false := by
 unfold ZB
 by_cases h1 : 1 ≤ n
 ·rw [List.getElem?_eq_none (by omega), Option.getD_none, Bool.and_false]
 ·rw [decide_eq_false h1]; rfl
theorem Yi {L : List Bool} {n : Int} (h : ZB L n = true) : 1 ≤ n ∧ n ≤ L.length := by
 refine Decidable.by_contra fun hn => ?_
 rw [Yv hn] at h; cases h
def Prs (P : List PR) (L : List Bool) (x y : Int) (bs : List Bool) : Prop := bs.length = P.length ∧ ∀ (j : Nat) (b : Bool), bs[j]? = some b → (b = true ↔ ∃ u v, ZB L u = true ∧ ZB L v = true ∧ u ≤ v ∧ (u < x ∨ u = x ∧ v < y) ∧ Yy P u v = (j : Int) + 1)
theorem prs_0 {P : List PR} {L : List Bool} : Prs P L 1 1 (List.replicate P.length false) := by
 refine ⟨by simp, fun j b hb => ?_⟩
 have h2 := List.eq_of_mem_replicate (List.mem_of_getElem? hb)
 subst h2
 refine ⟨fun h => (by cases h), fun ⟨u, v, h1, h2, h3, h4, _⟩ => ?_⟩
 have := Yi h1
 omega
theorem Zmx {P : List PR} {L : List Bool} {x y : Int} {bs : List Bool} (hP : PRk P) (h : Prs P L x y bs) (hx : ZB L x = true) (hy : ZB L y = true) (hxy : x ≤ y) (hc : 0 < Yy P x y) : Prs P L x (y + 1) (bs.set (Yy P x y - 1).toNat true) := by
 refine ⟨by rw [List.length_set]; exact h.1, fun j b hb => ?_⟩
 have hcr := Zcj hP x y
 have hl := h.1
 rw [List.getElem?_set] at hb
 split at hb
 ·rename_i he
  split at hb
  ·cases hb
   exact ⟨fun _ => ⟨x, y, hx, hy, hxy, by omega, by omega⟩, fun _ => rfl⟩
  ·cases hb
 ·rename_i he
  rw [h.2 j b hb]
  constructor
  ·rintro ⟨u, v, h1, h2, h3, h4, h5⟩; exact ⟨u, v, h1, h2, h3, by omega, h5⟩
  ·rintro ⟨u, v, h1, h2, h3, h4, h5⟩
   by_cases hq : u = x ∧ v = y
   ·obtain ⟨rfl, rfl⟩ := hq; omega
   ·exact ⟨u, v, h1, h2, h3, by omega, h5⟩
theorem Zdt {P : List PR} {L : List Bool} {x y : Int} {bs : List Bool} (h : Prs P L x y bs) (hn : ZB L y = false ∨ ¬ 0 < Yy P x y) : Prs P L x (y + 1) bs := by
 refine ⟨h.1, fun j b hb => ?_⟩
 rw [h.2 j b hb]
 constructor
 ·rintro ⟨u, v, h1, h2, h3, h4, h5⟩; exact ⟨u, v, h1, h2, h3, by omega, h5⟩
 ·rintro ⟨u, v, h1, h2, h3, h4, h5⟩
  by_cases hq : u = x ∧ v = y
  ·obtain ⟨rfl, rfl⟩ := hq
   rcases hn with hn | hn
   ·rw [hn] at h2; cases h2
   ·omega
  ·exact ⟨u, v, h1, h2, h3, by omega, h5⟩
theorem Zc3 {P : List PR} {L : List Bool} {x y : Int} {bs : List Bool} (h : Prs P L x y bs) (hn : (L.length : Int) < y ∨ ZB L x = false) : Prs P L (x + 1) (x + 1) bs := by
 refine ⟨h.1, fun j b hb => ?_⟩
 rw [h.2 j b hb]
 constructor
 ·rintro ⟨u, v, h1, h2, h3, h4, h5⟩; exact ⟨u, v, h1, h2, h3, by omega, h5⟩
 ·rintro ⟨u, v, h1, h2, h3, h4, h5⟩
  refine ⟨u, v, h1, h2, h3, ?_, h5⟩
  have hv := Yi h2
  by_cases hu : u = x
  ·subst hu
   rcases hn with hn | hn
   ·omega
   ·rw [hn] at h1; cases h1
  ·omega
open Classical in
noncomputable def Z1 (P : List PR) (L : List Bool) : List Bool := (List.range P.length).map fun i : Nat => decide (∃ u v, ZB L u = true ∧ ZB L v = true ∧ u ≤ v ∧ Yy P u v = (i : Int) + 1)
@[simp] theorem Xl (P : List PR) (L : List Bool) : (Z1 P L).length = P.length := by simp [Z1]
open Classical in
theorem Zck {P : List PR} {L : List Bool} {j : Nat} {x : Bool} (h : (Z1 P L)[j]? = some x) : x = true ↔ ∃ u v, ZB L u = true ∧ ZB L v = true ∧ u ≤ v ∧ Yy P u v = (j : Int) + 1 := by
 unfold Z1 at h
 rw [List.getElem?_map] at h
 cases hj : (List.range P.length)[j]? with
 | none => rw [hj] at h; cases h
 | some i =>
  rw [hj] at h
  have hl := (List.getElem?_eq_some_iff.1 hj).2
  rw [List.getElem_range] at hl
  subst hl
  simp only [Option.map_some, Option.some.injEq] at h
  rw [← h]; exact decide_eq_true_iff
theorem Znw {P : List PR} {L : List Bool} {x y : Int} {bs : List Bool} (h : Prs P L x y bs) (hx : (L.length : Int) < x) : bs = Z1 P L := by
 refine Zc4 (by rw [Xl]; exact h.1) fun j b b' hb hb' => ?_
 rw [h.2 j b hb, Zck hb']
 constructor
 ·rintro ⟨u, v, h1, h2, h3, h4, h5⟩; exact ⟨u, v, h1, h2, h3, h5⟩
 ·rintro ⟨u, v, h1, h2, h3, h5⟩
  have := Yi h1
  exact ⟨u, v, h1, h2, h3, by omega, h5⟩
theorem Zjm {P : List PR} (hP : PRk P) (L : List Bool) (z : Int) : ZB (Z1 P L) z = true ↔ 0 < z ∧ ∃ u v, ZB L u = true ∧ ZB L v = true ∧ u ≤ v ∧ Yy P u v = z := by
 constructor
 ·intro h
  have h1 := Yi h
  obtain ⟨x, hx⟩ : ∃ x, (Z1 P L)[(z - 1).toNat]? = some x := ⟨_, List.getElem?_eq_getElem (by omega)⟩
  have hz : z = (((z - 1).toNat : Nat) : Int) + 1 := by omega
  rw [ZN hz hx] at h
  obtain ⟨u, v, h2, h3, h4, h5⟩ := (Zck hx).1 h
  exact ⟨by omega, u, v, h2, h3, h4, by omega⟩
 ·rintro ⟨h0, u, v, h2, h3, h4, h5⟩
  have hc := Zcj hP u v
  obtain ⟨x, hx⟩ : ∃ x, (Z1 P L)[(z - 1).toNat]? = some x := ⟨_, List.getElem?_eq_getElem (by rw [Xl]; omega)⟩
  have hz : z = (((z - 1).toNat : Nat) : Int) + 1 := by omega
  rw [ZN hz hx]
  exact (Zck hx).2 ⟨u, v, h2, h3, h4, by omega⟩
theorem Zhr (bs : List Bool) (z : Int) : z ∈ ZU bs ↔ ZB bs z = true := by
 rw [(Z5 bs).2.2]
 constructor
 ·rintro ⟨j, hj, rfl⟩; exact ZN rfl hj
 ·intro h
  have h1 := Yi h
  obtain ⟨x, hx⟩ : ∃ x, bs[(z - 1).toNat]? = some x := ⟨_, List.getElem?_eq_getElem (by omega)⟩
  have hz : z = (((z - 1).toNat : Nat) : Int) + 1 := by omega
  rw [ZN hz hx] at h
  subst h
  exact ⟨_, hx, hz⟩
end Go.V
namespace Go.Proofs.YtbeacjcmdijdmaaGreat
open Go Go.V
theorem Qm {g w : World} {L : List HP} (cap : Int) (P : List PR) (a : Option Addr) (c : Nat) (B : List Bool) (b : Option Addr) (d : Nat) (n : Int) (hB : B.length ≤ 1000) (Z : St g (Sh 4 1 (Zc B) b d :: L) w) :
  Sp Tryz.prog 149 [.agg #[.int .i64 cap, .slice a (Zt P).length c, .slice b (Zc B).length d], .int .i64 n] w (fun v w' => v = .bool (ZB B n) ∧ St g (Sh 4 1 (Zc B) b d :: L) w') := by
 refine Sp.enter Tryz.func149 rfl (by kernel_rfl) (by kernel_rfl) ?_
 have _ := hB
 refine WC.seq <| WC.region ?_
 have hbl := Zv B
 refine WL.box rfl rfl #[.int .i64 cap, .slice a (Zt P).length c, .slice b (Zc B).length d] Z rfl rfl (fun b1 w Z => ?_)
 refine WL.r 1 rfl <| WL.nil <| WC.seq <| WC.region <| WL.r 3 rfl ?_
 by_cases cg1 : 1 ≤ n
 ·refine WL.reb 7 (.bool true) (congrArg Value.bool (decide_eq_true cg1)) <| WL.ung rfl rfl rfl <| WL.r 1 rfl <| WL.ung rfl rfl rfl <| WL.r 1 rfl <| WL.ung rfl rfl rfl <| WL.run 1 [.slice b (Zc B).length d] rfl (by exact Z.ld 0 rfl rfl) ?_
  refine WL.ung rfl rfl rfl <| WL.r 1 rfl <| WL.ung rfl rfl rfl <| WL.r 3 rfl ?_
  by_cases cg2 : n ≤ (List.length (Zc B) : Int)
  ·refine WL.reb 14 (.bool true) (congrArg Value.bool (decide_eq_true cg2)) <| WL.ung rfl rfl rfl <| WL.r 1 rfl <| WL.ung rfl rfl rfl <| WL.run 1 [.slice b (Zc B).length d] rfl (by exact Z.ld 0 rfl rfl) ?_
   refine WL.ung rfl rfl rfl <| WL.r 1 rfl <| WL.ung rfl rfl rfl <| WL.r 1 rfl <| WL.nw 18 rfl (Zr (by omega)) ?_
   refine WL.ung rfl rfl rfl ?_
   obtain ⟨x, hx⟩ : ∃ x, B[(n - 1).toNat]? = some x := ⟨_, List.getElem?_eq_getElem (by omega)⟩
   refine WL.ix rfl rfl (i := n - 1) ((n - 1).toNat) el_33 rfl rfl (by omega) (by omega) (Z.rdS 1 rfl (Zu hx)).1 ?_
   refine WL.ung rfl rfl rfl <| WL.run 3 [.bool x] rfl (by exact (Z.rdS 1 rfl (Zu hx)).2 0 _ rfl) ?_
   refine WL.nil ?_
   as_aux_lemma =>
   refine WC.ret ?_
   refine ⟨[.bool x], rfl, ?_⟩
   replace Z := (Z.sel 1 [] rfl)
   first | exact ⟨congrArg Value.bool (ZN (by omega) hx).symm, Z⟩ | exact ⟨congrArg Value.bool (Yv (by omega)).symm, Z⟩
  ·refine WL.reb 14 (.bool false) (congrArg Value.bool (decide_eq_false cg2)) <| WL.skp rfl rfl rfl rfl <| WL.skp rfl rfl rfl rfl <| WL.skp rfl rfl rfl rfl <| WL.skp rfl rfl rfl rfl <| WL.skp rfl rfl rfl rfl <| WL.skp rfl rfl rfl rfl <| WL.r 2 rfl <| WL.nil ?_
   as_aux_lemma =>
   refine WC.ret ?_
   refine ⟨[.bool false], rfl, ?_⟩
   replace Z := (Z.sel 1 [] rfl)
   first | exact ⟨congrArg Value.bool (ZN (by omega) hx).symm, Z⟩ | exact ⟨congrArg Value.bool (Yv (by omega)).symm, Z⟩
 ·refine WL.reb 7 (.bool false) (congrArg Value.bool (decide_eq_false cg1)) <| WL.skp rfl rfl rfl rfl <| WL.skp rfl rfl rfl rfl <| WL.skp rfl rfl rfl rfl <| WL.skp rfl rfl rfl rfl <| WL.skp rfl rfl rfl rfl <| WL.r 2 rfl <| WL.skp rfl rfl rfl rfl <| WL.skp rfl rfl rfl rfl <| WL.skp rfl rfl rfl rfl <| WL.skp rfl rfl rfl rfl <| WL.skp rfl rfl rfl rfl ?_
  refine WL.skp rfl rfl rfl rfl <| WL.r 2 rfl <| WL.nil ?_
  as_aux_lemma =>
  refine WC.ret ?_
  refine ⟨[.bool false], rfl, ?_⟩
  replace Z := (Z.sel 1 [] rfl)
  first | exact ⟨congrArg Value.bool (ZN (by omega) hx).symm, Z⟩ | exact ⟨congrArg Value.bool (Yv (by omega)).symm, Z⟩
theorem Qp {g w : World} {L : List HP} (cap : Int) (P : List PR) (a : Option Addr) (c : Nat) (B : List Bool) (b : Option Addr) (d : Nat) (n : Int) (hP : PRk P) (hl : P.length ≤ 1000) (Z : St g (Sh 56 1 (Zt P) a c :: Zn YO P :: L) w) :
  Sp Tryz.prog 199 [.agg #[.int .i64 cap, .slice a (Zt P).length c, .slice b (Zc B).length d], .int .i64 n] w (fun v w' => ∃ (a2 : Option Addr) (c2 : Nat), v = .slice a2 (Zc (up P n)).length c2 ∧ St g (Zf 4 1 (Zc (up P n)) a2 c2 :: Sh 56 1 (Zt P) a c :: Zn YO P :: L) w') := by
 refine Sp.enter Tryz.func199 rfl (by kernel_rfl) (by kernel_rfl) ?_
 have _ := hl
 refine WC.seq <| WC.region <| WL.box rfl rfl #[.int .i64 cap, .slice a (Zt P).length c, .slice b (Zc B).length d] Z rfl rfl (fun b1 w Z => ?_)
 refine WL.r 1 rfl <| WL.nil <| WC.seq <| WC.region ?_
 have hel := Zbl P
 refine WL.run 3 [.slice a (Zt P).length c] rfl (by exact Z.ld 0 rfl rfl) ?_
 refine WL.make rfl rfl (v := (List.length (Zt P) : Int)) (v' := (List.length (Zt P) : Int)) (P.length) (P.length) el_33 Z rfl (by omega) rfl (by omega) (by omega) (Rm.of (by omega) (by decide)) (fun b2 w Z => ?_)
 replace Z := Z.n4 L (a0 := Zf 4 1 (List.replicate (List.length P) [.bool false]) (some ⟨b2, 0, none⟩) (List.length P)) (a1 := Ze b1 #[.int .i64 cap, .slice a (Zt P).length c, .slice b (Zc B).length d] 40) rfl
 refine WL.r 1 rfl <| WL.nil <| WC.seq <| WC.seq <| WC.region ?_
 rw [X_] at Z
 replace Z := Z.n4 L (a0 := Zf 4 1 (Zc (List.replicate (List.length P) false)) (some ⟨b2, 0, none⟩) (List.length P)) rfl
 refine WL.r 2 rfl <| WL.rG 6 rfl (fun j => ?_)
 refine WL.prop 19 rfl (Qd (dd _) (dd _)) <| WL.nil <| WC.cut [2, 4, 5] (fun vs w => ∃ (bs : List Bool), vs = [.pointer (some ⟨b1, 0, none⟩), .slice none 0 0, .slice (some ⟨b2, 0, none⟩) (List.length P) (List.length P)] ∧ St g (Zf 4 1 (Zc bs) (some ⟨b2, 0, none⟩) (List.length P) :: Ze b1 #[.int .i64 cap, .slice a (Zt P).length c, .slice b (Zc B).length d] 40 :: Sh 56 1 (Zt P) a c :: Zn YO P :: L) w ∧ (Abv P n (P.length - 1) [] bs)) ?_ ?_
 ·refine WC.ifP rfl (fun cd1 => ?_) (fun cd1 => ?_)
  ·refine WC.region <| WL.r 3 rfl <| WL.nw 22 rfl (Zr (by omega)) ?_
   have h0 : (List.replicate P.length false)[(n - 1).toNat]? = some false := by rw [List.getElem?_replicate, if_pos (by omega)]
   refine WL.ix rfl rfl (i := n - 1) ((n - 1).toNat) el_33 rfl rfl (by omega) (by omega) (Z.rdO 0 rfl (Zu h0)).1 ?_
   refine WL.stE rfl rfl rfl 0 ((n - 1).toNat) 0 [.bool false] (Zc ((List.replicate P.length false).set (n - 1).toNat true)) Z rfl (Zu h0) rfl rfl rfl rfl rfl (YL _ _ _) (fun w Z => ?_)
   replace Z := Z.n4 L (a0 := Zf 4 1 (Zc ((List.replicate (List.length P) false).set (n - 1).toNat true)) (some ⟨b2, 0, none⟩) (List.length P)) rfl
   refine WL.nil ?_
   exact ⟨(List.replicate P.length false).set (n - 1).toNat true, rfl, Z, (abv_1 cd1)⟩
  ·refine WC.skip ?_
   exact ⟨List.replicate P.length false, rfl, Z, (abv_0 cd1)⟩
 clear Z; rintro _ w j ⟨bs, rfl, Z, hA⟩
 as_aux_lemma =>
 refine WC.seq <| WC.seq <| WC.region <| WL.r 3 rfl <| WL.nw 26 rfl (Zr (by omega)) ?_
 refine WL.r 1 rfl <| WL.nil <| WC.block <| WC.loop [2, 4, 5, 6] (fun kM vs w => ∃ (i : Int) (bs : List Bool), vs = [.pointer (some ⟨b1, 0, none⟩), .slice none 0 0, .slice (some ⟨b2, 0, none⟩) (List.length P) (List.length P), .int .i64 i] ∧ St g (Zf 4 1 (Zc bs) (some ⟨b2, 0, none⟩) (List.length P) :: Ze b1 #[.int .i64 cap, .slice a (Zt P).length c, .slice b (Zc B).length d] 40 :: Sh 56 1 (Zt P) a c :: Zn YO P :: L) w ∧ (-1 ≤ i ∧ i < P.length) ∧ (Abv P n i [] bs) ∧ ((i + 1).toNat) = kM) ((((List.length P : Int) - 1) + 1).toNat) ⟨(P.length : Int) - 1, bs, rfl, Z, (by omega), (hA), rfl⟩ ?_
 clear Z; rintro _ _ w j ⟨i, bs, rfl, Z, hi, hA, rfl⟩
 refine WC.seq <| WC.seq <| WC.region <| WL.r 2 rfl <| WL.nil <| WC.ifP rfl (fun cd1 => ?_) (fun cd1 => ?_)
 ·refine WC.skip <| WC.seq <| WC.cut [2, 4, 5, 6, 27, 28] (fun vs w => ∃ (bt : List Bool), vs = [.pointer (some ⟨b1, 0, none⟩), .slice none 0 0, .slice (some ⟨b2, 0, none⟩) (List.length P) (List.length P), .int .i64 i, .int .i64 i, .bool (decide (0 ≤ i))] ∧ St g (Zf 4 1 (Zc bt) (some ⟨b2, 0, none⟩) (List.length P) :: Ze b1 #[.int .i64 cap, .slice a (Zt P).length c, .slice b (Zc B).length d] 40 :: Sh 56 1 (Zt P) a c :: Zn YO P :: L) w ∧ (Abv P n (i - 1) [] bt)) ?_ ?_
  ·refine WC.block <| WC.seq <| WC.region ?_
   obtain ⟨k, hk⟩ : ∃ k : Nat, i = (k : Int) := ⟨i.toNat, by omega⟩; obtain ⟨r, hr⟩ : ∃ r, P[k]? = some r := ⟨_, List.getElem?_eq_getElem (by omega)⟩; have hrl := (hP k r hr).1; have hru := (hP k r hr).2; have hrp := Zh r.ps
   refine WL.r 1 rfl <| WL.nil ?_
   as_aux_lemma =>
   refine WC.block <| WC.loop [2, 4, 5, 6, 7, 27, 28] (fun kM vs w => ∃ (m : Nat) (bt : List Bool), vs = [.pointer (some ⟨b1, 0, none⟩), .slice none 0 0, .slice (some ⟨b2, 0, none⟩) (List.length P) (List.length P), .int .i64 i, .int .i64 (m : Int), .int .i64 i, .bool (decide (0 ≤ i))] ∧ St g (Zf 4 1 (Zc bt) (some ⟨b2, 0, none⟩) (List.length P) :: Ze b1 #[.int .i64 cap, .slice a (Zt P).length c, .slice b (Zc B).length d] 40 :: Sh 56 1 (Zt P) a c :: Zn YO P :: L) w ∧ (m ≤ r.ps.length) ∧ (Abv P n i (r.ps.take m) bt) ∧ (r.ps.length - m) = kM) ((List.length r.ps) - 0) ⟨0, bs, rfl, Z, (Nat.zero_le _), (hA), rfl⟩ ?_
   clear Z; rintro _ _ w j ⟨m, bt, rfl, Z, hm, hB, rfl⟩
   refine WC.seq <| WC.seq <| WC.region <| WL.r 2 rfl ?_
   have hbl := hB.1; have hbo := Zv bt; obtain ⟨x, hx⟩ : ∃ x, bt[k]? = some x := ⟨_, List.getElem?_eq_getElem (by omega)⟩
   refine WL.ix rfl rfl (i := i) (k) el_33 rfl rfl (by omega) (by omega) (Z.rdO 0 rfl (Zu hx)).1 ?_
   refine WL.run 2 [.bool x] rfl (by exact (Z.rdO 0 rfl (Zu hx)).2 0 _ rfl) ?_
   by_cases cg1 : x = true
   ·refine WL.reb 35 (.bool true) (congrArg Value.bool cg1) <| WL.ung rfl rfl rfl <| WL.r 1 rfl <| WL.ung rfl rfl rfl <| WL.r 1 rfl <| WL.ung rfl rfl rfl <| WL.run 1 [.slice a (Zt P).length c] rfl (by exact Z.ld 1 rfl rfl) ?_
    refine WL.ung rfl rfl rfl <| WL.r 1 rfl <| WL.ung rfl rfl rfl <| WL.ix rfl rfl (i := i) (k) el_38 rfl rfl (by omega) (by omega) (Z.rdS 2 rfl (Zb4 hr)).1 ?_
    refine WL.ung rfl rfl rfl <| WL.run 1 [.slice r.a (Zb r.ps).length r.c] rfl (by exact (Z.rdS 2 rfl (Zb4 hr)).2 0 _ rfl) ?_
    refine WL.ung rfl rfl rfl <| WL.r 1 rfl <| WL.ung rfl rfl rfl <| WL.r 2 rfl <| WL.nil ?_
    as_aux_lemma =>
    refine WC.ifP rfl (fun cd2 => ?_) (fun cd2 => ?_)
    ·refine WC.skip <| WC.seq <| WC.block <| WC.region ?_
     replace Z : St g (Sh 3 1 (Zb r.ps) r.a r.c :: Zf 4 1 (Zc bt) (some ⟨b2, 0, none⟩) (List.length P) :: Ze b1 #[.int .i64 cap, .slice a (Zt P).length c, .slice b (Zc B).length d] 40 :: Sh 56 1 (Zt P) a c :: Zn YO P :: L) w := Z.shsGet 3 rfl (List.mem_of_getElem? hr)
     refine WL.run 4 [.slice a (Zt P).length c] rfl (by exact Z.ld 2 rfl rfl) ?_
     refine WL.ix rfl rfl (i := i) (k) el_38 rfl rfl (by omega) (by omega) (Z.rdS 3 rfl (Zb4 hr)).1 ?_
     refine WL.run 2 [.slice r.a (Zb r.ps).length r.c] rfl (by exact (Z.rdS 3 rfl (Zb4 hr)).2 0 _ rfl) ?_
     obtain ⟨u, hu⟩ : ∃ u, r.ps[m]? = some u := ⟨_, List.getElem?_eq_getElem (by omega)⟩; have hub := hru u (List.mem_of_getElem? hu); obtain ⟨y, hy⟩ : ∃ y, bt[(u - 1).toNat]? = some y := ⟨_, List.getElem?_eq_getElem (by omega)⟩
     refine WL.ix rfl rfl (i := (m : Int)) (m) el_56 rfl rfl (by omega) (by omega) (Z.rdS 0 rfl (Zd hu)).1 ?_
     refine WL.run 2 [.int .i64 u] rfl (by exact (Z.rdS 0 rfl (Zd hu)).2 0 _ rfl) ?_
     refine WL.nw 56 rfl (Zr (by omega)) ?_
     refine WL.ix rfl rfl (i := u - 1) ((u - 1).toNat) el_33 rfl rfl (by omega) (by omega) (Z.rdO 1 rfl (Zu hy)).1 ?_
     refine WL.stE rfl rfl rfl 1 ((u - 1).toNat) 0 [.bool y] (Zc (bt.set (u - 1).toNat true)) Z rfl (Zu hy) rfl rfl rfl rfl rfl (YL _ _ _) (fun w Z => ?_)
     replace Z := Z.n5 L (a0 := Sh 3 1 (Zb r.ps) r.a r.c) (a1 := Zf 4 1 (Zc (bt.set (u - 1).toNat true)) (some ⟨b2, 0, none⟩) (List.length P)) rfl
     refine WL.nil <| WC.region <| WL.r 2 rfl <| WL.nw 46 rfl (Zr (by omega)) ?_
     refine WL.r 1 rfl <| WL.nil ?_
     exact ⟨_, by omega, m + 1, bt.set (u - 1).toNat true, rfl, (Z.sel 1 [] rfl), (by omega), (Zi5 hk hP hB hr ((Zkw hk hP hB hr hx).1 (by simpa using cg1)) hu), rfl⟩
    ·refine WC.exit ?_
     exact ⟨bt, rfl, Z, (Zag hk hB hr (.inl (List.take_of_length_le (by omega))))⟩
   ·refine WL.reb 35 (.bool false) (congrArg Value.bool (Bool.eq_false_iff.2 cg1)) <| WL.skp rfl rfl rfl rfl <| WL.skp rfl rfl rfl rfl <| WL.skp rfl rfl rfl rfl <| WL.skp rfl rfl rfl rfl <| WL.skp rfl rfl rfl rfl <| WL.skp rfl rfl rfl rfl <| WL.skp rfl rfl rfl rfl <| WL.skp rfl rfl rfl rfl <| WL.r 1 rfl <| WL.nil <| WC.ifF rfl rfl ?_
    refine WC.exit ?_
    exact ⟨bt, rfl, Z, (Zag hk hB hr (.inr (fun h => cg1 ((Zkw hk hP hB hr hx).2 h))))⟩
  clear Z; rintro _ w j ⟨bt, rfl, Z, hB⟩
  refine WC.region <| WL.r 2 rfl <| WL.nw 30 rfl (Zr (by omega)) ?_
  refine WL.r 1 rfl <| WL.nil ?_
  exact ⟨_, by omega, i - 1, bt, rfl, Z, (by omega), (hB), rfl⟩
 ·refine WC.exit <| WC.seq <| WC.region ?_
  have e1 := Zlz (i := i) (by omega) hA; subst e1; have hul := J1 P n; have hbl := Zv (up P n)
  refine WL.reb 5 (.slice (some ⟨b2, 0, none⟩) (Zc (up P n)).length P.length) (congrArg (fun m => Value.slice (some ⟨b2, 0, none⟩) m P.length) (by omega)) ?_
  refine WL.r 2 rfl <| WL.nil <| WC.ret ?_
  refine ⟨[.slice (some ⟨b2, 0, none⟩) (Zc (up P n)).length (List.length P)], rfl, ?_⟩
  replace Z := (Z.sel 2 [0] rfl)
  exact ⟨_, _, rfl, Z⟩
theorem Zbh {g w : World} {L : List HP} (bs : List Bool) (a : Option Addr) (c : Nat) (hl : bs.length ≤ 1000000) (Z : St g (Sh 4 1 (Zc bs) a c :: L) w) :
  Sp Tryz.prog 157 [.slice a (Zc bs).length c] w (fun v w' => ∃ (a2 : Option Addr) (c2 : Nat), v = .slice a2 (Zb (ZU bs)).length c2 ∧ St g (Zf 3 1 (Zb (ZU bs)) a2 c2 :: Sh 4 1 (Zc bs) a c :: L) w') := by
 refine Sp.enter Tryz.func157 rfl (by kernel_rfl) (by kernel_rfl) ?_
 have _ := hl
 refine WC.seq <| WC.region <| WL.r 1 rfl <| WL.nil <| WC.seq <| WC.region <| WL.r 1 rfl <| WL.nil <| WC.seq <| WC.seq <| WC.region ?_
 have hbl := Zv bs
 refine WL.r 1 rfl <| WL.nil <| WC.block ?_
 replace Z := Z.nil_ 3 1
 refine WC.loop [0, 2, 3, 4] (fun kM vs w => ∃ (k : Nat) (out : List Int) (u : Option Addr) (d : Nat), vs = [.slice a (Zc bs).length c, .slice none 0 0, .slice u (Zb out).length d, .int .i64 (k : Int)] ∧ St g (Zf 3 1 (Zb out) u d :: Sh 4 1 (Zc bs) a c :: L) w ∧ (k ≤ bs.length) ∧ (out = ZU (bs.take k)) ∧ (out.length ≤ k) ∧ (bs.length - k) = kM) ((List.length bs) - 0) ⟨0, [], none, 0, rfl, Z, (Nat.zero_le _), (rfl), (Nat.le_refl _), rfl⟩ ?_
 clear Z; rintro _ _ w j ⟨k, out, u, d, rfl, Z, hk, ho, hol, rfl⟩
 refine WC.seq <| WC.seq <| WC.region ?_
 have hbl := Zv bs
 refine WL.r 4 rfl <| WL.nil ?_
 as_aux_lemma =>
 refine WC.ifP rfl (fun cd1 => ?_) (fun cd1 => ?_)
 ·refine WC.skip <| WC.seq <| WC.block <| WC.seq <| WC.region <| WL.r 2 rfl ?_
  obtain ⟨x, hx⟩ : ∃ x, bs[k]? = some x := ⟨_, List.getElem?_eq_getElem (by omega)⟩; have hol2 := Zh out
  refine WL.ix rfl rfl (i := (k : Int)) (k) el_33 rfl rfl (by omega) (by omega) (Z.rdS 1 rfl (Zu hx)).1 ?_
  refine WL.run 1 [.bool x] rfl (by exact (Z.rdS 1 rfl (Zu hx)).2 0 _ rfl) ?_
  refine WL.nil <| WC.if_ rfl (fun cd2 => ?_) (fun cd2 => ?_)
  ·refine WC.region <| WL.r 3 rfl <| WL.nw 17 rfl (Zr (by omega)) ?_
   refine WL.lit rfl rfl (Zb [(k : Int) + 1]) el_56 Z (by exact ⟨rfl, rfl⟩) (Z9 _) rfl (Nat.le_of_ble_eq_true rfl) (fun b1 w Z => ?_)
   refine WL.app rfl rfl 1 (Zb (out ++ [(k : Int) + 1])) el_56 Z rfl (Z.srcO 0 rfl) (Yx _ _).symm (Rm.of (by first | omega | (simp <;> omega)) (by decide)) rfl rfl (fun a1 c1 w Z => ?_)
   replace Z := Z.n3 L (a0 := Zf 3 1 (Zb [(k : Int) + 1]) (some ⟨b1, 0, none⟩) (Zb [(k : Int) + 1]).length) (a1 := Zf 3 1 (Zb (out ++ [(k : Int) + 1])) a1 c1) rfl
   refine WL.r 1 rfl <| WL.nil <| WC.region <| WL.r 2 rfl <| WL.nw 10 rfl (Zr (by omega)) ?_
   refine WL.r 1 rfl <| WL.nil ?_
   exact ⟨_, by omega, k + 1, out ++ [(k : Int) + 1], a1, c1, rfl, (Z.sel 1 [] rfl), (by omega), (by rw [ho, J3 hx, if_pos cd2]), (by simp; omega), rfl⟩
  ·refine WC.skip <| WC.region <| WL.r 2 rfl <| WL.nw 10 rfl (Zr (by omega)) ?_
   refine WL.r 1 rfl <| WL.nil ?_
   exact ⟨_, by omega, k + 1, out, u, d, rfl, Z, (by omega), (by rw [ho, J3 hx, if_neg (by rw [cd2]; decide), List.append_nil]), (by omega), rfl⟩
 ·refine WC.exit <| WC.seq <| WC.region <| WL.r 2 rfl <| WL.nil <| WC.ret ?_
  refine ⟨[.slice u (Zb out).length d], rfl, ?_⟩
  have e1 := ho.trans (congrArg ZU (List.take_of_length_le (i := k) (l := bs) (by omega))); subst e1; exact ⟨_, _, rfl, Z⟩
theorem Zdk {g w : World} {L : List HP} (cap : Int) (P : List PR) (a : Option Addr) (c : Nat) (B : List Bool) (b : Option Addr) (d : Nat) (x y : Int) (hP : PRk P) (hl : P.length ≤ 1000) (Z : St g (Sh 56 1 (Zt P) a c :: Zn YO P :: L) w) :
  Sp Tryz.prog 150 [.agg #[.int .i64 cap, .slice a (Zt P).length c, .slice b (Zc B).length d], .int .i64 x, .int .i64 y] w (fun v w' => v = .int .i64 (Yy P x y) ∧ St g (Sh 56 1 (Zt P) a c :: Zn YO P :: L) w') := by
 refine Sp.enter Tryz.func150 rfl (by kernel_rfl) (by kernel_rfl) ?_
 have _ := hl
 have _ := hP
 refine WC.seq <| WC.region <| WL.box rfl rfl #[.int .i64 cap, .slice a (Zt P).length c, .slice b (Zc B).length d] Z rfl rfl (fun b1 w Z => ?_)
 refine WL.r 1 rfl <| WL.nil <| WC.seq <| WC.plan [([0, 1, 3, 4], some (2, [3, 4])), ([], some (5, [])), ([6, 7], none)] (by kernel_rfl) (by kernel_rfl) ?_
 refine WQ.ldF rfl rfl 0 Z rfl rfl Z4 <| WQ.r 1 rfl <| WQ.ldF rfl rfl 0 Z rfl rfl Z4 <| WQ.r 1 rfl <| WQ.nil ?_
 intro m1
 replace Z := Z.drewN m1; generalize hwm1 : World.drewN _ _ = w at *; clear hwm1
 refine WL.call rfl rfl (Qp (cap := cap) (B := B) (b := b) (d := d) (n := x) (hP := (by assumption)) (hl := (by omega)) (Z := (Z.sel 3 [1, 1, 0] rfl))) rfl ?_
 clear Z; rintro _ w ⟨a1, c1, rfl, Z⟩
 replace Z := Z.n4 L (a0 := Zf 4 1 (Zc (up P x)) a1 c1) (a3 := Ze b1 #[.int .i64 cap, .slice a (Zt P).length c, .slice b (Zc B).length d] 40) rfl
 refine WL.nil ?_
 refine ⟨by exact ⟨RQ.ldF rfl rfl 3 Z rfl rfl Z4 rfl rfl, RQ.pure rfl rfl rfl rfl⟩, ?_⟩
 refine WQ.nil ?_
 intro m2
 replace Z := Z.drewN m2; generalize hwm2 : World.drewN _ _ = w at *; clear hwm2
 refine WL.call rfl rfl (Qp (cap := cap) (B := B) (b := b) (d := d) (n := y) (hP := (by assumption)) (hl := (by omega)) (Z := (Z.sel 3 [1, 1, 0] rfl))) rfl ?_
 clear Z; rintro _ w ⟨a2, c2, rfl, Z⟩
 replace Z := Z.n5 L (a0 := Zf 4 1 (Zc (up P y)) a2 c2) rfl
 refine WL.nil ?_
 refine ⟨by exact trivial, ?_⟩
 refine WQ.r 2 rfl <| WQ.nil ?_
 intro m3
 replace Z := Z.drewN m3; generalize hwm3 : World.drewN _ _ = w at *; clear hwm3
 as_aux_lemma =>
 refine WC.seq <| WC.seq <| WC.region ?_
 have hu1 := J1 P x; have hu2 := J1 P y; have hb1 := Zv (up P x); have hb2 := Zv (up P y)
 refine WL.r 3 rfl <| WL.nw 18 rfl (Zr (by omega)) ?_
 refine WL.r 1 rfl <| WL.nil <| WC.block <| WC.loop [7, 8, 9] (fun kM vs w => ∃ (i : Int), vs = [.slice a1 (Zc (up P x)).length c1, .slice a2 (Zc (up P y)).length c2, .int .i64 i] ∧ St g (Zf 4 1 (Zc (up P y)) a2 c2 :: Sh 56 1 (Zt P) a c :: Zn YO P :: Zf 4 1 (Zc (up P x)) a1 c1 :: Ze b1 #[.int .i64 cap, .slice a (Zt P).length c, .slice b (Zc B).length d] 40 :: L) w ∧ (-1 ≤ i ∧ i < P.length) ∧ (∀ j : Nat, i < j → (up P x)[j]? = some true → (up P y)[j]? = some true → False) ∧ ((i + 1).toNat) = kM) ((((List.length (Zc (up P x)) : Int) - 1) + 1).toNat) ⟨((Zc (up P x)).length : Int) - 1, rfl, Z, (by omega), (fun j hj h1 _ => by have := (List.getElem?_eq_some_iff.1 h1).1; omega), rfl⟩ ?_
 clear Z; rintro _ _ w j ⟨i, rfl, Z, hi, hn, rfl⟩
 refine WC.seq <| WC.seq <| WC.region ?_
 have hu1 := J1 P x; have hu2 := J1 P y; have hb1 := Zv (up P x); have hb2 := Zv (up P y)
 refine WL.r 2 rfl <| WL.nil <| WC.ifP rfl (fun cd1 => ?_) (fun cd1 => ?_)
 ·refine WC.skip <| WC.seq <| WC.block <| WC.seq <| WC.region ?_
  obtain ⟨k, hk⟩ : ∃ k : Nat, i = (k : Int) := ⟨i.toNat, by omega⟩; obtain ⟨u, hu⟩ : ∃ u, (up P x)[k]? = some u := ⟨_, List.getElem?_eq_getElem (by omega)⟩; obtain ⟨v, hv⟩ : ∃ v, (up P y)[k]? = some v := ⟨_, List.getElem?_eq_getElem (by omega)⟩
  refine WL.r 2 rfl <| WL.ix rfl rfl (i := i) (k) el_33 rfl rfl (by omega) (by omega) (Z.rdO 3 rfl (Zu hu)).1 ?_
  refine WL.run 2 [.bool u] rfl (by exact (Z.rdO 3 rfl (Zu hu)).2 0 _ rfl) ?_
  by_cases cg1 : u = true
  ·refine WL.reb 27 (.bool true) (congrArg Value.bool cg1) <| WL.ung rfl rfl rfl <| WL.r 1 rfl <| WL.ung rfl rfl rfl <| WL.r 1 rfl <| WL.ung rfl rfl rfl <| WL.ix rfl rfl (i := i) (k) el_33 rfl rfl (by omega) (by omega) (Z.rdO 0 rfl (Zu hv)).1 ?_
   refine WL.ung rfl rfl rfl <| WL.run 2 [.bool v] rfl (by exact (Z.rdO 0 rfl (Zu hv)).2 0 _ rfl) ?_
   refine WL.nil ?_
   as_aux_lemma =>
   refine WC.if_ rfl (fun cd2 => ?_) (fun cd2 => ?_)
   ·refine WC.seq <| WC.region <| WL.r 2 rfl <| WL.nw 34 rfl (Zr (by omega)) ?_
    refine WL.r 1 rfl <| WL.nil <| WC.ret ?_
    refine ⟨[.int .i64 (i + 1)], rfl, ?_⟩
    replace Z := (Z.sel 5 [1, 1] rfl)
    exact ⟨congrArg (Value.int .i64) ((Zo0 (i := k) (by rw [hu, cg1]) (by rw [hv, cd2]) (fun j hj => hn j (by omega))).trans (by omega)).symm, Z⟩
   ·refine WC.skip <| WC.region <| WL.r 2 rfl <| WL.nw 22 rfl (Zr (by omega)) ?_
    refine WL.r 1 rfl <| WL.nil ?_
    exact ⟨_, by omega, i - 1, rfl, Z, (by omega), (fun j hj h1 h2 => by
     rcases Int.lt_or_le i j with h | h
     ·exact hn j h h1 h2
     ·have : j = k := by omega
      subst this
      rw [hu] at h1; rw [hv] at h2; cases h1; cases h2
      first | exact absurd cd2 (by decide) | exact cg1 rfl), rfl⟩
  ·refine WL.reb 27 (.bool false) (congrArg Value.bool (Bool.eq_false_iff.2 cg1)) <| WL.skp rfl rfl rfl rfl <| WL.skp rfl rfl rfl rfl <| WL.skp rfl rfl rfl rfl <| WL.skp rfl rfl rfl rfl <| WL.r 1 rfl <| WL.nil ?_
   as_aux_lemma =>
   refine WC.ifF rfl rfl <| WC.skip <| WC.region <| WL.r 2 rfl <| WL.nw 22 rfl (Zr (by omega)) ?_
   refine WL.r 1 rfl <| WL.nil ?_
   exact ⟨_, by omega, i - 1, rfl, Z, (by omega), (fun j hj h1 h2 => by
    rcases Int.lt_or_le i j with h | h
    ·exact hn j h h1 h2
    ·have : j = k := by omega
     subst this
     rw [hu] at h1; rw [hv] at h2; cases h1; cases h2
     first | exact absurd cd2 (by decide) | exact cg1 rfl), rfl⟩
 ·refine WC.exit <| WC.seq <| WC.region <| WL.r 1 rfl <| WL.nil <| WC.ret ?_
  refine ⟨[.int .i64 0], rfl, ?_⟩
  replace Z := (Z.sel 5 [1, 1] rfl)
  exact ⟨congrArg (Value.int .i64) (Zqe (fun j => hn j (by omega))).symm, Z⟩
theorem Za1 {g w : World} {L : List HP} (cap : Int) (P : List PR) (a : Option Addr) (c : Nat) (B : List Bool) (b : Option Addr) (d : Nat) (hP : PRk P) (hl : P.length ≤ 1000) (hB : B.length = P.length) (Z : St g (Sh 56 1 (Zt P) a c :: Zn YO P :: Sh 4 1 (Zc B) b d :: L) w) :
  Sp Tryz.prog 158 [.agg #[.int .i64 cap, .slice a (Zt P).length c, .slice b (Zc B).length d]] w (fun v w' => ∃ (a2 : Option Addr) (c2 : Nat), v = .slice a2 (Zc (Z1 P B)).length c2 ∧ St g (Zf 4 1 (Zc (Z1 P B)) a2 c2 :: Sh 56 1 (Zt P) a c :: Zn YO P :: Sh 4 1 (Zc B) b d :: L) w') := by
 refine Sp.enter Tryz.func158 rfl (by kernel_rfl) (by kernel_rfl) ?_
 have _ := hB
 have _ := hl
 refine WC.seq <| WC.region <| WL.box rfl rfl #[.int .i64 cap, .slice a (Zt P).length c, .slice b (Zc B).length d] Z rfl rfl (fun b1 w Z => ?_)
 refine WL.r 1 rfl <| WL.nil <| WC.seq <| WC.region ?_
 have hel := Zbl P; have hbB := Zv B
 refine WL.run 3 [.slice a (Zt P).length c] rfl (by exact Z.ld 0 rfl rfl) ?_
 refine WL.make rfl rfl (v := (List.length (Zt P) : Int)) (v' := (List.length (Zt P) : Int)) (P.length) (P.length) el_33 Z rfl (by omega) rfl (by omega) (by omega) (Rm.of (by omega) (by decide)) (fun b2 w Z => ?_)
 replace Z := Z.n5 L (a0 := Zf 4 1 (List.replicate (List.length P) [.bool false]) (some ⟨b2, 0, none⟩) (List.length P)) (a1 := Ze b1 #[.int .i64 cap, .slice a (Zt P).length c, .slice b (Zc B).length d] 40) rfl
 refine WL.r 1 rfl <| WL.nil <| WC.seq <| WC.seq <| WC.region <| WL.r 1 rfl <| WL.nil <| WC.block ?_
 rw [X_] at Z
 replace Z := Z.n5 L (a0 := Zf 4 1 (Zc (List.replicate (List.length P) false)) (some ⟨b2, 0, none⟩) (List.length P)) rfl
 refine WC.loop [1, 2, 3, 4] (fun kM vs w => ∃ (x : Int) (bs : List Bool), vs = [.pointer (some ⟨b1, 0, none⟩), .slice none 0 0, .slice (some ⟨b2, 0, none⟩) (List.length P) (List.length P), .int .i64 x] ∧ St g (Zf 4 1 (Zc bs) (some ⟨b2, 0, none⟩) (List.length P) :: Ze b1 #[.int .i64 cap, .slice a (Zt P).length c, .slice b (Zc B).length d] 40 :: Sh 56 1 (Zt P) a c :: Zn YO P :: Sh 4 1 (Zc B) b d :: L) w ∧ (1 ≤ x ∧ x ≤ P.length + 1) ∧ (Prs P B x x bs) ∧ (((P.length : Int) + 1 - x).toNat) = kM) (((List.length P : Int) + 1 - 1).toNat) ⟨1, List.replicate P.length false, rfl, Z, (by omega), (prs_0), rfl⟩ ?_
 clear Z; rintro _ _ w j ⟨x, bs, rfl, Z, hx, hA, rfl⟩
 refine WC.seq <| WC.seq <| WC.region <| WL.r 4 rfl <| WL.nil ?_
 as_aux_lemma =>
 refine WC.ifP rfl (fun cd1 => ?_) (fun cd1 => ?_)
 ·refine WC.skip <| WC.seq <| WC.cut [1, 2, 3, 4, 11, 12, 13, 14] (fun vs w => ∃ (bt : List Bool), vs = [.pointer (some ⟨b1, 0, none⟩), .slice none 0 0, .slice (some ⟨b2, 0, none⟩) (List.length P) (List.length P), .int .i64 x, .int .i64 x, .slice (some ⟨b2, 0, none⟩) (List.length P) (List.length P), .int .i64 (List.length P : Int), .bool (decide (x ≤ (List.length P : Int)))] ∧ St g (Zf 4 1 (Zc bt) (some ⟨b2, 0, none⟩) (List.length P) :: Ze b1 #[.int .i64 cap, .slice a (Zt P).length c, .slice b (Zc B).length d] 40 :: Sh 56 1 (Zt P) a c :: Zn YO P :: Sh 4 1 (Zc B) b d :: L) w ∧ (Prs P B (x + 1) (x + 1) bt)) ?_ ?_
  ·refine WC.block <| WC.seq <| WC.region <| WL.r 2 rfl <| WL.nil <| WC.block <| WC.loop [1, 2, 3, 4, 5, 11, 12, 13, 14, 17] (fun kM vs w => ∃ (y : Int) (bt : List Bool), vs = [.pointer (some ⟨b1, 0, none⟩), .slice none 0 0, .slice (some ⟨b2, 0, none⟩) (List.length P) (List.length P), .int .i64 x, .int .i64 y, .int .i64 x, .slice (some ⟨b2, 0, none⟩) (List.length P) (List.length P), .int .i64 (List.length P : Int), .bool (decide (x ≤ (List.length P : Int))), .int .i64 x] ∧ St g (Zf 4 1 (Zc bt) (some ⟨b2, 0, none⟩) (List.length P) :: Ze b1 #[.int .i64 cap, .slice a (Zt P).length c, .slice b (Zc B).length d] 40 :: Sh 56 1 (Zt P) a c :: Zn YO P :: Sh 4 1 (Zc B) b d :: L) w ∧ (x ≤ y ∧ y ≤ P.length + 1) ∧ (Prs P B x y bt) ∧ (((P.length : Int) + 1 - y).toNat) = kM) (((List.length P : Int) + 1 - x).toNat) ⟨x, bs, rfl, Z, (by omega), (hA), rfl⟩ ?_
   clear Z; rintro _ _ w j ⟨y, bt, rfl, Z, hy, hA, rfl⟩
   refine WC.seq <| WC.seq <| WC.region <| WL.r 5 rfl ?_
   by_cases cg1 : y ≤ (List.length P : Int)
   ·refine WL.reb 22 (.bool true) (congrArg Value.bool (decide_eq_true cg1)) <| WL.ung rfl rfl rfl <| WL.r 1 rfl <| WL.ung rfl rfl rfl <| WL.run 1 [.slice b (Zc B).length d] rfl (by exact Z.ld 1 rfl rfl) ?_
    refine WL.ung rfl rfl rfl <| WL.r 1 rfl <| WL.ung rfl rfl rfl <| WL.r 1 rfl <| WL.nw 26 rfl (Zr (by omega)) ?_
    refine WL.ung rfl rfl rfl ?_
    obtain ⟨u, hu⟩ : ∃ u, B[(x - 1).toNat]? = some u := ⟨_, List.getElem?_eq_getElem (by omega)⟩
    refine WL.ix rfl rfl (i := x - 1) ((x - 1).toNat) el_33 rfl rfl (by omega) (by omega) (Z.rdS 4 rfl (Zu hu)).1 ?_
    refine WL.ung rfl rfl rfl <| WL.run 2 [.bool u] rfl (by exact (Z.rdS 4 rfl (Zu hu)).2 0 _ rfl) ?_
    refine WL.nil ?_
    as_aux_lemma =>
    refine WC.if_ rfl (fun cd2 => ?_) (fun cd2 => ?_)
    ·refine WC.skip <| WC.seq <| WC.block <| WC.seq <| WC.region <| WL.run 4 [.slice b (Zc B).length d] rfl (by exact Z.ld 1 rfl rfl) ?_
     refine WL.nw 35 rfl (Zr (by omega)) ?_
     obtain ⟨v, hv⟩ : ∃ v, B[(y - 1).toNat]? = some v := ⟨_, List.getElem?_eq_getElem (by omega)⟩
     refine WL.ix rfl rfl (i := y - 1) ((y - 1).toNat) el_33 rfl rfl (by omega) (by omega) (Z.rdS 4 rfl (Zu hv)).1 ?_
     refine WL.run 1 [.bool v] rfl (by exact (Z.rdS 4 rfl (Zu hv)).2 0 _ rfl) ?_
     refine WL.nil <| WC.if_ rfl (fun cd3 => ?_) (fun cd3 => ?_)
     ·refine WC.seq <| WC.region ?_
      have hcr := Zcj hP x y; have hbl := hA.1; have hbl2 := Zv bt
      refine WL.ldF rfl rfl 1 Z rfl rfl Z4 <| WL.r 2 rfl <| WL.call rfl rfl (Zdk (cap := cap) (B := B) (b := b) (d := d) (x := x) (y := y) (hP := (by assumption)) (hl := (by omega)) (Z := (Z.sel 4 [2, 2, 0, 0] rfl))) rfl ?_
      clear Z; rintro _ w ⟨rfl, Z⟩
      replace Z := Z.n5 L rfl
      refine WL.r 1 rfl <| WL.nil <| WC.seq <| WC.region <| WL.r 2 rfl <| WL.nil ?_
      as_aux_lemma =>
      refine WC.ifP rfl (fun cd4 => ?_) (fun cd4 => ?_)
      ·refine WC.region <| WL.r 3 rfl <| WL.nw 46 rfl (Zr (by omega)) ?_
       obtain ⟨z, hw⟩ : ∃ z, bt[(Yy P x y - 1).toNat]? = some z := ⟨_, List.getElem?_eq_getElem (by omega)⟩
       refine WL.ix rfl rfl (i := (Yy P x y) - 1) ((Yy P x y - 1).toNat) el_33 rfl rfl (by omega) (by omega) (Z.rdO 2 rfl (Zu hw)).1 ?_
       refine WL.stE rfl rfl rfl 2 ((Yy P x y - 1).toNat) 0 [.bool z] (Zc (bt.set (Yy P x y - 1).toNat true)) Z rfl (Zu hw) rfl rfl rfl rfl rfl (YL _ _ _) (fun w Z => ?_)
       replace Z := Z.n5 L (a2 := Zf 4 1 (Zc (bt.set (Yy P x y - 1).toNat true)) (some ⟨b2, 0, none⟩) (List.length P)) rfl
       refine WL.nil <| WC.region <| WL.r 2 rfl <| WL.nw 31 rfl (Zr (by omega)) ?_
       refine WL.r 1 rfl <| WL.nil ?_
       exact ⟨_, by omega, y + 1, bt.set (Yy P x y - 1).toNat true, rfl, (Z.sel 4 [2, 2, 0, 0] rfl), (by omega), (Zmx hP hA (by rw [ZN (by omega) hu]; assumption) (by rw [ZN (by omega) hv]; assumption) hy.1 cd4), rfl⟩
      ·refine WC.skip <| WC.region <| WL.r 2 rfl <| WL.nw 31 rfl (Zr (by omega)) ?_
       refine WL.r 1 rfl <| WL.nil ?_
       exact ⟨_, by omega, y + 1, bt, rfl, (Z.sel 4 [2, 2, 0, 0] rfl), (by omega), (Zdt hA (.inr cd4)), rfl⟩
     ·refine WC.skip <| WC.region <| WL.r 2 rfl <| WL.nw 31 rfl (Zr (by omega)) ?_
      refine WL.r 1 rfl <| WL.nil ?_
      exact ⟨_, by omega, y + 1, bt, rfl, Z, (by omega), (Zdt hA (.inl (by rw [ZN (by omega) hv]; simpa using cd3))), rfl⟩
    ·refine WC.exit ?_
     exact ⟨bt, rfl, Z, (Zc3 hA (.inr (by rw [ZN (by omega) hu]; simpa using cd2)))⟩
   ·refine WL.reb 22 (.bool false) (congrArg Value.bool (decide_eq_false cg1)) <| WL.skp rfl rfl rfl rfl <| WL.skp rfl rfl rfl rfl <| WL.skp rfl rfl rfl rfl <| WL.skp rfl rfl rfl rfl <| WL.skp rfl rfl rfl rfl <| WL.skp rfl rfl rfl rfl <| WL.r 1 rfl <| WL.nil ?_
    as_aux_lemma =>
    refine WC.ifF rfl rfl <| WC.exit ?_
    exact ⟨bt, rfl, Z, (Zc3 hA (.inl (by omega)))⟩
  clear Z; rintro _ w j ⟨bt, rfl, Z, hC⟩
  refine WC.region <| WL.r 2 rfl <| WL.nw 16 rfl (Zr (by omega)) ?_
  refine WL.r 1 rfl <| WL.nil ?_
  exact ⟨_, by omega, x + 1, bt, rfl, Z, (by omega), (hC), rfl⟩
 ·refine WC.exit <| WC.seq <| WC.region ?_
  have e1 := Znw hA (by omega)
  refine WL.r 2 rfl <| WL.nil <| WC.ret ?_
  refine ⟨[.slice (some ⟨b2, 0, none⟩) (List.length P) (List.length P)], rfl, ?_⟩
  replace Z := (Z.sel 2 [0] rfl)
  subst e1; exact ⟨_, _, congrArg (fun m => Value.slice (some ⟨b2, 0, none⟩) m P.length) (by rw [Zv, Xl]), Z⟩
theorem Je {g w : World} {L : List HP} (cap : Int) (P : List PR) (a : Option Addr) (c : Nat) (B : List Bool) (b : Option Addr) (d : Nat) (hP : PRk P) (hl : P.length ≤ 1000) (hB : B.length = P.length) (Z : St g (Sh 56 1 (Zt P) a c :: Zn YO P :: Sh 4 1 (Zc B) b d :: L) w) :
  Sp Tryz.prog 89 [.agg #[.int .i64 cap, .slice a (Zt P).length c, .slice b (Zc B).length d]] w (fun v w' => ∃ (a2 : Option Addr) (c2 : Nat), v = .slice a2 (List.length (Zb (ZU (Z1 P B)))) c2 ∧ St g (Zf 3 1 (Zb (ZU (Z1 P B))) a2 c2 :: Sh 56 1 (Zt P) a c :: Zn YO P :: Sh 4 1 (Zc B) b d :: L) w') := by
 refine Sp.enter Tryz.func89 rfl (by kernel_rfl) (by kernel_rfl) ?_
 have _ := hB
 have _ := hl
 have _ := hP
 refine WC.seq <| WC.region ?_
 have hpl := Xl P B
 refine WL.box rfl rfl #[.int .i64 cap, .slice a (Zt P).length c, .slice b (Zc B).length d] Z rfl rfl (fun b1 w Z => ?_)
 refine WL.r 1 rfl <| WL.nil <| WC.seq <| WC.region <| WL.ldF rfl rfl 0 Z rfl rfl Z4 <| WL.call rfl rfl (Za1 (cap := cap) (hP := (by assumption)) (hl := (by omega)) (hB := (by assumption)) (Z := (Z.sel 4 [1, 1, 1, 0] rfl))) rfl ?_
 clear Z; rintro _ w ⟨a1, c1, rfl, Z⟩
 replace Z := Z.n5 L (a0 := Zf 4 1 (Zc (Z1 P B)) a1 c1) (a4 := Ze b1 #[.int .i64 cap, .slice a (Zt P).length c, .slice b (Zc B).length d] 40) rfl
 replace Z := (Z.at_ 0 rfl).share
 replace Z := Z.n5 L (a0 := Sh 4 1 (Zc (Z1 P B)) a1 c1) rfl
 refine WL.call rfl rfl (Zbh (bs := Z1 P B) (hl := (by omega)) (Z := Z)) rfl ?_
 clear Z; rintro _ w ⟨a2, c2, rfl, Z⟩
 replace Z := Z.n6 L (a0 := Zf 3 1 (Zb (ZU (Z1 P B))) a2 c2) rfl
 refine WL.r 1 rfl <| WL.nil <| WC.ret ?_
 refine ⟨[.slice a2 (List.length (Zb (ZU (Z1 P B)))) c2], rfl, ?_⟩
 replace Z := (Z.sel 6 [0, 1, 1, 1] rfl)
 exact ⟨_, _, rfl, Z⟩
end Go.Proofs.YtbeacjcmdijdmaaGreat
namespace Go.V
open Go Go.RowKit
noncomputable def Xv (P : List PR) (B : List Bool) (cap : Int) (ps : List Int) : Int :=
 if ¬ ZT ps then 1 else if ¬ (∀ z ∈ ps, ZB B z = true) then 4 else if cap ≤ (ZU (Z1 P B)).length then 2 else 0
noncomputable def Zgq (P : List PR) (B : List Bool) (x y : Int) : Int := if ZB B x = true ∧ ZB B y = true then Yy P x y else 0
structure RA (xs : List VN) (P : List PR) (B : List Bool) (la : Int) : Prop where
 pok : PRk P
 len : (P.length : Int) = la
 lenB : B.length = P.length
 live : ∀ z, Zj xs z = ZB B z
 ab : ∀ z, ZF xs z = true → ∀ u, u ∈ YQ xs z ↔ (ZF xs u = true ∧ Rch P z u)
 cov : ∀ x y, Zj xs x = true → Zj xs y = true → ∀ z, Rch P x z → Rch P y z → ∃ z', z ≤ z' ∧ ZF xs z' = true ∧ Rch P x z' ∧ Rch P y z'
theorem RA.nil : RA [] [] [] 0 := ⟨PRk.nil, rfl, rfl, fun z => by
 rw [Yv (by simp; omega)]; rfl, fun z h => (by cases h), fun x y h => (by cases h)⟩
theorem RA.base {xs : List VN} {P : List PR} {B : List Bool} {la : Int} {q : Nat} (h : RA xs P B la) (hG : GOk xs q) (x y : Int) : ZL xs x y = Zgq P B x y := by
 unfold ZL Zgq
 rw [← h.live x, ← h.live y]
 by_cases hl : Zj xs x = true ∧ Zj xs y = true
 ·rw [if_pos hl, if_pos hl]
  have hx := h.ab x (Ya hl.1)
  have hy := h.ab y (Ya hl.2)
  rcases JW h.pok x y with ⟨h1, h2⟩ | ⟨h1, h2, h3⟩
  ·rw [h1]
   exact JO fun z hz hz2 => h2 z ((hx z).1 hz).2 ((hy z).1 hz2).2
  ·obtain ⟨z', k1, k2, k3, k4⟩ := h.cov x y hl.1 hl.2 _ h1 h2
   have k5 := h3 z' k3 k4
   have k6 : z' = Yy P x y := by omega
   rw [k6] at k2
   exact Jg (hG.ascA x) ((hx _).2 ⟨k2, h1⟩) ((hy _).2 ⟨k2, h2⟩) fun z hz hz2 => h3 z ((hx z).1 hz).2 ((hy z).1 hz2).2
 ·rw [if_neg hl, if_neg hl]
theorem RA.pre {xs : List VN} {P : List PR} {B : List Bool} {la : Int} {q : Nat} (h : RA xs P B la) (hG : GOk xs q) (hK : KO xs) (z : Int) : ZF xs z = ZB (Z1 P B) z := by
 have hb : ∀ x y, Zj xs x = true → Zj xs y = true → Yy P x y = ZL xs x y := fun x y hx hy => by
  rw [h.base hG, Zgq, if_pos ⟨by rw [← h.live]; exact hx, by rw [← h.live]; exact hy⟩]
 rw [Bool.eq_iff_iff, Zjm h.pok]
 constructor
 ·intro hz
  have hz0 : 0 < z := by
   obtain ⟨x, hx, e⟩ := ZO.1 hz
   have := (hG.rng x hx).1; omega
  rcases hK z hz with hl | ⟨_, x, y, hx, hy, hxy, he⟩
  ·exact ⟨hz0, z, z, by rw [← h.live]; exact hl, by rw [← h.live]; exact hl, Int.le_refl _, by rw [hb z z hl hl, Zaw hG hl]⟩
  ·exact ⟨hz0, x, y, by rw [← h.live]; exact hx, by rw [← h.live]; exact hy, by omega, by rw [hb x y hx hy, he]⟩
 ·rintro ⟨h0, u, v, hu, hv, _, he⟩
  rw [← h.live] at hu hv
  rw [hb u v hu hv] at he
  subst he
  exact Zdu hG (by omega)
theorem RA.vers {xs : List VN} {P : List PR} {B : List Bool} {la : Int} {q : Nat} {ss : List Int} (h : RA xs P B la) (hG : GOk xs q) (hK : KO xs) (hs : Keys xs ss) : ss = ZU (Z1 P B) :=
 XV hs.asc (Z5 _).1 fun z => by rw [hs.mem, Zhr, h.pre hG hK]
theorem RA.num {xs : List VN} {P : List PR} {B : List Bool} {la : Int} {q : Nat} (h : RA xs P B la) (hG : GOk xs q) (hK : KO xs) : (ZU (Z1 P B)).length = xs.length := by
 obtain ⟨ss, hs⟩ := JF hG.uniq
 rw [← h.vers hG hK hs, Zk6 hs.perm]
theorem RA.anc {xs : List VN} {P : List PR} {B : List Bool} {la : Int} {q : Nat} {ls : List Int} (h : RA xs P B la) (hG : GOk xs q) (hK : KO xs) {z : Int} (ha : Asc ls) (hm : ∀ u, u ∈ ls ↔ (ZB (Z1 P B) z = true ∧ ZB (Z1 P B) u = true ∧ Rch P z u)) : ls = YQ xs z :=
 XV ha (hG.ascA z) fun u => by
  rw [hm, ← h.pre hG hK, ← h.pre hG hK]
  cases hz : ZF xs z with
  | true => rw [h.ab z hz]; simp
  | false =>
   have : YQ xs z = [] := by
    cases hf : ZS xs z with
    | none => exact (XI hf).2.2
    | some x => rw [(Qc hf).2.1] at hz; cases hz
   rw [this]; simp
theorem Zhf {B : List Bool} (z : Int) : ZB (B ++ [true]) z = (ZB B z || decide (z = (B.length : Int) + 1)) := by
 by_cases h : 1 ≤ z ∧ z ≤ B.length
 ·obtain ⟨x, hx⟩ : ∃ x, B[(z - 1).toNat]? = some x := ⟨_, List.getElem?_eq_getElem (by omega)⟩
  rw [ZN (by omega) hx, ZN (k := (z - 1).toNat) (by omega) (by rw [List.getElem?_append_left (by omega)]; exact hx), decide_eq_false (by omega), Bool.or_false]
 ·rw [Yv h, Bool.false_or]
  by_cases h2 : z = (B.length : Int) + 1
  ·rw [ZN (k := B.length) (x := true) h2 (by simp), decide_eq_true h2]
  ·rw [Yv (by simp; omega), decide_eq_false h2]
theorem Zg7 {B : List Bool} {n : Int} (hn : ZB B n = true) (z : Int) : ZB (B.set (n - 1).toNat false) z = (ZB B z && decide (z ≠ n)) := by
 have hr := Yi hn
 by_cases h : 1 ≤ z ∧ z ≤ B.length
 ·obtain ⟨x, hx⟩ : ∃ x, B[(z - 1).toNat]? = some x := ⟨_, List.getElem?_eq_getElem (by omega)⟩
  rw [ZN (by omega) hx]
  by_cases he : z = n
  ·subst he
   rw [ZN (k := (z - 1).toNat) (x := false) (by omega) (by rw [List.getElem?_set, if_pos rfl, if_pos (by omega)]), decide_eq_false (by simp), Bool.and_false]
  ·rw [ZN (k := (z - 1).toNat) (x := x) (by omega) (by rw [List.getElem?_set, if_neg (by omega)]; exact hx), decide_eq_true he, Bool.and_true]
 ·rw [Yv h, Yv (by rw [List.length_set]; exact h)]; rfl
theorem RA.add {xs xs2 : List VN} {P : List PR} {B : List Bool} {cap la la2 : Int} {q : Nat} {r : PR} (h : RA xs P B la) (hI : GI xs q cap la) (ha : AddP xs cap la r.ps xs2 la2) (h0 : YG xs cap r.ps = 0) : RA xs2 (P ++ [r]) (B ++ [true]) la2 := by
 obtain ⟨e1, _, ab, _, hab, hv⟩ := ha.vw hI.le h0
 obtain ⟨hok, hlv, _⟩ := Zct h0
 have hlen := h.len
 have hlb := h.lenB
 have hps : ∀ u ∈ r.ps, 1 ≤ u ∧ u ≤ (P.length : Int) := fun u hu => by
  have := hlv u hu
  rw [h.live] at this
  have := Yi this
  omega
 have hP2 : PRk (P ++ [r]) := h.pok.snoc hok.1 hps
 have hnew : ∀ u, Rch (P ++ [r]) (la + 1) u ↔ u = la + 1 ∨ ∃ p ∈ r.ps, Rch P p u := fun u => by rw [← hlen]; exact Zm4 hP2
 have hold : ∀ z u, z ≤ la → (Rch (P ++ [r]) z u ↔ Rch P z u) := fun z u hz => ⟨fun k => k.old hP2 (by omega), fun k => k.mono⟩
 have hle : ∀ z, ZF xs z = true → z ≤ la := fun z hz => by
  obtain ⟨x, hx, e⟩ := ZO.1 hz
  rw [← e]; exact hI.le x hx
 have hpre : ∀ z, ZF xs2 z = true ↔ ZF xs z = true ∨ z = la + 1 := fun z => by
  rw [ZX, ZX, hv]
  by_cases hz : z = la + 1
  ·rw [if_pos hz]; simp [hz]
  ·rw [if_neg hz]; simp [hz]
 have hlive : ∀ z, Zj xs2 z = (Zj xs z || decide (z = la + 1)) := fun z => by
  rw [ZH, ZH, hv]
  by_cases hz : z = la + 1
  ·rw [if_pos hz, decide_eq_true hz, Bool.or_true]; rfl
  ·rw [if_neg hz, decide_eq_false hz, Bool.or_false]
 have habn : YQ xs2 (la + 1) = ab := by rw [YF, hv, if_pos rfl]; rfl
 have habo : ∀ z, z ≠ la + 1 → YQ xs2 z = YQ xs z := fun z hz => by rw [YF, YF, hv, if_neg hz]
 refine ⟨hP2, by simp; omega, by simp; omega, fun z => ?_, fun z hz u => ?_, fun x y hx hy z hxz hyz => ?_⟩
 ·rw [hlive, h.live, Zhf]
  have : (z = la + 1) ↔ (z = (B.length : Int) + 1) := by omega
  simp [this]
 ·by_cases hzn : z = la + 1
  ·subst hzn
   rw [habn, hab, hnew, hpre]
   simp only [Y_, List.mem_append, List.mem_singleton, List.mem_flatMap]
   constructor
   ·rintro (rfl | ⟨p, hp, hu⟩)
    ·exact ⟨.inr rfl, .inl rfl⟩
    ·have h3 := (h.ab p (Ya (hlv p hp)) u).1 hu
     exact ⟨.inl h3.1, .inr ⟨p, hp, h3.2⟩⟩
   ·rintro ⟨h1, rfl | ⟨p, hp, hu⟩⟩
    ·exact .inl rfl
    ·refine .inr ⟨p, hp, (h.ab p (Ya (hlv p hp)) u).2 ⟨?_, hu⟩⟩
     rcases h1 with h1 | h1
     ·exact h1
     ·have := hu.rng h.pok
      have := hps p hp
      omega
  ·have hz1 : ZF xs z = true := ((hpre z).1 hz).resolve_right hzn
   have hzl := hle z hz1
   rw [habo z hzn, h.ab z hz1, hold z u hzl, hpre]
   constructor
   ·rintro ⟨h1, h2⟩; exact ⟨.inl h1, h2⟩
   ·rintro ⟨h1, h2⟩
    refine ⟨h1.resolve_right fun e => ?_, h2⟩
    have := h2.rng h.pok; omega
 ·-- what two versions have in common
  have key : ∀ x y, Zj xs x = true ∨ x = la + 1 → Zj xs y = true → ∀ z, Rch (P ++ [r]) x z → Rch (P ++ [r]) y z → ∃ z', z ≤ z' ∧ ZF xs2 z' = true ∧ Rch (P ++ [r]) x z' ∧ Rch (P ++ [r]) y z' := fun x y hx hy z hxz hyz => by
   have hyl := hle y (Ya hy)
   rw [hold y z hyl] at hyz
   rcases hx with hx | rfl
   ·rw [hold x z (hle x (Ya hx))] at hxz
    obtain ⟨z', k1, k2, k3, k4⟩ := h.cov x y hx hy z hxz hyz
    exact ⟨z', k1, (hpre z').2 (.inl k2), k3.mono, k4.mono⟩
   ·rcases (hnew z).1 hxz with rfl | ⟨p, hp, hk⟩
    ·have := hyz.rng h.pok; omega
    ·obtain ⟨z', k1, k2, k3, k4⟩ := h.cov p y (hlv p hp) hy z hk hyz
     exact ⟨z', k1, (hpre z').2 (.inl k2), (hnew z').2 (.inr ⟨p, hp, k3⟩), k4.mono⟩
  have hx2 : Zj xs x = true ∨ x = la + 1 := by rw [hlive] at hx; simpa using hx
  have hy2 : Zj xs y = true ∨ y = la + 1 := by rw [hlive] at hy; simpa using hy
  rcases hy2 with hy2 | rfl
  ·exact key x y hx2 hy2 z hxz hyz
  ·rcases hx2 with hx2 | rfl
   ·obtain ⟨z', k1, k2, k3, k4⟩ := key (la + 1) x (.inr rfl) hx2 z hyz hxz
    exact ⟨z', k1, k2, k4, k3⟩
   ·have := hxz.rng hP2
    exact ⟨la + 1, by omega, (hpre _).2 (.inr rfl), (hnew _).2 (.inl rfl), (hnew _).2 (.inl rfl)⟩
theorem RA.rel {xs xs2 : List VN} {P : List PR} {B : List Bool} {la n : Int} {q : Nat} (h : RA xs P B la) (hG : GOk xs q) (hR : RelQ xs n xs2) (hl : Zj xs n = true) : RA xs2 P (B.set (n - 1).toNat false) la := by
 replace hR : RelP xs n xs2 := by
  rcases hR with ⟨_, hR⟩ | ⟨h9, _⟩
  ·exact hR
  ·rw [hl] at h9; cases h9
 have hlive := (hR.facts hG).1
 obtain ⟨xs1, N, h1, h2, h3⟩ := hR
 have hG1 : GF (vw xs1) := by rw [show vw xs1 = dead (vw xs) n from funext h1]; exact hG.gf.dead n
 have hpos : ∀ z, (vw xs1 z).isSome = true → 1 ≤ z := fun z hz => by rw [h1, Xm] at hz; exact hG.pos z hz
 obtain ⟨k1, k2, k3⟩ := Zaj hG1 hpos h2 h3
 have hab1 : ∀ z, YQ xs1 z = YQ xs z := fun z => by
  rw [YF, YF, h1, dead]
  by_cases hz : z = n
  ·rw [if_pos hz]; cases vw xs z <;> rfl
  ·rw [if_neg hz]
 have hpre1 : ∀ z, ZF xs1 z = ZF xs z := fun z => by rw [ZX, ZX, h1, Xm]
 have hpre : ∀ z, ZF xs2 z = true ↔ N z = true ∧ ZF xs z = true := fun z => by
  rw [ZX, h3, ← hpre1, ZX]
  unfold keep
  cases hN : N z with
  | true => rw [if_pos rfl]; cases vw xs1 z <;> simp
  | false => rw [if_neg (by decide)]; simp
 have hlive1 : ∀ z, Zj xs1 z = (Zj xs z && decide (z ≠ n)) := fun z => by rw [← k1, hlive]
 refine ⟨h.pok, h.len, by rw [List.length_set]; exact h.lenB, fun z => ?_, fun z hz u => ?_, fun x y hx hy z hxz hyz => ?_⟩
 ·rw [hlive, h.live, Zg7 (by rw [← h.live]; exact hl)]
 ·have hz1 := (hpre z).1 hz
  rw [k2 z hz1.1, hab1, List.mem_filter, h.ab z hz1.2, hpre]
  constructor
  ·rintro ⟨⟨a1, a2⟩, a3⟩; exact ⟨⟨a3, a1⟩, a2⟩
  ·rintro ⟨⟨a3, a1⟩, a2⟩; exact ⟨⟨a1, a2⟩, a3⟩
 ·have hx1 : Zj xs1 x = true := by rw [← k1]; exact hx
  have hy1 : Zj xs1 y = true := by rw [← k1]; exact hy
  have hx0 : Zj xs x = true := by rw [hlive1] at hx1; simp at hx1; exact hx1.1
  have hy0 : Zj xs y = true := by rw [hlive1] at hy1; simp at hy1; exact hy1.1
  rcases JW h.pok x y with ⟨_, e2⟩ | ⟨e1, e2, e3⟩
  ·exact absurd hyz (e2 z hxz)
  ·refine ⟨Yy P x y, e3 z hxz hyz, ?_, e1, e2⟩
   have hcp := (e1.rng h.pok).1
   have hb : ZL xs x y = Yy P x y := by rw [h.base hG, Zgq, if_pos ⟨by rw [← h.live]; exact hx0, by rw [← h.live]; exact hy0⟩]
   have hb1 : ZL xs1 x y = Yy P x y := by rw [← hb, Yc hx1 hy1, Yc hx0 hy0, hab1, hab1]
   refine (hpre _).2 ⟨(h2 _).2 ?_, ?_⟩
   ·rcases Int.lt_trichotomy x y with hxy | hxy | hxy
    ·exact .inr ⟨by omega, x, y, hx1, hy1, hxy, hb1⟩
    ·subst hxy
     rw [Zaw hG hx0] at hb
     rw [← hb]; exact .inl hx1
    ·refine .inr ⟨by omega, y, x, hy1, hx1, hxy, ?_⟩
     rw [Yc hy1 hx1, hab1, hab1, ← Yc hy0 hx0, Zg4 hG]; exact hb
   ·rw [← hb]; exact Zdu hG (by rw [hb]; omega)
end Go.V
namespace Go.Proofs.YtbeacjcmdijdmaaGreat
open Go Go.V
theorem Zj9 {ps : List Int} {x y : Int} (h0 : ps[0]? = some x) (h1 : ps[1]? = some y) (hl : ps.length = 2) : ¬ ZT ps ↔ x = y := by
 match ps, hl, h0, h1 with
 | [u, v], _, h0, h1 =>
  simp at h0 h1; subst h0; subst h1
  constructor
  ·intro h
   exact Decidable.by_contra fun hne => h ⟨by simp, fun a b e => by cases e; exact hne⟩
  ·rintro rfl h; exact h.2 _ _ rfl rfl
theorem Zg5 {ps : List Int} (h : 2 < ps.length) : ¬ ZT ps := fun k => by have := k.1; omega
theorem Zfj {ps : List Int} (h : ¬ 2 < ps.length) (h2 : ¬ ps.length = 2) : ZT ps := ⟨by omega, fun x y e => by subst e; simp at h2⟩
theorem Znz {P : List PR} {B : List Bool} {cap : Int} {ps : List Int} (h : ¬ ZT ps) : Xv P B cap ps = 1 := if_pos h
theorem Zng {P : List PR} {B : List Bool} {cap : Int} {ps : List Int} {z : Int} (h : ZT ps) (hz : z ∈ ps) (hl : ZB B z = false) : Xv P B cap ps = 4 := by
 unfold Xv
 rw [if_neg (fun k => k h), if_pos (fun k => by rw [k z hz] at hl; cases hl)]
theorem Zl1 {P : List PR} {B : List Bool} {cap : Int} {ps : List Int} (h : ZT ps) (hl : ∀ z ∈ ps, ZB B z = true) (hc : cap ≤ (ZU (Z1 P B)).length) : Xv P B cap ps = 2 := by
 unfold Xv
 rw [if_neg (fun k => k h), if_neg (fun k => k hl), if_pos hc]
theorem Zfz {P : List PR} {B : List Bool} {cap : Int} {ps : List Int} (h : ZT ps) (hl : ∀ z ∈ ps, ZB B z = true) (hc : ¬ cap ≤ (ZU (Z1 P B)).length) : Xv P B cap ps = 0 := by
 unfold Xv
 rw [if_neg (fun k => k h), if_neg (fun k => k hl), if_neg hc]
theorem Ze0 {g w : World} {L : List HP} (cap : Int) (P : List PR) (a : Option Addr) (c : Nat) (B : List Bool) (b : Option Addr) (d : Nat) (ps : List Int) (e : Option Addr) (f : Nat) (hP : PRk P) (hl : P.length ≤ 1000) (hB : B.length = P.length) (hpl : ps.length ≤ 1000) (Z : St g (Sh 56 1 (Zt P) a c :: Zn YO P :: Sh 4 1 (Zc B) b d :: Sh 3 1 (Zb ps) e f :: L) w) :
  Sp Tryz.prog 189 [.agg #[.int .i64 cap, .slice a (Zt P).length c, .slice b (Zc B).length d], .slice e (Zb ps).length f] w (fun v w' => v = .int .i64 (Xv P B cap ps) ∧ St g (Sh 56 1 (Zt P) a c :: Zn YO P :: Sh 4 1 (Zc B) b d :: Sh 3 1 (Zb ps) e f :: L) w') := by
 refine Sp.enter Tryz.func189 rfl (by kernel_rfl) (by kernel_rfl) ?_
 have _ := hpl
 have _ := hB
 have _ := hl
 have _ := hP
 refine WC.seq <| WC.region ?_
 have hpi := Zh ps; have hnl := (Z5 (Z1 P B)).2.1; have hpr := Xl P B; have hil := Zh (ZU (Z1 P B))
 refine WL.box rfl rfl #[.int .i64 cap, .slice a (Zt P).length c, .slice b (Zc B).length d] Z rfl rfl (fun b1 w Z => ?_)
 refine WL.r 1 rfl <| WL.nil <| WC.seq <| WC.seq <| WC.cut [1, 2, 4, 22] (fun vs w => ∃ (t22 : Bool), vs = [.slice e (Zb ps).length f, .pointer (some ⟨b1, 0, none⟩), .int .i64 0, .bool t22] ∧ St g (Ze b1 #[.int .i64 cap, .slice a (Zt P).length c, .slice b (Zc B).length d] 40 :: Sh 56 1 (Zt P) a c :: Zn YO P :: Sh 4 1 (Zc B) b d :: Sh 3 1 (Zb ps) e f :: L) w ∧ (t22 = true ↔ ¬ ZT ps)) ?_ ?_
 ·refine WC.plan [([0, 1, 2, 3, 4, 5, 6, 7, 8, 11, 9, 12, 10, 13, 14, 15, 16], none)] (by kernel_rfl) (by kernel_rfl) ?_
  refine WQ.r 4 rfl ?_
  by_cases cg1 : 2 < (List.length (Zb ps) : Int)
  ·refine WQ.reb 9 (.bool true) (congrArg Value.bool (decide_eq_true cg1)) <| WQ.skp rfl rfl rfl rfl <| WQ.skp rfl rfl rfl rfl <| WQ.skp rfl rfl rfl rfl <| WQ.skp rfl rfl rfl rfl <| WQ.skU rfl rfl rfl <| WQ.skU rfl rfl rfl <| WQ.skU rfl rfl rfl <| WQ.skU rfl rfl rfl <| WQ.skU rfl rfl rfl <| WQ.skU rfl rfl rfl <| WQ.skU rfl rfl rfl ?_
   refine WQ.skp rfl rfl rfl rfl <| WQ.r 1 rfl <| WQ.nil ?_
   intro m1
   replace Z := Z.drewN m1; generalize hwm1 : World.drewN _ _ = w at *; clear hwm1
   exact ⟨true, rfl, Z, (⟨fun _ => Zg5 (by omega), fun _ => rfl⟩)⟩
  ·refine WQ.reb 9 (.bool false) (congrArg Value.bool (decide_eq_false cg1)) <| WQ.ung rfl rfl rfl <| WQ.r 1 rfl <| WQ.ung rfl rfl rfl <| WQ.r 1 rfl <| WQ.ung rfl rfl rfl <| WQ.r 1 rfl <| WQ.ung rfl rfl rfl <| WQ.r 1 rfl ?_
   by_cases cg2 : (List.length (Zb ps) : Int) = 2
   ·refine WQ.reb 13 (.bool true) (congrArg Value.bool (decide_eq_true cg2)) <| WQ.ung rfl rfl rfl <| WQ.r 1 rfl <| WQ.ung rfl rfl rfl <| WQ.r 1 rfl <| WQ.ung rfl rfl rfl ?_
    obtain ⟨p0, h0⟩ : ∃ u, ps[0]? = some u := ⟨_, List.getElem?_eq_getElem (by omega)⟩; obtain ⟨p1, h1⟩ : ∃ u, ps[1]? = some u := ⟨_, List.getElem?_eq_getElem (by omega)⟩
    refine WQ.ix rfl rfl (i := 0) (0) el_56 rfl rfl (by omega) (by omega) (Z.rdS 4 rfl (Zd h0)).1 ?_
    refine WQ.ung rfl rfl rfl <| WQ.ix rfl rfl (i := 1) (1) el_56 rfl rfl (by omega) (by omega) (Z.rdS 4 rfl (Zd h1)).1 ?_
    refine WQ.ung rfl rfl rfl <| WQ.run 1 [.int .i64 p0] rfl (by exact (Z.rdS 4 rfl (Zd h0)).2 0 _ rfl) ?_
    refine WQ.ung rfl rfl rfl <| WQ.run 1 [.int .i64 p1] rfl (by exact (Z.rdS 4 rfl (Zd h1)).2 0 _ rfl) ?_
    refine WQ.ung rfl rfl rfl <| WQ.r 1 rfl <| WQ.ung rfl rfl rfl <| WQ.r 2 rfl <| WQ.nil ?_
    intro m1
    replace Z := Z.drewN m1; generalize hwm1 : World.drewN _ _ = w at *; clear hwm1
    exact ⟨decide (p0 = p1), rfl, Z, (by rw [Zj9 h0 h1 (by omega), decide_eq_true_eq])⟩
   ·refine WQ.reb 13 (.bool false) (congrArg Value.bool (decide_eq_false cg2)) <| WQ.skp rfl rfl rfl rfl <| WQ.skp rfl rfl rfl rfl <| WQ.skp rfl rfl rfl rfl <| WQ.skp rfl rfl rfl rfl <| WQ.skp rfl rfl rfl rfl <| WQ.skp rfl rfl rfl rfl <| WQ.skp rfl rfl rfl rfl <| WQ.ung rfl rfl rfl <| WQ.r 2 rfl <| WQ.nil ?_
    intro m1
    replace Z := Z.drewN m1; generalize hwm1 : World.drewN _ _ = w at *; clear hwm1
    exact ⟨false, rfl, Z, (⟨fun h => (by cases h), fun h => absurd (Zfj (by omega) (by omega)) h⟩)⟩
 clear Z; rintro _ w j ⟨t22, rfl, Z, h22⟩
 refine WC.if_ rfl (fun cd1 => ?_) (fun cd1 => ?_)
 ·refine WC.seq <| WC.region <| WL.r 1 rfl <| WL.nil <| WC.ret ?_
  refine ⟨[.int .i64 1], rfl, ?_⟩
  replace Z := (Z.sel 1 [] rfl)
  exact ⟨congrArg (Value.int .i64) (Znz (h22.1 cd1)).symm, Z⟩
 ·refine WC.skip <| WC.seq <| WC.seq <| WC.region ?_
  have hok : ZT ps := Classical.not_not.1 (fun h => by rw [h22.2 h] at cd1; cases cd1)
  refine WL.r 1 rfl <| WL.nil <| WC.block <| WC.loop [1, 2, 5] (fun kM vs w => ∃ (k : Nat), vs = [.slice e (Zb ps).length f, .pointer (some ⟨b1, 0, none⟩), .int .i64 (k : Int)] ∧ St g (Ze b1 #[.int .i64 cap, .slice a (Zt P).length c, .slice b (Zc B).length d] 40 :: Sh 56 1 (Zt P) a c :: Zn YO P :: Sh 4 1 (Zc B) b d :: Sh 3 1 (Zb ps) e f :: L) w ∧ (k ≤ ps.length) ∧ (∀ z ∈ ps.take k, ZB B z = true) ∧ (ps.length - k) = kM) ((List.length ps) - 0) ⟨0, rfl, Z, (Nat.zero_le _), (by simp), rfl⟩ ?_
  clear Z; rintro _ _ w j ⟨k, rfl, Z, hk, hlv, rfl⟩
  refine WC.seq <| WC.seq <| WC.region ?_
  have hok : ZT ps := Classical.not_not.1 (fun h => by rw [h22.2 h] at cd1; cases cd1)
  refine WL.r 4 rfl <| WL.nil ?_
  as_aux_lemma =>
  refine WC.ifP rfl (fun cd2 => ?_) (fun cd2 => ?_)
  ·refine WC.skip <| WC.seq <| WC.block <| WC.seq <| WC.plan [([0, 1, 2, 3, 4], some (5, [])), ([6], none)] (by kernel_rfl) (by kernel_rfl) ?_
   refine WQ.ldF rfl rfl 0 Z rfl rfl Z4 <| WQ.r 2 rfl ?_
   obtain ⟨z, hz⟩ : ∃ u, ps[k]? = some u := ⟨_, List.getElem?_eq_getElem (by omega)⟩
   refine WQ.ix rfl rfl (i := (k : Int)) (k) el_56 rfl rfl (by omega) (by omega) (Z.rdS 4 rfl (Zd hz)).1 ?_
   refine WQ.run 1 [.int .i64 z] rfl (by exact (Z.rdS 4 rfl (Zd hz)).2 0 _ rfl) ?_
   refine WQ.nil ?_
   intro m1
   replace Z := Z.drewN m1; generalize hwm1 : World.drewN _ _ = w at *; clear hwm1
   refine WL.call rfl rfl (Qm (cap := cap) (P := P) (a := a) (c := c) (n := z) (hB := (by omega)) (Z := (Z.sel 4 [3, 0, 0, 0] rfl))) rfl ?_
   clear Z; rintro _ w ⟨rfl, Z⟩
   replace Z := Z.n5 L rfl
   refine WL.nil ?_
   refine ⟨by exact trivial, ?_⟩
   refine WQ.r 1 rfl <| WQ.nil ?_
   intro m2
   replace Z := Z.drewN m2; generalize hwm2 : World.drewN _ _ = w at *; clear hwm2
   refine WC.if_ rfl (fun cd3 => ?_) (fun cd3 => ?_)
   ·refine WC.seq <| WC.region <| WL.r 1 rfl <| WL.nil ?_
    as_aux_lemma =>
    refine WC.ret ?_
    refine ⟨[.int .i64 4], rfl, ?_⟩
    replace Z := (Z.sel 4 [2, 2, 0] rfl)
    exact ⟨congrArg (Value.int .i64) (Zng hok (List.mem_of_getElem? hz) (by simpa using cd3)).symm, Z⟩
   ·refine WC.skip ?_
    as_aux_lemma =>
    refine WC.region <| WL.r 2 rfl <| WL.nw 28 rfl (Zr (by omega)) ?_
    refine WL.r 1 rfl <| WL.nil ?_
    exact ⟨_, by omega, k + 1, rfl, (Z.sel 4 [1, 1, 1, 0] rfl), (by omega), (fun x hx => by
     rw [List.take_add_one, hz] at hx
     rcases List.mem_append.1 hx with hx | hx
     ·exact hlv x hx
     ·simp at hx; subst hx; simpa using cd3), rfl⟩
  ·refine WC.exit <| WC.seq <| WC.seq <| WC.plan [([3, 4], some (0, [3, 4])), ([], some (1, [3, 4])), ([2, 5], none)] (by kernel_rfl) (by kernel_rfl) ?_
   refine WQ.run 2 [.int .i64 cap] rfl (by exact Z.ld 0 rfl rfl) ?_
   refine WQ.nil ?_
   intro m1
   replace Z := Z.drewN m1; generalize hwm1 : World.drewN _ _ = w at *; clear hwm1
   refine WL.ldF rfl rfl 0 Z rfl rfl Z4 <| WL.nil ?_
   refine ⟨by exact ⟨RQ.pure rfl rfl rfl rfl, RQ.load rfl rfl rfl rfl (Z.ld 0 rfl rfl)⟩, ?_⟩
   refine WQ.nil ?_
   intro m2
   replace Z := Z.drewN m2; generalize hwm2 : World.drewN _ _ = w at *; clear hwm2
   refine WL.call rfl rfl (Je (cap := cap) (hP := (by assumption)) (hl := (by omega)) (hB := (by assumption)) (Z := (Z.sel 4 [1, 1, 1, 0] rfl))) rfl ?_
   clear Z; rintro _ w ⟨a1, c1, rfl, Z⟩
   replace Z := Z.n6 L (a0 := Zf 3 1 (Zb (ZU (Z1 P B))) a1 c1) rfl
   refine WL.nil ?_
   refine ⟨by exact ⟨RQ.pure rfl rfl rfl rfl, RQ.load rfl rfl rfl rfl (Z.ld 4 rfl rfl)⟩, ?_⟩
   refine WQ.r 2 rfl <| WQ.nil ?_
   intro m3
   replace Z := Z.drewN m3; generalize hwm3 : World.drewN _ _ = w at *; clear hwm3
   refine WC.ifP rfl (fun cd3 => ?_) (fun cd3 => ?_)
   ·refine WC.seq <| WC.region <| WL.r 1 rfl <| WL.nil ?_
    as_aux_lemma =>
    refine WC.ret ?_
    refine ⟨[.int .i64 2], rfl, ?_⟩
    replace Z := (Z.sel 5 [1, 1, 1] rfl)
    exact ⟨congrArg (Value.int .i64) (Zl1 hok (by rw [List.take_of_length_le (by omega)] at hlv; exact hlv) (by omega)).symm, Z⟩
   ·refine WC.skip ?_
    as_aux_lemma =>
    refine WC.seq <| WC.region <| WL.r 1 rfl <| WL.nil <| WC.ret ?_
    refine ⟨[.int .i64 0], rfl, ?_⟩
    replace Z := (Z.sel 5 [1, 1, 1] rfl)
    exact ⟨congrArg (Value.int .i64) (Zfz hok (by rw [List.take_of_length_le (by omega)] at hlv; exact hlv) (by omega)).symm, Z⟩
theorem Znt {g w : World} {L : List HP} (cap : Int) (P : List PR) (a : Option Addr) (c : Nat) (B : List Bool) (b : Option Addr) (d : Nat) (ps : List Int) (e : Option Addr) (f : Nat) (hP : PRk P) (hl : P.length ≤ 1000) (hB : B.length = P.length) (hpl : ps.length ≤ 1000) (h0 : Xv P B cap ps = 0) (Z : St g (Sh 56 1 (Zt P) a c :: Zn YO P :: Sh 4 1 (Zc B) b d :: Sh 3 1 (Zb ps) e f :: L) w) :
  Sp Tryz.prog 133 [.agg #[.int .i64 cap, .slice a (Zt P).length c, .slice b (Zc B).length d], .slice e (Zb ps).length f] w (fun v w' => ∃ (e2 : Option Addr) (f2 : Nat) (a2 : Option Addr) (c2 : Nat) (b2 : Option Addr) (d2 : Nat), v = .tuple #[.agg #[.int .i64 cap, .slice a2 (Zt (P ++ [PR.mk ps e2 f2])).length c2, .slice b2 (Zc (B ++ [true])).length d2], .int .i64 ((List.length P) + 1), .int .i64 0] ∧ St g (Sh 56 1 (Zt (P ++ [PR.mk ps e2 f2])) a2 c2 :: Zn YO (P ++ [PR.mk ps e2 f2]) :: Sh 4 1 (Zc (B ++ [true])) b2 d2 :: Sh 3 1 (Zb ps) e f :: L) w') := by
 refine Sp.enter Tryz.func133 rfl (by kernel_rfl) (by kernel_rfl) ?_
 have _ := hpl
 have _ := hB
 have _ := hl
 have _ := hP
 refine WC.seq <| WC.region <| WL.box rfl rfl #[.int .i64 cap, .slice a (Zt P).length c, .slice b (Zc B).length d] Z rfl rfl (fun b1 w Z => ?_)
 refine WL.new rfl rfl Zae Z (fun b2 w Z => ?_)
 refine WL.r 2 rfl <| WL.nil <| WC.seq <| WC.seq <| WC.region <| WL.ldF rfl rfl 1 Z rfl rfl Z4 <| WL.r 1 rfl <| WL.call rfl rfl (Ze0 (cap := cap) (hP := (by assumption)) (hl := (by omega)) (hB := (by assumption)) (hpl := (by omega)) (Z := (Z.sel 6 [2, 2, 2, 2, 0, 0] rfl))) rfl ?_
 clear Z; rintro _ w ⟨rfl, Z⟩
 replace Z := Z.n6 L (a4 := Ze b2 #[.int .i64 0, .slice none 0 0, .slice none 0 0] 40) (a5 := Ze b1 #[.int .i64 cap, .slice a (Zt P).length c, .slice b (Zc B).length d] 40) rfl
 refine WL.r 1 rfl <| WL.nil <| WC.seq <| WC.region <| WL.r 2 rfl <| WL.nil <| WC.ifF rfl (decide_eq_false ((fun h => h h0))) <| WC.skip <| WC.seq <| WC.region ?_
 have hel := Zbl P; have hpi := Zh ps; have hbl := Zv B
 refine WL.run 2 [.slice a (Zt P).length c] rfl (by exact Z.ld 5 rfl rfl) ?_
 replace Z := Z.nil_ 56 1
 refine WL.app rfl rfl 0 (Zt P) el_38 Z rfl (Z.srcS 1 rfl) (List.nil_append _) (Rm.of (by first | omega | (simp <;> omega)) (by decide)) rfl rfl (fun a1 c1 w Z => ?_)
 replace Z := Z.n7 L (a0 := Zf 56 1 (Zt P) a1 c1) rfl
 refine WL.r 1 rfl ?_
 replace Z := Z.nil_ 3 1
 refine WL.app rfl rfl 0 (Zb ps) el_56 Z rfl (Z.srcS 5 rfl) (List.nil_append _) (Rm.of (by first | omega | (simp <;> omega)) (by decide)) rfl rfl (fun a2 c2 w Z => ?_)
 replace Z := Z.n8 L (a0 := Zf 3 1 (Zb ps) a2 c2) rfl
 refine WL.lit rfl rfl (Zt [PR.mk ps a2 c2]) el_38 Z (by exact ⟨rfl, rfl⟩) (Zqi _) rfl (Nat.le_of_ble_eq_true rfl) (fun b3 w Z => ?_)
 refine WL.app rfl rfl 2 (Zt (P ++ [PR.mk ps a2 c2])) el_38 Z rfl (Z.srcO 0 rfl) (Znq _ _).symm (Rm.of (by first | omega | (simp <;> omega)) (by decide)) rfl rfl (fun a3 c3 w Z => ?_)
 replace Z := Z.n9 L (a0 := Zf 56 1 (Zt [PR.mk ps a2 c2]) (some ⟨b3, 0, none⟩) (Zt [PR.mk ps a2 c2]).length) (a2 := Zf 56 1 (Zt (P ++ [PR.mk ps a2 c2])) a3 c3) rfl
 refine WL.r 1 rfl <| WL.st rfl rfl rfl 8 Z rfl rfl rfl rfl rfl rfl (fun w Z => ?_)
 replace Z := Z.n9 L (a8 := Ze b1 #[.int .i64 cap, .slice a3 (Zt (P ++ [PR.mk ps a2 c2])).length c3, .slice b (Zc B).length d] 40) rfl
 refine WL.nil ?_
 as_aux_lemma =>
 refine WC.seq <| WC.region <| WL.run 2 [.slice b (Zc B).length d] rfl (by exact Z.ld 8 rfl rfl) ?_
 replace Z := Z.nil_ 4 1
 refine WL.app rfl rfl 0 (Zc B) el_33 Z rfl (Z.srcS 6 rfl) (List.nil_append _) (Rm.of (by first | omega | (simp <;> omega)) (by decide)) rfl rfl (fun a4 c4 w Z => ?_)
 replace Z := Z.n10 L (a0 := Zf 4 1 (Zc B) a4 c4) rfl
 refine WL.lit rfl rfl (Zc [true]) el_33 Z (by exact ⟨rfl, rfl⟩) (Zp6 _) rfl (Nat.le_of_ble_eq_true rfl) (fun b4 w Z => ?_)
 refine WL.app rfl rfl 1 (Zc (B ++ [true])) el_33 Z rfl (Z.srcO 0 rfl) (Zm9 _ _).symm (Rm.of (by first | omega | (simp <;> omega)) (by decide)) rfl rfl (fun a5 c5 w Z => ?_)
 replace Z := Z.n11 L (a0 := Zf 4 1 (Zc [true]) (some ⟨b4, 0, none⟩) (Zc [true]).length) (a1 := Zf 4 1 (Zc (B ++ [true])) a5 c5) rfl
 refine WL.r 1 rfl <| WL.st rfl rfl rfl 10 Z rfl rfl rfl rfl rfl rfl (fun w Z => ?_)
 replace Z := Z.n11 L (a10 := Ze b1 #[.int .i64 cap, .slice a3 (Zt (P ++ [PR.mk ps a2 c2])).length c3, .slice a5 (Zc (B ++ [true])).length c5] 40) rfl
 refine WL.nil <| WC.seq <| WC.plan [([1, 2, 3], some (0, [1, 2, 3])), ([], some (4, [1, 2, 3])), ([5, 6], none)] (by kernel_rfl) (by kernel_rfl) ?_
 replace Z := (St.shsSub (zs' := P ++ [PR.mk ps a2 c2]) (St.shsCons ((Z.sel 11 [3, 5, 3, 1, 4, 4, 4] rfl).share.sel 7 [1, 0, 0, 0, 0, 0, 0] rfl) (z := PR.mk ps a2 c2) (Zpu _) [0] rfl) (fun z hz => Zd5 hz)).sel 7 [2, 0, 1, 1, 1, 1] rfl
 replace Z := ((Z.share.at_ 2 rfl).share).sel 6 [1, 1, 0, 0, 0, 0] rfl
 replace Z := Z.n6 L (a0 := Sh 56 1 (Zt (P ++ [PR.mk ps a2 c2])) a3 c3) (a1 := Zn YO (P ++ [PR.mk ps a2 c2])) (a2 := Sh 4 1 (Zc (B ++ [true])) a5 c5) rfl
 refine WQ.run 3 [.slice a3 (Zt (P ++ [PR.mk ps a2 c2])).length c3] rfl (by exact Z.ld 5 rfl rfl) ?_
 refine WQ.nil ?_
 intro m1
 replace Z := Z.drewN m1; generalize hwm1 : World.drewN _ _ = w at *; clear hwm1
 refine WL.ldF rfl rfl 5 Z rfl rfl Z4 <| WL.nil ?_
 refine ⟨by exact ⟨RQ.pure rfl rfl rfl rfl, RQ.load rfl rfl rfl rfl (Z.ld 5 rfl rfl), RQ.pure rfl rfl rfl rfl⟩, ?_⟩
 refine WQ.nil ?_
 intro m2
 replace Z := Z.drewN m2; generalize hwm2 : World.drewN _ _ = w at *; clear hwm2
 refine WL.stF rfl rfl rfl 4 Z rfl rfl rfl rfl rfl Z4 (fun w Z => ?_)
 replace Z := Z.n6 L (a4 := Ze b2 #[.int .i64 cap, .slice a3 (Zt (P ++ [PR.mk ps a2 c2])).length c3, .slice a5 (Zc (B ++ [true])).length c5] 40) rfl
 refine WL.nil ?_
 refine ⟨by exact ⟨RQ.pure rfl rfl rfl rfl, RQ.load rfl rfl rfl rfl (Z.ld 5 rfl rfl), RQ.pure rfl rfl rfl rfl⟩, ?_⟩
 refine WQ.r 2 rfl <| WQ.nil ?_
 intro m3
 replace Z := Z.drewN m3; generalize hwm3 : World.drewN _ _ = w at *; clear hwm3
 as_aux_lemma =>
 refine WC.ret ?_
 refine ⟨[.agg #[.int .i64 cap, .slice a3 (Zt (P ++ [PR.mk ps a2 c2])).length c3, .slice a5 (Zc (B ++ [true])).length c5], .int .i64 (List.length (Zt (P ++ [PR.mk ps a2 c2])) : Int), .int .i64 0], ⟨⟨_, rfl, Z.lvF 4 rfl Z4⟩, rfl, rfl⟩, ?_⟩
 replace Z := (Z.sel 6 [0, 0, 0, 0] rfl)
 exact ⟨_, _, _, _, _, _, congrArg (fun m : Int => Value.tuple #[.agg #[.int .i64 cap, .slice a3 (Zt (P ++ [PR.mk ps a2 c2])).length c3, .slice a5 (Zc (B ++ [true])).length c5], .int .i64 m, .int .i64 0]) (by simp), Z⟩
theorem Zl8 {g w : World} {L : List HP} (cap : Int) (P : List PR) (a : Option Addr) (c : Nat) (B : List Bool) (b : Option Addr) (d : Nat) (n : Int) (hB : B.length ≤ 1000) (h0 : ZB B n = true) (Z : St g (Sh 4 1 (Zc B) b d :: L) w) :
  Sp Tryz.prog 136 [.agg #[.int .i64 cap, .slice a (Zt P).length c, .slice b (Zc B).length d], .int .i64 n] w (fun v w' => ∃ (b2 : Option Addr) (d2 : Nat), v = .tuple #[.agg #[.int .i64 cap, .slice a (Zt P).length c, .slice b2 (List.length (Zc (B.set (n - 1).toNat false))) d2], .int .i64 0] ∧ St g (Sh 4 1 (Zc (B.set (n - 1).toNat false)) b2 d2 :: L) w') := by
 refine Sp.enter Tryz.func136 rfl (by kernel_rfl) (by kernel_rfl) ?_
 have _ := hB
 refine WC.seq <| WC.region <| WL.box rfl rfl #[.int .i64 cap, .slice a (Zt P).length c, .slice b (Zc B).length d] Z rfl rfl (fun b1 w Z => ?_)
 refine WL.new rfl rfl Zae Z (fun b2 w Z => ?_)
 refine WL.r 1 rfl <| WL.nil <| WC.seq <| WC.seq <| WC.region <| WL.ldF rfl rfl 1 Z rfl rfl Z4 <| WL.r 1 rfl <| WL.call rfl rfl (Qm (cap := cap) (P := P) (a := a) (c := c) (n := n) (hB := (by omega)) (Z := (Z.sel 3 [2, 0, 0] rfl))) rfl ?_
 clear Z; rintro _ w ⟨rfl, Z⟩
 replace Z := Z.n3 L (a1 := Ze b2 #[.int .i64 0, .slice none 0 0, .slice none 0 0] 40) (a2 := Ze b1 #[.int .i64 cap, .slice a (Zt P).length c, .slice b (Zc B).length d] 40) rfl
 refine WL.r 1 rfl <| WL.nil <| WC.ifF rfl (by rw [h0]; decide) ?_
 refine WC.skip <| WC.seq <| WC.region ?_
 have hbl := Zv B; have hrg := Yi h0; have hbs := Zv (B.set (n - 1).toNat false); have hls : (B.set (n - 1).toNat false).length = B.length := List.length_set
 refine WL.run 2 [.slice b (Zc B).length d] rfl (by exact Z.ld 2 rfl rfl) ?_
 replace Z := Z.nil_ 4 1
 refine WL.app rfl rfl 0 (Zc B) el_33 Z rfl (Z.srcS 1 rfl) (List.nil_append _) (Rm.of (by first | omega | (simp <;> omega)) (by decide)) rfl rfl (fun a1 c1 w Z => ?_)
 replace Z := Z.n4 L (a0 := Zf 4 1 (Zc B) a1 c1) rfl
 refine WL.r 1 rfl <| WL.st rfl rfl rfl 3 Z rfl rfl rfl rfl rfl rfl (fun w Z => ?_)
 replace Z := Z.n4 L (a3 := Ze b1 #[.int .i64 cap, .slice a (Zt P).length c, .slice a1 (Zc B).length c1] 40) rfl
 refine WL.nil ?_
 as_aux_lemma =>
 refine WC.seq <| WC.region <| WL.run 4 [.slice a1 (Zc B).length c1] rfl (by exact Z.ld 3 rfl rfl) ?_
 refine WL.nw 18 rfl (Zr (by omega)) ?_
 obtain ⟨x, hx⟩ : ∃ x, B[(n - 1).toNat]? = some x := ⟨_, List.getElem?_eq_getElem (by omega)⟩
 refine WL.ix rfl rfl (i := n - 1) ((n - 1).toNat) el_33 rfl rfl (by omega) (by omega) (Z.rdO 0 rfl (Zu hx)).1 ?_
 refine WL.stE rfl rfl rfl 0 ((n - 1).toNat) 0 [.bool x] (Zc (B.set (n - 1).toNat false)) Z rfl (Zu hx) rfl rfl rfl rfl rfl (YL _ _ _) (fun w Z => ?_)
 replace Z := Z.n4 L (a0 := Zf 4 1 (Zc (B.set (n - 1).toNat false)) a1 c1) rfl
 refine WL.nil <| WC.seq <| WC.region ?_
 rw [show (Zc B).length = (Zc (B.set (n - 1).toNat false)).length by omega] at Z; replace Z := Z.share.sel 4 [0, 1, 1] rfl
 replace Z := Z.n3 L (a0 := Sh 4 1 (Zc (B.set (n - 1).toNat false)) a1 c1) (a2 := Ze b1 #[.int .i64 cap, .slice a (Zt P).length c, .slice a1 (List.length (Zc (B.set (n - 1).toNat false))) c1] 40) rfl
 refine WL.ldF rfl rfl 2 Z rfl rfl Z4 <| WL.stF rfl rfl rfl 1 Z rfl rfl rfl rfl rfl Z4 (fun w Z => ?_)
 replace Z := Z.n3 L (a1 := Ze b2 #[.int .i64 cap, .slice a (Zt P).length c, .slice a1 (List.length (Zc (B.set (n - 1).toNat false))) c1] 40) rfl
 refine WL.r 1 rfl <| WL.nil <| WC.ret ?_
 refine ⟨[.agg #[.int .i64 cap, .slice a (Zt P).length c, .slice a1 (List.length (Zc (B.set (n - 1).toNat false))) c1], .int .i64 0], ⟨⟨_, rfl, Z.lvF 1 rfl Z4⟩, rfl⟩, ?_⟩
 replace Z := (Z.sel 3 [0] rfl)
 exact ⟨_, _, rfl, Z⟩
end Go.Proofs.YtbeacjcmdijdmaaGreat
namespace Go.V
open Go Go.RowKit
inductive Pt where
 | sub (i : Int) (t : Tr)
 | one (k v : Int)
def ptC : Pt → List Value
 | .sub i t => [.int .u32 i, .int .i64 (t.n : Int), .int .i64 0, .int .i64 0, .bool false]
 | .one k v => [.int .u32 0, .int .i64 0, .int .i64 k, .int .i64 v, .bool true]
def pts (l : List Pt) : List (List Value) := l.map ptC
@[simp] theorem pts_len (l : List Pt) : (pts l).length = l.length := by simp [pts]
def ptL : Pt → Z2
 | .sub _ t => t.ls
 | .one k v => [(k, v)]
def rem (P : List Pt) : Z2 := (P.reverse.map ptL).flatten
def ptW : Pt → Nat
 | .sub _ t => 3 * t.n
 | .one _ _ => 1
def wgt (P : List Pt) : Nat := (P.map ptW).sum
def PtOk (A : AM) : Pt → Prop
 | .sub i t => Is A t i ∧ i ≠ 0
 | .one _ _ => True
structure PsOk (A : AM) (P : List Pt) : Prop where
 ok : ∀ x ∈ P, PtOk A x
theorem PsOk.app {A : AM} {P : List Pt} (h : PsOk A P) {x : Pt} (hx : PtOk A x) : PsOk A (P ++ [x]) := ⟨fun y hy => by
 rcases List.mem_append.1 hy with hy | hy
 ·exact h.ok y hy
 ·rw [List.mem_singleton.1 hy]; exact hx⟩
theorem PsOk.sub {A : AM} {P Q : List Pt} (h : PsOk A (P ++ Q)) : PsOk A P := ⟨fun y hy => h.ok y (List.mem_append_left _ hy)⟩
abbrev Chg := Int × Int × Int × Int
def dif : Z2 → Z2 → List Chg
 | [], [] => []
 | [], (k, w) :: r => (1, k, 0, w) :: dif [] r
 | (k, v) :: l, [] => (2, k, v, 0) :: dif l []
 | (k, v) :: l, (k', w) :: r => if k < k' then (2, k, v, 0) :: dif l ((k', w) :: r) else if k' < k then (1, k', 0, w) :: dif ((k, v) :: l) r else if v ≠ w then (3, k, v, w) :: dif l r else dif l r
termination_by l r => l.length + r.length
theorem Zk0 (l r : Z2) : ∀ c ∈ dif l r, (∃ x ∈ l, x.1 = c.2.1) ∨ ∃ x ∈ r, x.1 = c.2.1 := by
 fun_induction dif l r
 case case1 => intro c hc; cases hc
 case case2 k w r ih =>
  intro c hc
  rcases List.mem_cons.1 hc with rfl | hc
  ·exact .inr ⟨(k, w), by simp, rfl⟩
  ·rcases ih c hc with ⟨x, hx, _⟩ | ⟨x, hx, e⟩
   ·cases hx
   ·exact .inr ⟨x, List.mem_cons_of_mem _ hx, e⟩
 case case3 k v l ih =>
  intro c hc
  rcases List.mem_cons.1 hc with rfl | hc
  ·exact .inl ⟨(k, v), by simp, rfl⟩
  ·rcases ih c hc with ⟨x, hx, e⟩ | ⟨x, hx, _⟩
   ·exact .inl ⟨x, List.mem_cons_of_mem _ hx, e⟩
   ·cases hx
 case case4 k v l k' w r h ih =>
  intro c hc
  rcases List.mem_cons.1 hc with rfl | hc
  ·exact .inl ⟨(k, v), by simp, rfl⟩
  ·rcases ih c hc with ⟨x, hx, e⟩ | h
   ·exact .inl ⟨x, List.mem_cons_of_mem _ hx, e⟩
   ·exact .inr h
 case case5 k v l k' w r h1 h2 ih =>
  intro c hc
  rcases List.mem_cons.1 hc with rfl | hc
  ·exact .inr ⟨(k', w), by simp, rfl⟩
  ·rcases ih c hc with h | ⟨x, hx, e⟩
   ·exact .inl h
   ·exact .inr ⟨x, List.mem_cons_of_mem _ hx, e⟩
 case case6 k v l k' w r h1 h2 h3 ih =>
  intro c hc
  rcases List.mem_cons.1 hc with rfl | hc
  ·exact .inl ⟨(k, v), by simp, rfl⟩
  ·rcases ih c hc with ⟨x, hx, e⟩ | ⟨x, hx, e⟩
   ·exact .inl ⟨x, List.mem_cons_of_mem _ hx, e⟩
   ·exact .inr ⟨x, List.mem_cons_of_mem _ hx, e⟩
 case case7 k v l k' w r h1 h2 h3 ih =>
  intro c hc
  rcases ih c hc with ⟨x, hx, e⟩ | ⟨x, hx, e⟩
  ·exact .inl ⟨x, List.mem_cons_of_mem _ hx, e⟩
  ·exact .inr ⟨x, List.mem_cons_of_mem _ hx, e⟩
def inR (lo hi : Int) (l : List Chg) : List Chg := l.filter fun c => decide (lo ≤ c.2.1 ∧ c.2.1 ≤ hi)
theorem Zly {lo hi : Int} {l r : Z2} (h1 : ∀ x ∈ l, hi < x.1) (h2 : ∀ x ∈ r, hi < x.1) : inR lo hi (dif l r) = [] := by
 refine List.filter_eq_nil_iff.2 fun c hc => ?_
 rcases Zk0 l r c hc with ⟨x, hx, e⟩ | ⟨x, hx, e⟩
 ·have := h1 x hx; simp; omega
 ·have := h2 x hx; simp; omega
def Qw (k v w : Int) (il ir : Bool) : Option Chg := if il = false then some (1, k, 0, w) else if ir = false then some (2, k, v, 0) else if v ≠ w then some (3, k, v, w) else none
def Ze5 (lo hi : Int) (c : Option Chg) : List Chg := match c with
 | some c => if lo ≤ c.2.1 ∧ c.2.1 ≤ hi then [c] else []
 | none => []
def Zpp (hi : Int) (c : Option Chg) : Bool := match c with
 | some c => decide (c.2.1 < hi)
 | none => true
theorem Ziu (lo hi : Int) (c : Chg) (l : List Chg) : inR lo hi (c :: l) = Ze5 lo hi (some c) ++ inR lo hi l := by
 unfold inR Ze5
 by_cases h : lo ≤ c.2.1 ∧ c.2.1 ≤ hi
 ·rw [List.filter_cons_of_pos (by simpa using h)]; simp [h]
 ·rw [List.filter_cons_of_neg (by simpa using h)]; simp [h]
theorem Is.fn {A : AM} : ∀ {t u : Tr} {i : Int}, Is A t i → Is A u i → t = u
 | .nil, .nil, _, _, _ => rfl
 | .nil, .node _ _ _ _, _, h, k => absurd k.1 (by rw [show _ = (0 : Int) from h]; omega)
 | .node _ _ _ _, .nil, _, h, k => absurd h.1 (by rw [show _ = (0 : Int) from k]; omega)
 | .node _ _ _ _, .node _ _ _ _, _, ⟨_, _, h3, h4, h5, h6⟩, ⟨_, _, k3, k4, k5, k6⟩ => by
  rw [Is.fn h5 k5, Is.fn h6 k6, ← h3, ← h4, ← k3, ← k4]
structure Pv (A : AM) (lo hi : Int) (F : List Chg) (m : Nat) (PL PR : List Pt) (out : List Chg) : Prop where
 oL : PsOk A PL
 oR : PsOk A PR
 sL : Srt (rem PL)
 sR : Srt (rem PR)
 d : out ++ inR lo hi (dif (rem PL) (rem PR)) = F
 w : out.length + wgt PL + wgt PR ≤ m
section
variable {A : AM} {lo hi : Int} {F : List Chg} {m : Nat} {PL PR : List Pt} {out : List Chg}
theorem Pv.done (h : Pv A lo hi F m [] [] out) : out = F := by
 have := h.d
 rw [show rem [] = [] from rfl, dif] at this
 simpa [inR] using this
theorem Pv.go (h : Pv A lo hi F m PL PR out) {PL2 PR2 : List Pt} {k v w : Int} {il ir : Bool} (oL : PsOk A PL2) (oR : PsOk A PR2) (sL : Srt (rem PL2)) (sR : Srt (rem PR2))
  (hd : dif (rem PL) (rem PR) = (Qw k v w il ir).toList ++ dif (rem PL2) (rem PR2)) (hw : wgt PL2 + wgt PR2 + 1 ≤ wgt PL + wgt PR) (g1 : ∀ x ∈ rem PL2, k < x.1) (g2 : ∀ x ∈ rem PR2, k < x.1) (hk : ∀ c, Qw k v w il ir = some c → c.2.1 = k) :
  (Zpp hi (Qw k v w il ir) = true → Pv A lo hi F m PL2 PR2 (out ++ Ze5 lo hi (Qw k v w il ir))) ∧ wgt PL2 + wgt PR2 < wgt PL + wgt PR ∧ (Zpp hi (Qw k v w il ir) = false → out ++ Ze5 lo hi (Qw k v w il ir) = F) := by
 have h1 := h.d
 rw [hd] at h1
 have hol : (Ze5 lo hi (Qw k v w il ir)).length ≤ 1 := by
  unfold Ze5
  split
  ·split <;> simp
  ·simp
 have h2 : inR lo hi ((Qw k v w il ir).toList ++ dif (rem PL2) (rem PR2)) = Ze5 lo hi (Qw k v w il ir) ++ inR lo hi (dif (rem PL2) (rem PR2)) := by
  cases hc : Qw k v w il ir with
  | none => rfl
  | some c => exact Ziu lo hi c _
 rw [h2, ← List.append_assoc] at h1
 refine ⟨fun _ => ⟨oL, oR, sL, sR, h1, by have := h.w; rw [List.length_append]; omega⟩, by omega, fun hg => ?_⟩
 rw [← h1]
 cases hc : Qw k v w il ir with
 | none => rw [hc] at hg; cases hg
 | some c =>
  rw [hc] at hg
  have hck := hk c hc
  have hh : hi ≤ k := by simp [Zpp] at hg; omega
  rw [Zly (fun x hx => by have := g1 x hx; omega) (fun x hx => by have := g2 x hx; omega), List.append_nil]
end
end Go.V
namespace Go.V
open Go Go.RowKit Go.Maps Go.Sort
section
variable {α β : Type}
def pSrt (M : List (Int × β)) : Prop := M.Pairwise fun a b => a.1 < b.1
def QA (k : Int) (M : List (Int × β)) : Option β := (M.find? fun x => decide (x.1 = k)).map (·.2)
def Zg2 (k : Int) (y : β) (M : List (Int × β)) : List (Int × β) := M.filter (fun x => decide (x.1 < k)) ++ (k, y) :: M.filter (fun x => decide (k < x.1))
def Zny (k : Int) (M : List (Int × β)) : List (Int × β) := M.filter fun x => decide (x.1 ≠ k)
theorem Zc6 {k : Int} {y : β} {M : List (Int × β)} (h : pSrt M) : pSrt (Zg2 k y M) := by
 unfold Zg2
 refine List.pairwise_append.2 ⟨h.sublist List.filter_sublist, List.pairwise_cons.2 ⟨fun y hy => ?_, h.sublist List.filter_sublist⟩, fun x hx y hy => ?_⟩
 ·exact of_decide_eq_true (List.mem_filter.1 hy).2
 ·have h1 := of_decide_eq_true (List.mem_filter.1 hx).2
  rcases List.mem_cons.1 hy with rfl | hy
  ·exact h1
  ·have h2 := of_decide_eq_true (List.mem_filter.1 hy).2
   omega
theorem Zis {k : Int} {M : List (Int × β)} (h : pSrt M) : pSrt (Zny k M) := h.sublist List.filter_sublist
theorem Zdc {k : Int} {y : β} {M : List (Int × β)} (x : Int × β) : x ∈ Zg2 k y M ↔ x = (k, y) ∨ (x ∈ M ∧ x.1 ≠ k) := by
 unfold Zg2
 rw [List.mem_append, List.mem_cons, List.mem_filter, List.mem_filter, decide_eq_true_iff, decide_eq_true_iff]
 constructor
 ·rintro (⟨h1, h2⟩ | h | ⟨h1, h2⟩)
  ·exact .inr ⟨h1, by omega⟩
  ·exact .inl h
  ·exact .inr ⟨h1, by omega⟩
 ·rintro (h | ⟨h1, h2⟩)
  ·exact .inr (.inl h)
  ·by_cases h3 : x.1 < k
   ·exact .inl ⟨h1, h3⟩
   ·exact .inr (.inr ⟨h1, by omega⟩)
theorem Zk8 {k : Int} {M : List (Int × β)} (x : Int × β) : x ∈ Zny k M ↔ x ∈ M ∧ x.1 ≠ k := by
 unfold Zny; rw [List.mem_filter, decide_eq_true_iff]
theorem pSrt.nodup {M : List (Int × β)} (h : pSrt M) : M.Nodup := h.imp fun {a b} h e => by rw [e] at h; omega
theorem YI {k : Int} {M : List (Int × β)} (hs : pSrt M) {y : β} : QA k M = some y ↔ (k, y) ∈ M := by
 unfold QA
 constructor
 ·intro h
  cases hf : M.find? fun x => decide (x.1 = k) with
  | none => rw [hf] at h; cases h
  | some z =>
   rw [hf] at h
   have h1 : z.1 = k := of_decide_eq_true (List.find?_some (p := fun x : Int × β => decide (x.1 = k)) hf)
   simp only [Option.map_some, Option.some.injEq] at h
   have h2 := List.mem_of_find?_eq_some hf
   rw [← h1, ← h]; exact h2
 ·intro h
  induction M with
  | nil => cases h
  | cons x t ih =>
   obtain ⟨h1, h2⟩ := List.pairwise_cons.1 hs
   rw [List.find?_cons]
   rcases List.mem_cons.1 h with rfl | h
   ·simp
   ·have h3 : x.1 < k := h1 _ h
    rw [decide_eq_false (show ¬ x.1 = k by omega)]
    exact ih h2 h
theorem J0 {k : Int} {M : List (Int × β)} (h : ∀ x ∈ M, x.1 ≠ k) : QA k M = none := by
 unfold QA
 rw [List.find?_eq_none.2 fun x hx e => h x hx (of_decide_eq_true e)]; rfl
theorem pSrt.ext : ∀ {M N : List (Int × β)}, pSrt M → pSrt N → (∀ z, QA z M = QA z N) → M = N
 | [], [], _, _, _ => rfl
 | [], (k, y) :: N, _, hN, h => by
  have h1 := h k
  rw [(YI hN).2 (List.mem_cons_self ..)] at h1; cases h1
 | (k, y) :: M, [], hM, _, h => by
  have h1 := h k
  rw [(YI hM).2 (List.mem_cons_self ..)] at h1; cases h1
 | (k, y) :: M, (j, w) :: N, hM, hN, h => by
  obtain ⟨a1, a2⟩ := List.pairwise_cons.1 hM
  obtain ⟨b1, b2⟩ := List.pairwise_cons.1 hN
  have e1 : (k, y) ∈ (j, w) :: N := (YI hN).1 ((h k).symm.trans ((YI hM).2 (List.mem_cons_self ..)))
  have e2 : (j, w) ∈ (k, y) :: M := (YI hM).1 ((h j).trans ((YI hN).2 (List.mem_cons_self ..)))
  have hkj : k = j := by
   rcases List.mem_cons.1 e1 with e | e
   ·exact congrArg Prod.fst e
   ·rcases List.mem_cons.1 e2 with e' | e'
    ·exact (congrArg Prod.fst e').symm
    ·have h1 : j < k := b1 _ e
     have h2 : k < j := a1 _ e'
     omega
  subst hkj
  have hy : y = w := by
   rcases List.mem_cons.1 e1 with e | e
   ·exact congrArg Prod.snd e
   ·have h1 : k < k := b1 _ e
    omega
  subst hy
  rw [pSrt.ext a2 b2 fun z => ?_]
  have h1 := h z
  by_cases hz : z = k
  ·subst hz
   rw [J0 fun x hx => by have := a1 x hx; exact Int.ne_of_gt this, J0 fun x hx => by have := b1 x hx; exact Int.ne_of_gt this]
  ·have hc : ∀ L : List (Int × β), QA z ((k, y) :: L) = QA z L := fun L => by
    unfold QA; rw [List.find?_cons, decide_eq_false (fun e : k = z => hz e.symm)]
   rw [hc, hc] at h1; exact h1
structure POk (f : α → Value × Value × Nat) (n : α → Int) (g : α → β) (xs : List α) (q : Nat) (M : List (Int × β)) : Prop where
 k : KOk f n xs q
 perm : (xs.map fun x => (n x, g x)).Perm M
 srt : pSrt M
variable {f : α → Value × Value × Nat} {n : α → Int} {g : α → β} {xs : List α} {q : Nat} {M : List (Int × β)}
theorem POk.nil : POk f n g [] 0 [] := ⟨KOk.nil, List.Perm.refl _, List.Pairwise.nil⟩
theorem POk.len (h : POk f n g xs q M) : xs.length = M.length := by rw [← h.perm.length_eq, List.length_map]
theorem POk.mem (h : POk f n g xs q M) (x : Int × β) : x ∈ M ↔ ∃ y ∈ xs, (n y, g y) = x := by rw [← h.perm.mem_iff, List.mem_map]
theorem POk.get (h : POk f n g xs q M) {j : Nat} {x : α} (hx : xs[j]? = some x) : QA (n x) M = some (g x) :=
 (YI h.srt).2 ((h.mem _).2 ⟨x, List.mem_of_getElem? hx, rfl⟩)
theorem POk.no (h : POk f n g xs q M) {k : Int} (hx : ∀ x ∈ xs, n x ≠ k) : QA k M = none :=
 J0 fun x hm => by
  obtain ⟨y, hy, rfl⟩ := (h.mem x).1 hm
  exact hx y hy
theorem KOk.set' {l : List α} (h : KOk f n l q) {j : Nat} {x y : α} (hx : l[j]? = some x) (h1 : n y = n x) (h2 : (f y).1 = (f x).1) (h3 : (f y).2.2 = (f x).2.2) : KOk f n (l.set j y) q := by
 have hj := (List.getElem?_eq_some_iff.1 hx).1
 have hm : ∀ {γ : Type} (g : α → γ), g y = g x → (l.set j y).map g = l.map g := fun g hg => by
  apply List.ext_getElem?
  intro i
  rw [List.getElem?_map, List.getElem?_map, List.getElem?_set]
  split
  ·rename_i hij; subst hij
   rw [hx]; simp [hg]
  ·rfl
 have hxm := List.mem_of_getElem? hx
 refine ⟨fun z hz => ?_, ?_, fun z hz => ?_, ?_, fun z hz => ?_, by rw [List.length_set]; exact h.num⟩
 ·rcases List.mem_or_eq_of_mem_set hz with hz | rfl
  ·exact h.key z hz
  ·rw [h2, h1]; exact h.key x hxm
 ·have := List.pairwise_map.2 h.uniq
  rw [← hm n h1] at this
  exact List.pairwise_map.1 this
 ·rcases List.mem_or_eq_of_mem_set hz with hz | rfl
  ·exact h.born z hz
  ·rw [h3]; exact h.born x hxm
 ·rw [hm (fun x => (f x).2.2) h3]; exact h.bnd
 ·rcases List.mem_or_eq_of_mem_set hz with hz | rfl
  ·exact h.rng z hz
  ·rw [h1]; exact h.rng x hxm
theorem POk.ofMem {xs' : List α} {q' : Nat} {M' : List (Int × β)} (hk : KOk f n xs' q') (hs : pSrt M') (hm : ∀ x, (∃ y ∈ xs', (n y, g y) = x) ↔ x ∈ M') : POk f n g xs' q' M' := by
 refine ⟨hk, ?_, hs⟩
 have hn : (xs'.map fun x => (n x, g x)).Nodup := List.pairwise_map.2 (hk.uniq.imp fun {a b} h e => h (congrArg Prod.fst e))
 exact (List.perm_ext_iff_of_nodup hn hs.nodup).2 fun x => by rw [List.mem_map]; exact hm x
theorem POk.set (h : POk f n g xs q M) {j : Nat} {x y : α} (hx : xs[j]? = some x) (h1 : n y = n x) (h2 : (f y).1 = (f x).1) (h3 : (f y).2.2 = (f x).2.2) : POk f n g (xs.set j y) q (Zg2 (n x) (g y) M) := by
 refine POk.ofMem (h.k.set' hx h1 h2 h3) (Zc6 h.srt) fun z => ?_
 rw [Zdc, h.mem]
 have hj := (List.getElem?_eq_some_iff.1 hx).1
 constructor
 ·rintro ⟨u, hu, rfl⟩
  obtain ⟨i, hi⟩ := List.mem_iff_getElem?.1 hu
  rw [List.getElem?_set] at hi
  split at hi
  ·rw [← Option.some.inj hi, h1]; exact .inl rfl
  ·rename_i hij
   have hil := (List.getElem?_eq_some_iff.1 hi).1
   refine .inr ⟨⟨u, List.mem_of_getElem? hi, rfl⟩, fun e => ?_⟩
   have hu := List.pairwise_iff_getElem.1 h.k.uniq
   have e1 := (List.getElem?_eq_some_iff.1 hi).2
   have e2 := (List.getElem?_eq_some_iff.1 hx).2
   have he : n u = n x := e
   rcases Nat.lt_or_gt_of_ne hij with hlt | hgt
   ·exact hu j i hj hil hlt (by rw [e1, e2]; exact he.symm)
   ·exact hu i j hil hj hgt (by rw [e1, e2]; exact he)
 ·rintro (rfl | ⟨⟨u, hu, rfl⟩, hn⟩)
  ·exact ⟨y, List.mem_iff_getElem?.2 ⟨j, by rw [List.getElem?_set, if_pos rfl]; simp [hj]⟩, by rw [h1]⟩
  ·obtain ⟨i, hi⟩ := List.mem_iff_getElem?.1 hu
   refine ⟨u, List.mem_iff_getElem?.2 ⟨i, ?_⟩, rfl⟩
   rw [List.getElem?_set, if_neg (fun e => ?_), hi]
   subst e
   rw [hx] at hi
   have := Option.some.inj hi
   subst this
   exact hn rfl
theorem POk.snoc (h : POk f n g xs q M) {y : α} (hk : (f y).1 = .int .i64 (n y)) (hn : ∀ x ∈ xs, n x ≠ n y) (hb : (f y).2.2 = q) (hr : -9223372036854775808 ≤ n y ∧ n y ≤ 9223372036854775807) (hl : xs.length < 4096) : POk f n g (xs ++ [y]) (q + 1) (Zg2 (n y) (g y) M) := by
 refine POk.ofMem (h.k.snoc hk hn hb hr hl) (Zc6 h.srt) fun z => ?_
 rw [Zdc, h.mem]
 constructor
 ·rintro ⟨u, hu, rfl⟩
  rcases List.mem_append.1 hu with hu | hu
  ·exact .inr ⟨⟨u, hu, rfl⟩, hn u hu⟩
  ·rw [List.mem_singleton.1 hu]; exact .inl rfl
 ·rintro (rfl | ⟨⟨u, hu, rfl⟩, _⟩)
  ·exact ⟨y, List.mem_append_right _ (List.mem_singleton.2 rfl), rfl⟩
  ·exact ⟨u, List.mem_append_left _ hu, rfl⟩
theorem POk.erase (h : POk f n g xs q M) {j : Nat} {x : α} (hx : xs[j]? = some x) : POk f n g (xs.eraseIdx j) q (Zny (n x) M) := by
 refine POk.ofMem (h.k.erase j) (Zis h.srt) fun z => ?_
 rw [Zk8, h.mem]
 constructor
 ·rintro ⟨u, hu, rfl⟩
  obtain ⟨h1, h2⟩ := (Jm h.k.uniq hx u).1 hu
  exact ⟨⟨u, h1, rfl⟩, h2⟩
 ·rintro ⟨⟨u, hu, rfl⟩, hn⟩
  exact ⟨u, (Jm h.k.uniq hx u).2 ⟨hu, hn⟩, rfl⟩
theorem POk.keys (h : POk f n g xs q M) : (M.map (·.1)).Perm (xs.map n) ∧ (M.map (·.1)).Pairwise (· ≤ ·) := by
 refine ⟨?_, List.pairwise_map.2 (h.srt.imp fun {a b} h => by omega)⟩
 have := (h.perm.map (fun x : Int × β => x.1)).symm
 rw [List.map_map] at this
 exact this
end
end Go.V
namespace Go.V
open Go Go.RowKit
abbrev Ev := Int × Int × Int × Int × Int
def ev5 (l : List Ev) : List (List Value) := l.map fun x => [.int .i64 x.1, .int .i64 x.2.1, .int .i64 x.2.2.1, .int .i64 x.2.2.2.1, .int .i64 x.2.2.2.2]
@[simp] theorem ev5_len (l : List Ev) : (ev5 l).length = l.length := by simp [ev5]
abbrev Or := Int × Int × Int
def or3 (l : List Or) : List (List Value) := l.map fun x => [.int .i64 x.1, .int .i64 x.2.1, .int .i64 x.2.2]
@[simp] theorem or3_len (l : List Or) : (or3 l).length = l.length := by simp [or3]
structure LsE where
 es : Z2
 a : Option Addr
 c : Nat
def ZI (l : List LsE) : List (List Value) := l.map fun x => [.slice x.a (Zq x.es).length x.c]
@[simp] theorem Zf9 (l : List LsE) : (ZI l).length = l.length := by simp [ZI]
theorem Zba {l : List LsE} {k : Nat} {x : LsE} (h : l[k]? = some x) : (ZI l)[k]? = some [.slice x.a (Zq x.es).length x.c] := by simp [ZI, h]
theorem Zn2 (l m : List LsE) : ZI (l ++ m) = ZI l ++ ZI m := by simp [ZI]
theorem Zp9 (l : List LsE) : OkE 1 (ZI l) := fun x hx => by
 obtain ⟨y, _, rfl⟩ := List.mem_map.1 hx
 exact ⟨rfl, fun u hu => by simp at hu; subst hu; rfl⟩
def kvR (l : Z2) : Prop := ∀ x ∈ l, -9223372036854775808 ≤ x.1 ∧ x.1 ≤ 9223372036854775807
structure ChOk (l r : Z2) (c : Chg) : Prop where
 new : X' c.2.1 r = if c.1 = 2 then none else some c.2.2.2
 old : X' c.2.1 l = if c.1 = 1 then none else some c.2.2.1
 z1 : c.1 = 1 → c.2.2.1 = 0
 z2 : c.1 = 2 → c.2.2.2 = 0
 kd : c.1 = 1 ∨ c.1 = 2 ∨ c.1 = 3
theorem ChOk.up {l r l' r' : Z2} {c : Chg} (h : ChOk l r c) (h1 : X' c.2.1 l' = X' c.2.1 l) (h2 : X' c.2.1 r' = X' c.2.1 r) : ChOk l' r' c :=
 ⟨by rw [h2]; exact h.new, by rw [h1]; exact h.old, h.z1, h.z2, h.kd⟩
end Go.V
namespace Go.V
open Go Go.RowKit
def lsA (L : List Z2) (i : Nat) : Z2 := L.getD i []
def lsB (L : List Z2) (i : Nat) : Z2 := if i = 0 then [] else lsA L (i - 1)
def dA (lo hi : Int) (L : List Z2) (i : Nat) : List Chg := inR lo hi (dif (lsB L i) (lsA L i))
def evA (i : Nat) (D : List Chg) : List Ev := D.map fun c => ((i : Int), c)
def hev (lo hi : Int) (L : List Z2) (k : Nat) : List Ev := (List.range k).flatMap fun i => evA i (dA lo hi L i)
def LOk (L : List Z2) : Prop := ∀ l ∈ L, Srt l ∧ l.length ≤ 100 ∧ kvR l
section
variable {L : List Z2} {lo hi : Int}
theorem LOk.a (h : LOk L) (i : Nat) : Srt (lsA L i) ∧ (lsA L i).length ≤ 100 ∧ kvR (lsA L i) := by
 unfold lsA
 rw [List.getD_eq_getElem?_getD]
 cases hi : L[i]? with
 | none => exact ⟨List.Pairwise.nil, Nat.zero_le _, fun x hx => (by cases hx)⟩
 | some l => exact h l (List.mem_of_getElem? hi)
theorem LOk.b (h : LOk L) (i : Nat) : Srt (lsB L i) ∧ (lsB L i).length ≤ 100 ∧ kvR (lsB L i) := by
 unfold lsB
 split
 ·exact ⟨List.Pairwise.nil, Nat.zero_le _, fun x hx => (by cases hx)⟩
 ·exact h.a _
end
structure RTs (A : AM) (L : List Z2) (rs : List Int) : Prop where
 len : L.length = rs.length
 get : ∀ (i : Nat) (r : Int), rs[i]? = some r → ∃ t : Tr, Is A t r ∧ t.ok ∧ t.ls = lsA L i
end Go.V
namespace Go.V
open Go Go.RowKit
theorem St.shsDup {α : Type} {f : α → List HP} {zs : List α} {g w : World} {L : List HP} (h : St g L w) (i : Nat) (hi : L[i]? = some (Zn f zs)) : St g (Zn f zs :: L) w := by
 obtain ⟨o, r, a, b, c, d, e⟩ := h.own
 obtain ⟨o1, o2, h1, h2, hd, hh, hL⟩ := All.perm (Xu hi) e
 exact ⟨h.os, h.tape, h.output, h.size, o, r, a, b, c, d, All.cat [Zn f zs] L (fun _ _ h => by cases h) (Sub.refl _) (Dj.none _) ⟨fun _ => none, fun _ => none, Sub.refl _, Sub.refl _, Dj.none _, hh, trivial⟩ e⟩
end Go.V
namespace Go.V
open Go Go.RowKit
def Jk (x : LsE) : List HP := [Sh 121 2 (Zq x.es) x.a x.c]
theorem Zqk (x : LsE) : ∀ A ∈ Jk x, Sht A := fun A hA => by
 simp only [Jk, List.mem_singleton] at hA; subst hA; exact Sht.sh
structure ChI (A : AM) (R rs : List Int) (LL : List LsE) (m k n c : Nat) : Prop where
 ref : ARf A R
 rl : R.length ≤ k + 1
 mem : ∀ r ∈ rs, r ∈ R
 rsl : rs.length = k + 1
 trs : RTs A (LL.map LsE.es) rs
 lok : ∀ x ∈ LL, Srt x.es ∧ x.es.length ≤ m + k ∧ kvR x.es
 fr : ((1 + (n + 1) * c : Nat) : Int) ≤ A.s.free + (k * c : Nat)
structure ChJ (A B : AM) (R R2 : List Int) (o : Int) (ns : Z2) (m k c : Nat) : Prop where
 ref : ARf B R2
 rl : R2.length ≤ R.length + 1
 sub : ∀ r ∈ R, r ∈ R2
 om : o ∈ R2
 tr : ∃ t : Tr, Is B t o ∧ t.ok ∧ t.ls = ns
 kp : Kp A B R
 ok : Srt ns ∧ ns.length ≤ m + (k + 1) ∧ kvR ns
 fr : A.s.free ≤ B.s.free + (c : Int)
section
variable {A B : AM} {R R2 rs : List Int} {LL : List LsE} {m k n c : Nat} {o : Int} {ns : Z2}
theorem ChI.room (h : ChI A R rs LL m k n c) (hk : k < n) : (c : Int) ≤ A.s.free := by
 have h1 := h.fr
 have h2 : (k + 1) * c ≤ (n + 1) * c := Nat.mul_le_mul_right c (by omega)
 rw [Nat.succ_mul] at h2
 omega
theorem ChI.step (h : ChI A R rs LL m k n c) (j : ChJ A B R R2 o ns m k c) (na : Option Addr) (nc : Nat) : ChI B R2 (rs ++ [o]) (LL ++ [⟨ns, na, nc⟩]) m (k + 1) n c := by
 have hL : LL.length = rs.length := by have := h.trs.len; rw [List.length_map] at this; exact this
 refine ⟨j.ref, by have := j.rl; have := h.rl; omega, fun r hr => ?_, by rw [List.length_append, h.rsl]; rfl, ⟨by simp [hL], fun i r hr => ?_⟩, fun x hx => ?_, ?_⟩
 ·rcases List.mem_append.1 hr with hr | hr
  ·exact j.sub r (h.mem r hr)
  ·rw [List.mem_singleton.1 hr]; exact j.om
 ·rcases Nat.lt_or_ge i rs.length with hi | hi
  ·rw [List.getElem?_append_left hi] at hr
   obtain ⟨t, h1, h2, h3⟩ := h.trs.get i r hr
   refine ⟨t, j.kp r (h.mem r (List.mem_of_getElem? hr)) t h1, h2, h3.trans ?_⟩
   unfold lsA
   rw [List.getD_eq_getElem?_getD, List.getD_eq_getElem?_getD, List.map_append, List.getElem?_append_left (by rw [List.length_map]; omega)]
  ·rw [List.getElem?_append_right hi] at hr
   have hi2 : i = rs.length := by
    have := (List.getElem?_eq_some_iff.1 hr).1
    simp at this; omega
   subst hi2
   obtain ⟨t, h1, h2, h3⟩ := j.tr
   simp only [Nat.sub_self, List.getElem?_cons_zero, Option.some.injEq] at hr
   subst hr
   refine ⟨t, h1, h2, h3.trans ?_⟩
   unfold lsA
   rw [List.getD_eq_getElem?_getD, List.map_append, List.getElem?_append_right (by rw [List.length_map]; omega), List.length_map, hL, Nat.sub_self]; rfl
 ·rcases List.mem_append.1 hx with hx | hx
  ·have := h.lok x hx; exact ⟨this.1, by omega, this.2.2⟩
  ·rw [List.mem_singleton.1 hx]; exact j.ok
 ·have h1 := h.fr
  have h2 := j.fr
  have h3 : (((k + 1) * c : Nat) : Int) = ((k * c : Nat) : Int) + (c : Int) := by rw [Nat.succ_mul]; rfl
  rw [h3]
  omega
theorem ChI.at (h : ChI A R rs LL m k n c) {i : Nat} {r : Int} {z : LsE} (hr : rs[i]? = some r) (hz : LL[i]? = some z) : r ∈ R ∧ ∃ t : Tr, Is A t r ∧ t.ok ∧ t.ls = z.es := by
 obtain ⟨t, h1, h2, h3⟩ := h.trs.get i r hr
 refine ⟨h.mem r (List.mem_of_getElem? hr), t, h1, h2, h3.trans ?_⟩
 unfold lsA
 rw [List.getD_eq_getElem?_getD, List.getElem?_map, hz]; rfl
theorem ChI.same (h : ChI A R rs LL m k n c) {i : Nat} {r : Int} {z : LsE} (hr : rs[i]? = some r) (hz : LL[i]? = some z) : ChJ A A R R r z.es m k c := by
 obtain ⟨h1, h2⟩ := h.at hr hz
 have h3 := h.lok z (List.mem_of_getElem? hz)
 exact ⟨h.ref, by omega, fun _ h => h, h1, h2, Kp.refl _ _, ⟨h3.1, by omega, h3.2.2⟩, by omega⟩
theorem Zj6 {k v : Int} {l : Z2} (h : kvR l) (hk : -9223372036854775808 ≤ k ∧ k ≤ 9223372036854775807) : kvR (YX k v l) := fun x hx => by
 unfold YX at hx
 rcases List.mem_append.1 hx with hx | hx
 ·exact h x (List.mem_filter.1 hx).1
 ·rcases List.mem_cons.1 hx with rfl | hx
  ·exact hk
  ·exact h x (List.mem_filter.1 hx).1
theorem Zks {k : Int} {l : Z2} (h : kvR l) : kvR (Zic k l) := fun x hx => h x (List.mem_filter.1 hx).1
theorem ChI.ins (h : ChI A R rs LL m k n c) {i : Nat} {z : LsE} (hz : LL[i]? = some z) {t : Tr} (h1 : t.ok) (h2 : t.ls = z.es) {key v : Int} {j : Int} {d : Nat} (hk : -9223372036854775808 ≤ key ∧ key ≤ 9223372036854775807) (f : TOp A B R j (Tr.ins key v t) d) (hd : d ≤ c) : ChJ A B R (j :: R) j (YX key v z.es) m k c := by
 have h3 := h.lok z (List.mem_of_getElem? hz)
 refine ⟨f.ref, Nat.le_refl _, fun _ h => List.mem_cons_of_mem _ h, List.mem_cons_self .., ⟨_, f.is, Tr.ins_ok key v t h1, ?_⟩, f.kp, ⟨QS h3.1, ?_, Zj6 h3.2.2 hk⟩, by have := f.fr; omega⟩
 ·rw [Tr.ins_ls key v t (by rw [h2]; exact h3.1), h2]
 ·rw [Qy h3.1]; split <;> omega
theorem ChI.del (h : ChI A R rs LL m k n c) {i : Nat} {z : LsE} (hz : LL[i]? = some z) {t : Tr} (h1 : t.ok) (h2 : t.ls = z.es) {key : Int} {j : Int} {d : Nat} (f : TOp A B R j (Tr.del key t) d) (hd : d ≤ c) : ChJ A B R (j :: R) j (Zic key z.es) m k c := by
 have h3 := h.lok z (List.mem_of_getElem? hz)
 refine ⟨f.ref, Nat.le_refl _, fun _ h => List.mem_cons_of_mem _ h, List.mem_cons_self .., ⟨_, f.is, Tr.del_ok key t h1, ?_⟩, f.kp, ⟨Zhz h3.1, ?_, Zks h3.2.2⟩, by have := f.fr; omega⟩
 ·rw [Tr.del_ls key t (by rw [h2]; exact h3.1), h2]
 ·exact Nat.le_trans (List.length_filter_le _ _) (by omega)
theorem ChI.init {i : Int} {t : Tr} {l : Z2} (h1 : ARf A [i]) (h2 : Is A t i) (h3 : t.ok) (h4 : t.ls = l) (hl : Srt l ∧ kvR l) (hf : ((1 + (n + 1) * c : Nat) : Int) ≤ A.s.free) (a : Option Addr) (d : Nat) : ChI A [i] [i] [⟨l, a, d⟩] l.length 0 n c := by
 refine ⟨h1, by simp, fun _ h => h, rfl, ⟨rfl, fun j r hr => ?_⟩, fun x hx => ?_, by rw [Nat.zero_mul]; omega⟩
 ·match j, hr with
  | 0, hr => exact ⟨t, Option.some.inj hr ▸ h2, h3, h4⟩
  | j + 1, hr => simp at hr
 ·rw [List.mem_singleton.1 hx]; exact ⟨hl.1, by simp, hl.2⟩
theorem ChI.fin (h : ChI A R rs LL m k n c) (hm : m + k ≤ 100) : LOk (LL.map LsE.es) := fun l hl => by
 obtain ⟨x, hx, rfl⟩ := List.mem_map.1 hl
 have := h.lok x hx
 exact ⟨this.1, by omega, this.2.2⟩
end
end Go.V
namespace Go.V
open Go Go.RowKit
structure RSt where
 cap : Int
 T : TM
 P : List PR
 B : List Bool
 LL : List LsE
 ra : Option Addr
 ga : Option Addr
 oa : Option Addr
 va : Option Addr
 pa : Option Addr
 ba : Option Addr
 la : Option Addr
 rc : Nat
 gc : Nat
 oc : Nat
 vc : Nat
 pc : Nat
 bc : Nat
 lc : Nat
abbrev rvA (z : RSt) : Array Value := #[.int .i64 z.cap, .int .i64 z.T.s.cap, .slice z.ra (Za z.T.s.rel).length z.rc, .int .i64 (z.T.s.fresh + 1), .slice z.ga (Za (z.T.s.gen.drop 1)).length z.gc, .slice z.oa (Zc (z.T.s.used.drop 1)).length z.oc, .slice z.va (Za (z.T.vals.drop 1)).length z.vc, .int .i64 z.cap, .slice z.pa (Zt z.P).length z.pc, .slice z.ba (Zc z.B).length z.bc, .slice z.la (ZI z.LL).length z.lc]
abbrev wlA (s : Nat) (z : RSt) (u : Option Addr) (hs : List Int) (d : Nat) : Array Value := #[.pointer (some ⟨s, 0, none⟩), .int .i64 z.cap, .int .i64 z.T.s.cap, .slice z.ra (Za z.T.s.rel).length z.rc, .int .i64 (z.T.s.fresh + 1), .slice z.ga (Za (z.T.s.gen.drop 1)).length z.gc, .slice z.oa (Zc (z.T.s.used.drop 1)).length z.oc, .slice z.va (Za (z.T.vals.drop 1)).length z.vc, .int .i64 z.cap, .slice z.pa (Zt z.P).length z.pc, .slice z.ba (Zc z.B).length z.bc, .slice z.la (ZI z.LL).length z.lc, .slice u (Zg hs).length d]
def Z6 (z : RSt) : List HP := [Sh 64 1 (Za z.T.s.rel) z.ra z.rc, Sh 64 1 (Za (z.T.s.gen.drop 1)) z.ga z.gc, Sh 4 1 (Zc (z.T.s.used.drop 1)) z.oa z.oc, Sh 64 1 (Za (z.T.vals.drop 1)) z.va z.vc, Sh 56 1 (Zt z.P) z.pa z.pc, Zn YO z.P, Sh 4 1 (Zc z.B) z.ba z.bc, Sh 49 1 (ZI z.LL) z.la z.lc, Zn Jk z.LL]
theorem Zox (z : RSt) : ∀ A ∈ Z6 z, Sht A := fun A hA => by
 simp only [Z6, List.mem_cons, List.not_mem_nil, or_false] at hA
 rcases hA with rfl | rfl | rfl | rfl | rfl | rfl | rfl | rfl | rfl
 ·exact Sht.sh
 ·exact Sht.sh
 ·exact Sht.sh
 ·exact Sht.sh
 ·exact Sht.sh
 ·exact Sht.shs
 ·exact Sht.sh
 ·exact Sht.sh
 ·exact Sht.shs
theorem St.rsGet {g w : World} {L : List HP} {z : RSt} (h : St g L w) (i : Nat) (hi : L[i]? = some (Zn Z6 [z])) : St g (Z6 z ++ L) w := h.shsGet i hi (List.mem_singleton.2 rfl)
theorem St.rsPut {g w : World} {L : List HP} (z : RSt) (h : St g L w) (is : List Nat) (hp : Go.V.pick L is = some (Z6 z)) : St g (Zn Z6 [z] :: L) w := (h.shsNil Z6).shsCons (Zox z) is hp
structure ROk (z : RSt) : Prop where
 t : TOk z.T
 p : PRk z.P
 b : z.B.length = z.P.length
 l : z.LL.length = z.P.length
 n : z.P.length ≤ 900
 c : 1 ≤ z.cap ∧ z.cap ≤ 4096
def RSt.rel (z : RSt) (h : Int) (ra oa ba : Option Addr) (rc oc bc : Nat) : RSt := { z with T := z.T.close h, B := z.B.set (z.T.val h - 1).toNat false, ra := ra, oa := oa, ba := ba, rc := rc, oc := oc, bc := bc }
def RSt.add (z : RSt) (ps : List Int) (es : LsE) (ra ga oa va pa ba la e : Option Addr) (rc gc oc vc pc bc lc f : Nat) : RSt := { cap := z.cap, T := z.T.open (z.P.length + 1), P := z.P ++ [PR.mk ps e f], B := z.B ++ [true], LL := z.LL ++ [es], ra := ra, ga := ga, oa := oa, va := va, pa := pa, ba := ba, la := la, rc := rc, gc := gc, oc := oc, vc := vc, pc := pc, bc := bc, lc := lc }
noncomputable def RSt.room (z : RSt) : Int := min (z.cap - ((ZU (Z1 z.P z.B)).length : Int)) z.T.s.free
end Go.V
namespace Go.Proofs.YtbeacjcmdijdmaaGreat
open Go Go.V
theorem Zap {g w : World} {L : List HP} (z : RSt) (h : Int) (hz : ROk z) (hh : 0 ≤ h ∧ h ≤ 18446744073709551615) (hn : z.T.s.opn h = true) (Z : St g (Zn Z6 [z] :: L) w) :
  Sp Tryz.prog 65 [.agg (rvA z), .int .u64 h] w (fun v w' => v = .tuple #[.int .i64 (z.T.val h), .int .i64 0] ∧ St g (Zn Z6 [z] :: L) w') := by
 refine Sp.enter Tryz.func65 rfl (by kernel_rfl) (by kernel_rfl) ?_
 refine WC.seq <| WC.region <| WL.box rfl rfl (rvA z) Z rfl rfl (fun b1 w Z => ?_)
 refine WL.r 2 rfl <| WL.nil <| WC.seq <| WC.region ?_
 have hvr := hz.t.val_rng h
 replace Z : St g (Sh 64 1 (Za z.T.s.rel) z.ra z.rc :: Sh 64 1 (Za (z.T.s.gen.drop 1)) z.ga z.gc :: Sh 4 1 (Zc (z.T.s.used.drop 1)) z.oa z.oc :: Sh 64 1 (Za (z.T.vals.drop 1)) z.va z.vc :: Sh 56 1 (Zt z.P) z.pa z.pc :: Zn YO z.P :: Sh 4 1 (Zc z.B) z.ba z.bc :: Sh 49 1 (ZI z.LL) z.la z.lc :: Zn Jk z.LL :: Ze b1 (rvA z) 43 :: Zn Z6 [z] :: L) w := Z.rsGet 1 rfl
 refine WL.r 1 rfl <| WL.ldC rfl rfl [.int .i64 z.T.s.cap, .slice z.ra (Za z.T.s.rel).length z.rc, .int .i64 (z.T.s.fresh + 1), .slice z.ga (Za (z.T.s.gen.drop 1)).length z.gc, .slice z.oa (Zc (z.T.s.used.drop 1)).length z.oc, .slice z.va (Za (z.T.vals.drop 1)).length z.vc] ZD rfl (Z.part 9 rfl rfl) <| WL.r 1 rfl <| WL.call rfl rfl (Zho (T := z.T) (ra := z.ra) (ga := z.ga) (oa := z.oa) (va := z.va) (rc := z.rc) (gc := z.gc) (oc := z.oc) (vc := z.vc) (h := h) (hT := hz.t) (hh := hh) (hn := hn) (Z := Z)) rfl ?_
 clear Z; rintro _ w ⟨rfl, Z⟩
 replace Z := Z.n11 L (a0 := Sh 64 1 (Za z.T.s.rel) z.ra z.rc) (a1 := Sh 64 1 (Za (z.T.s.gen.drop 1)) z.ga z.gc) (a2 := Sh 4 1 (Zc (z.T.s.used.drop 1)) z.oa z.oc) (a3 := Sh 64 1 (Za (z.T.vals.drop 1)) z.va z.vc) (a4 := Sh 56 1 (Zt z.P) z.pa z.pc) (a5 := Zn YO z.P) (a6 := Sh 4 1 (Zc z.B) z.ba z.bc) (a7 := Sh 49 1 (ZI z.LL) z.la z.lc) (a8 := Zn Jk z.LL) (a9 := Ze b1 (rvA z) 43) rfl
 refine WL.r 5 rfl <| WL.nil <| WC.seq <| WC.region <| WL.r 2 rfl <| WL.nw 16 rfl (Zr (by omega)) ?_
 refine WL.r 3 rfl <| WL.nil <| WC.ret ?_
 refine ⟨[.int .i64 (z.T.val h), .int .i64 0], ⟨rfl, rfl⟩, ?_⟩
 replace Z := (Z.sel 10 [] rfl)
 exact ⟨rfl, Z⟩
theorem QK {g w : World} {L : List HP} (z : RSt) (h : Int) (hz : ROk z) (hh : 0 ≤ h ∧ h ≤ 18446744073709551615) (hn : z.T.s.opn h = false) (Z : St g (Zn Z6 [z] :: L) w) :
  Sp Tryz.prog 65 [.agg (rvA z), .int .u64 h] w (fun v w' => v = .tuple #[.int .i64 0, .int .i64 5] ∧ St g (Zn Z6 [z] :: L) w') := by
 refine Sp.enter Tryz.func65 rfl (by kernel_rfl) (by kernel_rfl) ?_
 refine WC.seq <| WC.region <| WL.box rfl rfl (rvA z) Z rfl rfl (fun b1 w Z => ?_)
 refine WL.r 2 rfl <| WL.nil <| WC.seq <| WC.region ?_
 replace Z : St g (Sh 64 1 (Za z.T.s.rel) z.ra z.rc :: Sh 64 1 (Za (z.T.s.gen.drop 1)) z.ga z.gc :: Sh 4 1 (Zc (z.T.s.used.drop 1)) z.oa z.oc :: Sh 64 1 (Za (z.T.vals.drop 1)) z.va z.vc :: Sh 56 1 (Zt z.P) z.pa z.pc :: Zn YO z.P :: Sh 4 1 (Zc z.B) z.ba z.bc :: Sh 49 1 (ZI z.LL) z.la z.lc :: Zn Jk z.LL :: Ze b1 (rvA z) 43 :: Zn Z6 [z] :: L) w := Z.rsGet 1 rfl
 refine WL.r 1 rfl <| WL.ldC rfl rfl [.int .i64 z.T.s.cap, .slice z.ra (Za z.T.s.rel).length z.rc, .int .i64 (z.T.s.fresh + 1), .slice z.ga (Za (z.T.s.gen.drop 1)).length z.gc, .slice z.oa (Zc (z.T.s.used.drop 1)).length z.oc, .slice z.va (Za (z.T.vals.drop 1)).length z.vc] ZD rfl (Z.part 9 rfl rfl) <| WL.r 1 rfl <| WL.call rfl rfl (Zfl (T := z.T) (ra := z.ra) (ga := z.ga) (oa := z.oa) (va := z.va) (rc := z.rc) (gc := z.gc) (oc := z.oc) (vc := z.vc) (h := h) (hT := hz.t) (hh := hh) (hn := hn) (Z := Z)) rfl ?_
 clear Z; rintro _ w ⟨rfl, Z⟩
 replace Z := Z.n11 L (a0 := Sh 64 1 (Za z.T.s.rel) z.ra z.rc) (a1 := Sh 64 1 (Za (z.T.s.gen.drop 1)) z.ga z.gc) (a2 := Sh 4 1 (Zc (z.T.s.used.drop 1)) z.oa z.oc) (a3 := Sh 64 1 (Za (z.T.vals.drop 1)) z.va z.vc) (a4 := Sh 56 1 (Zt z.P) z.pa z.pc) (a5 := Zn YO z.P) (a6 := Sh 4 1 (Zc z.B) z.ba z.bc) (a7 := Sh 49 1 (ZI z.LL) z.la z.lc) (a8 := Zn Jk z.LL) (a9 := Ze b1 (rvA z) 43) rfl
 refine WL.r 5 rfl <| WL.nil <| WC.seq <| WC.region <| WL.r 2 rfl <| WL.nw 16 rfl (Zr (by omega)) ?_
 refine WL.r 3 rfl <| WL.nil <| WC.ret ?_
 refine ⟨[.int .i64 0, .int .i64 5], ⟨rfl, rfl⟩, ?_⟩
 replace Z := (Z.sel 10 [] rfl)
 exact ⟨rfl, Z⟩
theorem Zfh {g w : World} {L : List HP} (z : RSt) (h : Int) (k : Nat) (x : LsE) (hz : ROk z) (hh : 0 ≤ h ∧ h ≤ 18446744073709551615) (hn : z.T.s.opn h = true) (hx : z.LL[k]? = some x) (hk : z.T.val h = (k : Int) + 1) (Z : St g (Zn Z6 [z] :: L) w) :
  Sp Tryz.prog 63 [.agg (rvA z), .int .u64 h] w (fun v w' => v = .tuple #[.slice x.a (Zq x.es).length x.c, .int .i64 0] ∧ St g (Zn Z6 [z] :: Sh 121 2 (Zq x.es) x.a x.c :: L) w') := by
 refine Sp.enter Tryz.func63 rfl (by kernel_rfl) (by kernel_rfl) ?_
 have _ := hk
 refine WC.seq <| WC.region <| WL.box rfl rfl (rvA z) Z rfl rfl (fun b1 w Z => ?_)
 refine WL.r 2 rfl <| WL.nil <| WC.seq <| WC.region ?_
 have hkl := (List.getElem?_eq_some_iff.1 hx).1; have hzl := hz.l; have hzn := hz.n; have hel := Zf9 z.LL
 refine WL.ldF rfl rfl 0 Z rfl rfl Zy <| WL.r 1 rfl <| WL.call rfl rfl (Zap (z := z) (h := h) (hz := hz) (hh := hh) (hn := hn) (Z := (Z.sel 2 [1, 0] rfl))) rfl ?_
 clear Z; rintro _ w ⟨rfl, Z⟩
 replace Z := Z.n2 L (a1 := Ze b1 (rvA z) 43) rfl
 refine WL.r 5 rfl <| WL.nil <| WC.seq <| WC.seq <| WC.region <| WL.r 2 rfl <| WL.nil <| WC.ifF rfl (decide_eq_false ((by decide))) ?_
 refine WC.skip <| WC.seq <| WC.region ?_
 replace Z : St g (Sh 64 1 (Za z.T.s.rel) z.ra z.rc :: Sh 64 1 (Za (z.T.s.gen.drop 1)) z.ga z.gc :: Sh 4 1 (Zc (z.T.s.used.drop 1)) z.oa z.oc :: Sh 64 1 (Za (z.T.vals.drop 1)) z.va z.vc :: Sh 56 1 (Zt z.P) z.pa z.pc :: Zn YO z.P :: Sh 4 1 (Zc z.B) z.ba z.bc :: Sh 49 1 (ZI z.LL) z.la z.lc :: Zn Jk z.LL :: Zn Z6 [z] :: Ze b1 (rvA z) 43 :: L) w := Z.rsGet 0 rfl
 replace Z : St g (Sh 121 2 (Zq x.es) x.a x.c :: Sh 64 1 (Za z.T.s.rel) z.ra z.rc :: Sh 64 1 (Za (z.T.s.gen.drop 1)) z.ga z.gc :: Sh 4 1 (Zc (z.T.s.used.drop 1)) z.oa z.oc :: Sh 64 1 (Za (z.T.vals.drop 1)) z.va z.vc :: Sh 56 1 (Zt z.P) z.pa z.pc :: Zn YO z.P :: Sh 4 1 (Zc z.B) z.ba z.bc :: Sh 49 1 (ZI z.LL) z.la z.lc :: Zn Jk z.LL :: Zn Z6 [z] :: Ze b1 (rvA z) 43 :: L) w := Z.shsGet 8 rfl (List.mem_of_getElem? hx)
 refine WL.run 4 [.slice z.la (ZI z.LL).length z.lc] rfl (by exact Z.ld 11 rfl rfl) ?_
 refine WL.nw 20 rfl (Zr (by omega)) ?_
 refine WL.ix rfl rfl (i := (z.T.val h) - 1) (k) el_41 rfl rfl (by omega) (by omega) (Z.rdS 8 rfl (Zba hx)).1 ?_
 refine WL.run 3 [.slice x.a (Zq x.es).length x.c] rfl (by exact (Z.rdS 8 rfl (Zba hx)).2 0 _ rfl) ?_
 refine WL.nil ?_
 as_aux_lemma =>
 refine WC.ret ?_
 refine ⟨[.slice x.a (Zq x.es).length x.c, .int .i64 0], ⟨rfl, rfl⟩, ?_⟩
 replace Z := (Z.sel 12 [10, 0] rfl)
 exact ⟨rfl, Z⟩
theorem Zd3 {g w : World} {L : List HP} (z : RSt) (h : Int) (hz : ROk z) (hh : 0 ≤ h ∧ h ≤ 18446744073709551615) (hn : z.T.s.opn h = false) (Z : St g (Zn Z6 [z] :: L) w) :
  Sp Tryz.prog 63 [.agg (rvA z), .int .u64 h] w (fun v w' => v = .tuple #[.slice none 0 0, .int .i64 5] ∧ St g (Zn Z6 [z] :: L) w') := by
 refine Sp.enter Tryz.func63 rfl (by kernel_rfl) (by kernel_rfl) ?_
 refine WC.seq <| WC.region <| WL.box rfl rfl (rvA z) Z rfl rfl (fun b1 w Z => ?_)
 refine WL.r 2 rfl <| WL.nil <| WC.seq <| WC.region <| WL.ldF rfl rfl 0 Z rfl rfl Zy <| WL.r 1 rfl <| WL.call rfl rfl (QK (z := z) (h := h) (hz := hz) (hh := hh) (hn := hn) (Z := (Z.sel 2 [1, 0] rfl))) rfl ?_
 clear Z; rintro _ w ⟨rfl, Z⟩
 replace Z := Z.n2 L (a1 := Ze b1 (rvA z) 43) rfl
 refine WL.r 5 rfl <| WL.nil <| WC.seq <| WC.seq <| WC.region <| WL.r 2 rfl <| WL.nil <| WC.ifT rfl (decide_eq_true ((by decide))) ?_
 refine WC.seq <| WC.region <| WL.r 3 rfl <| WL.nil ?_
 as_aux_lemma =>
 refine WC.ret ?_
 refine ⟨[.slice none 0 0, .int .i64 5], ⟨rfl, rfl⟩, ?_⟩
 replace Z := (Z.sel 2 [0] rfl)
 exact ⟨rfl, Z⟩
theorem Zci {g w : World} {L : List HP} (z : RSt) (hz : ROk z) (Z : St g (Zn Z6 [z] :: L) w) :
  Sp Tryz.prog 92 [.agg (rvA z)] w (fun v w' => v = .int .i64 z.room ∧ St g (Zn Z6 [z] :: L) w') := by
 refine Sp.enter Tryz.func92 rfl (by kernel_rfl) (by kernel_rfl) ?_
 refine WC.seq <| WC.region <| WL.box rfl rfl (rvA z) Z rfl rfl (fun b1 w Z => ?_)
 refine WL.r 1 rfl <| WL.nil <| WC.seq <| WC.plan [([0, 2, 7, 1, 3, 8, 9], some (4, [0, 1, 7, 8, 9])), ([5, 6], some (10, [0, 1, 5, 6])), ([11, 12, 13], none)] (by kernel_rfl) (by kernel_rfl) ?_
 have hzn := hz.n; have hzc := hz.c; have hpl := Xl z.P z.B; have hnl := (Z5 (Z1 z.P z.B)).2.1; have hil := Zh (ZU (Z1 z.P z.B)); have hor := Zf7 hz.t.s; have hul := Zk (SM.order z.T.s)
 replace Z : St g (Sh 64 1 (Za z.T.s.rel) z.ra z.rc :: Sh 64 1 (Za (z.T.s.gen.drop 1)) z.ga z.gc :: Sh 4 1 (Zc (z.T.s.used.drop 1)) z.oa z.oc :: Sh 64 1 (Za (z.T.vals.drop 1)) z.va z.vc :: Sh 56 1 (Zt z.P) z.pa z.pc :: Zn YO z.P :: Sh 4 1 (Zc z.B) z.ba z.bc :: Sh 49 1 (ZI z.LL) z.la z.lc :: Zn Jk z.LL :: Ze b1 (rvA z) 43 :: Zn Z6 [z] :: L) w := Z.rsGet 1 rfl
 refine WQ.run 4 [.int .i64 z.cap] rfl (by exact Z.ld 9 rfl rfl) ?_
 refine WQ.ldC rfl rfl [.int .i64 z.cap, .slice z.pa (Zt z.P).length z.pc, .slice z.ba (Zc z.B).length z.bc] Z4 rfl (Z.part 9 rfl rfl) <| WQ.r 1 rfl <| WQ.ldC rfl rfl [.int .i64 z.T.s.cap, .slice z.ra (Za z.T.s.rel).length z.rc, .int .i64 (z.T.s.fresh + 1), .slice z.ga (Za (z.T.s.gen.drop 1)).length z.gc, .slice z.oa (Zc (z.T.s.used.drop 1)).length z.oc] Z0 rfl (Z.part 9 rfl rfl) <| WQ.nil ?_
 intro m1
 replace Z := Z.drewN m1; generalize hwm1 : World.drewN _ _ = w at *; clear hwm1
 refine WL.call rfl rfl (Je (cap := z.cap) (P := z.P) (a := z.pa) (c := z.pc) (B := z.B) (b := z.ba) (d := z.bc) (hP := hz.p) (hl := (by omega)) (hB := hz.b) (Z := (Z.sel 7 [4, 4, 4, 0, 0, 0, 0] rfl))) rfl ?_
 clear Z; rintro _ w ⟨a1, c1, rfl, Z⟩
 replace Z := Z.n12 L (a0 := Zf 3 1 (Zb (ZU (Z1 z.P z.B))) a1 c1) (a1 := Sh 56 1 (Zt z.P) z.pa z.pc) (a2 := Zn YO z.P) (a3 := Sh 4 1 (Zc z.B) z.ba z.bc) (a4 := Sh 64 1 (Za z.T.s.rel) z.ra z.rc) (a5 := Sh 64 1 (Za (z.T.s.gen.drop 1)) z.ga z.gc) (a6 := Sh 4 1 (Zc (z.T.s.used.drop 1)) z.oa z.oc) (a7 := Sh 64 1 (Za (z.T.vals.drop 1)) z.va z.vc) (a8 := Sh 49 1 (ZI z.LL) z.la z.lc) (a9 := Zn Jk z.LL) (a10 := Ze b1 (rvA z) 43) rfl
 refine WL.nil ?_
 refine ⟨by exact ⟨RQ.pure rfl rfl rfl rfl, RQ.load rfl rfl rfl rfl (Z.ld 10 rfl rfl), RQ.pure rfl rfl rfl rfl, RQ.pure rfl rfl rfl rfl, RQ.ldC rfl rfl [.int .i64 z.T.s.cap, .slice z.ra (Za z.T.s.rel).length z.rc, .int .i64 (z.T.s.fresh + 1), .slice z.ga (Za (z.T.s.gen.drop 1)).length z.gc, .slice z.oa (Zc (z.T.s.used.drop 1)).length z.oc] Z0 rfl (Z.part 10 rfl rfl) rfl rfl⟩, ?_⟩
 refine WQ.r 2 rfl <| WQ.nw 9 rfl (Zr (by omega)) ?_
 refine WQ.nil ?_
 intro m2
 replace Z := Z.drewN m2; generalize hwm2 : World.drewN _ _ = w at *; clear hwm2
 refine WL.call rfl rfl (Zmk (S := z.T.s) (ra := z.ra) (ga := z.ga) (oa := z.oa) (rc := z.rc) (gc := z.gc) (oc := z.oc) (hO := hz.t.s) (Z := (Z.sel 7 [4, 4, 4, 0, 0, 0, 0] rfl))) rfl ?_
 clear Z; rintro _ w ⟨a2, c2, rfl, Z⟩
 replace Z := Z.n13 L (a0 := Zf 64 1 (Za (SM.order z.T.s)) a2 c2) rfl
 refine WL.nil ?_
 refine ⟨by exact ⟨RQ.pure rfl rfl rfl rfl, RQ.load rfl rfl rfl rfl (Z.ld 11 rfl rfl), RQ.pure rfl rfl rfl rfl, RQ.pure rfl rfl rfl (congrArg (Value.int .i64) (Eq.symm (Zr (by omega))))⟩, ?_⟩
 refine WQ.r 3 rfl <| WQ.nil ?_
 intro m3
 replace Z := Z.drewN m3; generalize hwm3 : World.drewN _ _ = w at *; clear hwm3
 as_aux_lemma =>
 refine WC.ret ?_
 refine ⟨[.int .i64 (min (z.cap - (List.length (Zb (ZU (Z1 z.P z.B))) : Int)) (List.length (Za (SM.order z.T.s)) : Int))], rfl, ?_⟩
 replace Z := (Z.sel 12 [] rfl)
 exact ⟨by unfold RSt.room; rw [hil, hul, hor]; rfl, Z⟩
theorem Zfi {g w : World} {L : List HP} (z : RSt) (h : Int) (hz : ROk z) (hh : 0 ≤ h ∧ h ≤ 18446744073709551615) (hn : z.T.s.opn h = false) (Z : St g (Zn Z6 [z] :: L) w) :
  Sp Tryz.prog 69 [.agg (rvA z), .int .u64 h] w (fun v w' => v = .tuple #[.agg (rvA z), .int .i64 5] ∧ St g (Zn Z6 [z] :: L) w') := by
 refine Sp.enter Tryz.func69 rfl (by kernel_rfl) (by kernel_rfl) ?_
 refine WC.seq <| WC.region <| WL.box rfl rfl (rvA z) Z rfl rfl (fun b1 w Z => ?_)
 refine WL.new rfl rfl XE Z (fun b2 w Z => ?_)
 refine WL.r 1 rfl <| WL.nil <| WC.seq <| WC.region ?_
 replace Z : St g (Sh 64 1 (Za z.T.s.rel) z.ra z.rc :: Sh 64 1 (Za (z.T.s.gen.drop 1)) z.ga z.gc :: Sh 4 1 (Zc (z.T.s.used.drop 1)) z.oa z.oc :: Sh 64 1 (Za (z.T.vals.drop 1)) z.va z.vc :: Sh 56 1 (Zt z.P) z.pa z.pc :: Zn YO z.P :: Sh 4 1 (Zc z.B) z.ba z.bc :: Sh 49 1 (ZI z.LL) z.la z.lc :: Zn Jk z.LL :: Ze b2 #[.int .i64 0, .int .i64 0, .slice none 0 0, .int .i64 0, .slice none 0 0, .slice none 0 0, .slice none 0 0, .int .i64 0, .slice none 0 0, .slice none 0 0, .slice none 0 0] 43 :: Ze b1 (rvA z) 43 :: Zn Z6 [z] :: L) w := Z.rsGet 2 rfl
 refine WL.r 1 rfl <| WL.ldC rfl rfl [.int .i64 z.T.s.cap, .slice z.ra (Za z.T.s.rel).length z.rc, .int .i64 (z.T.s.fresh + 1), .slice z.ga (Za (z.T.s.gen.drop 1)).length z.gc, .slice z.oa (Zc (z.T.s.used.drop 1)).length z.oc, .slice z.va (Za (z.T.vals.drop 1)).length z.vc] ZD rfl (Z.part 10 rfl rfl) <| WL.r 1 rfl <| WL.call rfl rfl (Zcx (T := z.T) (ra := z.ra) (ga := z.ga) (oa := z.oa) (va := z.va) (rc := z.rc) (gc := z.gc) (oc := z.oc) (vc := z.vc) (h := h) (hT := hz.t) (hh := hh) (hn := hn) (Z := Z)) rfl ?_
 clear Z; rintro _ w ⟨rfl, Z⟩
 replace Z := Z.n12 L (a0 := Sh 64 1 (Za z.T.s.rel) z.ra z.rc) (a1 := Sh 64 1 (Za (z.T.s.gen.drop 1)) z.ga z.gc) (a2 := Sh 4 1 (Zc (z.T.s.used.drop 1)) z.oa z.oc) (a3 := Sh 64 1 (Za (z.T.vals.drop 1)) z.va z.vc) (a4 := Sh 56 1 (Zt z.P) z.pa z.pc) (a5 := Zn YO z.P) (a6 := Sh 4 1 (Zc z.B) z.ba z.bc) (a7 := Sh 49 1 (ZI z.LL) z.la z.lc) (a8 := Zn Jk z.LL) (a9 := Ze b2 #[.int .i64 0, .int .i64 0, .slice none 0 0, .int .i64 0, .slice none 0 0, .slice none 0 0, .slice none 0 0, .int .i64 0, .slice none 0 0, .slice none 0 0, .slice none 0 0] 43) (a10 := Ze b1 (rvA z) 43) rfl
 refine WL.r 4 rfl <| WL.new rfl rfl JG Z (fun b3 w Z => ?_)
 refine WL.stF rfl rfl rfl 0 Z rfl rfl rfl rfl rfl ZD (fun w Z => ?_)
 replace Z := Z.n13 L (a0 := Ze b3 #[.int .i64 z.T.s.cap, .slice z.ra (Za z.T.s.rel).length z.rc, .int .i64 (z.T.s.fresh + 1), .slice z.ga (Za (z.T.s.gen.drop 1)).length z.gc, .slice z.oa (Zc (z.T.s.used.drop 1)).length z.oc, .slice z.va (Za (z.T.vals.drop 1)).length z.vc] 37) rfl
 refine WL.r 2 rfl <| WL.nil <| WC.seq <| WC.seq <| WC.region <| WL.r 2 rfl <| WL.nil ?_
 as_aux_lemma =>
 refine WC.ifT rfl (decide_eq_true ((by decide))) ?_
 refine WC.seq <| WC.region <| WL.ldF rfl rfl 11 Z rfl rfl Zy <| WL.r 1 rfl <| WL.stF rfl rfl rfl 10 Z rfl rfl rfl rfl rfl Zy (fun w Z => ?_)
 replace Z := Z.n13 L (a10 := Ze b2 (rvA z) 43) rfl
 refine WL.r 1 rfl <| WL.nil <| WC.ret ?_
 refine ⟨[.agg (rvA z), .int .i64 5], ⟨⟨_, rfl, Z.lvF 10 rfl Zy⟩, rfl⟩, ?_⟩
 replace Z := (Z.sel 12 [] rfl)
 exact ⟨rfl, Z⟩
theorem Zhe {g w : World} {L : List HP} (z : RSt) (h : Int) (hz : ROk z) (hh : 0 ≤ h ∧ h ≤ 18446744073709551615) (hn : z.T.s.opn h = true) (hl : ZB z.B (z.T.val h) = true) (Z : St g (Zn Z6 [z] :: L) w) :
  Sp Tryz.prog 69 [.agg (rvA z), .int .u64 h] w (fun v w' => ∃ (ra2 oa2 ba2 : Option Addr) (rc2 oc2 bc2 : Nat), v = .tuple #[.agg #[.int .i64 (z.rel h ra2 oa2 ba2 rc2 oc2 bc2).cap, .int .i64 (z.rel h ra2 oa2 ba2 rc2 oc2 bc2).T.s.cap, .slice (z.rel h ra2 oa2 ba2 rc2 oc2 bc2).ra (Za (z.rel h ra2 oa2 ba2 rc2 oc2 bc2).T.s.rel).length (z.rel h ra2 oa2 ba2 rc2 oc2 bc2).rc, .int .i64 ((z.rel h ra2 oa2 ba2 rc2 oc2 bc2).T.s.fresh + 1), .slice (z.rel h ra2 oa2 ba2 rc2 oc2 bc2).ga (List.length (Za ((z.rel h ra2 oa2 ba2 rc2 oc2 bc2).T.s.gen.drop 1))) (z.rel h ra2 oa2 ba2 rc2 oc2 bc2).gc, .slice (z.rel h ra2 oa2 ba2 rc2 oc2 bc2).oa (List.length (Zc ((z.rel h ra2 oa2 ba2 rc2 oc2 bc2).T.s.used.drop 1))) (z.rel h ra2 oa2 ba2 rc2 oc2 bc2).oc, .slice (z.rel h ra2 oa2 ba2 rc2 oc2 bc2).va (List.length (Za ((z.rel h ra2 oa2 ba2 rc2 oc2 bc2).T.vals.drop 1))) (z.rel h ra2 oa2 ba2 rc2 oc2 bc2).vc, .int .i64 (z.rel h ra2 oa2 ba2 rc2 oc2 bc2).cap, .slice (z.rel h ra2 oa2 ba2 rc2 oc2 bc2).pa (Zt (z.rel h ra2 oa2 ba2 rc2 oc2 bc2).P).length (z.rel h ra2 oa2 ba2 rc2 oc2 bc2).pc, .slice (z.rel h ra2 oa2 ba2 rc2 oc2 bc2).ba (Zc (z.rel h ra2 oa2 ba2 rc2 oc2 bc2).B).length (z.rel h ra2 oa2 ba2 rc2 oc2 bc2).bc, .slice (z.rel h ra2 oa2 ba2 rc2 oc2 bc2).la (ZI (z.rel h ra2 oa2 ba2 rc2 oc2 bc2).LL).length (z.rel h ra2 oa2 ba2 rc2 oc2 bc2).lc], .int .i64 0] ∧ St g (Zn Z6 [z.rel h ra2 oa2 ba2 rc2 oc2 bc2] :: L) w') := by
 refine Sp.enter Tryz.func69 rfl (by kernel_rfl) (by kernel_rfl) ?_
 refine WC.seq <| WC.region <| WL.box rfl rfl (rvA z) Z rfl rfl (fun b1 w Z => ?_)
 refine WL.new rfl rfl XE Z (fun b2 w Z => ?_)
 refine WL.r 1 rfl <| WL.nil <| WC.seq <| WC.region ?_
 have hvr := hz.t.val_rng h; have hzn := hz.n; have hzb := hz.b
 replace Z : St g (Sh 64 1 (Za z.T.s.rel) z.ra z.rc :: Sh 64 1 (Za (z.T.s.gen.drop 1)) z.ga z.gc :: Sh 4 1 (Zc (z.T.s.used.drop 1)) z.oa z.oc :: Sh 64 1 (Za (z.T.vals.drop 1)) z.va z.vc :: Sh 56 1 (Zt z.P) z.pa z.pc :: Zn YO z.P :: Sh 4 1 (Zc z.B) z.ba z.bc :: Sh 49 1 (ZI z.LL) z.la z.lc :: Zn Jk z.LL :: Ze b2 #[.int .i64 0, .int .i64 0, .slice none 0 0, .int .i64 0, .slice none 0 0, .slice none 0 0, .slice none 0 0, .int .i64 0, .slice none 0 0, .slice none 0 0, .slice none 0 0] 43 :: Ze b1 (rvA z) 43 :: Zn Z6 [z] :: L) w := Z.rsGet 2 rfl
 refine WL.r 1 rfl <| WL.ldC rfl rfl [.int .i64 z.T.s.cap, .slice z.ra (Za z.T.s.rel).length z.rc, .int .i64 (z.T.s.fresh + 1), .slice z.ga (Za (z.T.s.gen.drop 1)).length z.gc, .slice z.oa (Zc (z.T.s.used.drop 1)).length z.oc, .slice z.va (Za (z.T.vals.drop 1)).length z.vc] ZD rfl (Z.part 10 rfl rfl) <| WL.r 1 rfl <| WL.call rfl rfl (Zl9 (T := z.T) (ra := z.ra) (ga := z.ga) (oa := z.oa) (va := z.va) (rc := z.rc) (gc := z.gc) (oc := z.oc) (vc := z.vc) (h := h) (hT := hz.t) (hh := hh) (hn := hn) (Z := Z)) rfl ?_
 clear Z; rintro _ w ⟨ra1, oa1, rc1, oc1, rfl, Z⟩
 replace Z := Z.n12 L (a0 := Sh 64 1 (Za (z.T.close h).s.rel) ra1 rc1) (a1 := Sh 64 1 (Za ((z.T.close h).s.gen.drop 1)) z.ga z.gc) (a2 := Sh 4 1 (Zc ((z.T.close h).s.used.drop 1)) oa1 oc1) (a3 := Sh 64 1 (Za ((z.T.close h).vals.drop 1)) z.va z.vc) (a4 := Sh 56 1 (Zt z.P) z.pa z.pc) (a5 := Zn YO z.P) (a6 := Sh 4 1 (Zc z.B) z.ba z.bc) (a7 := Sh 49 1 (ZI z.LL) z.la z.lc) (a8 := Zn Jk z.LL) (a9 := Ze b2 #[.int .i64 0, .int .i64 0, .slice none 0 0, .int .i64 0, .slice none 0 0, .slice none 0 0, .slice none 0 0, .int .i64 0, .slice none 0 0, .slice none 0 0, .slice none 0 0] 43) (a10 := Ze b1 (rvA z) 43) rfl
 refine WL.r 4 rfl <| WL.new rfl rfl JG Z (fun b3 w Z => ?_)
 refine WL.stF rfl rfl rfl 0 Z rfl rfl rfl rfl rfl ZD (fun w Z => ?_)
 replace Z := Z.n13 L (a0 := Ze b3 #[.int .i64 (z.T.close h).s.cap, .slice ra1 (Za (z.T.close h).s.rel).length rc1, .int .i64 ((z.T.close h).s.fresh + 1), .slice z.ga (List.length (Za ((z.T.close h).s.gen.drop 1))) z.gc, .slice oa1 (List.length (Zc ((z.T.close h).s.used.drop 1))) oc1, .slice z.va (List.length (Za ((z.T.close h).vals.drop 1))) z.vc] 37) rfl
 refine WL.r 2 rfl <| WL.nil <| WC.seq <| WC.seq <| WC.region <| WL.r 2 rfl <| WL.nil ?_
 as_aux_lemma =>
 refine WC.ifF rfl (decide_eq_false ((by decide))) ?_
 refine WC.skip <| WC.seq <| WC.region <| WL.r 1 rfl <| WL.ldC rfl rfl [.int .i64 z.cap, .slice z.pa (Zt z.P).length z.pc, .slice z.ba (Zc z.B).length z.bc] Z4 rfl (Z.part 11 rfl rfl) <| WL.r 2 rfl <| WL.nw 27 rfl (Zr (by omega)) ?_
 refine WL.call rfl rfl (Zl8 (cap := z.cap) (P := z.P) (a := z.pa) (c := z.pc) (B := z.B) (b := z.ba) (d := z.bc) (n := z.T.val h) (hB := (by omega)) (h0 := hl) (Z := (Z.sel 8 [7, 0, 0, 0, 0, 0, 0, 0] rfl))) rfl ?_
 clear Z; rintro _ w ⟨b4, d1, rfl, Z⟩
 replace Z := Z.n13 L (a0 := Sh 4 1 (Zc (z.B.set ((z.T.val h) - 1).toNat false)) b4 d1) rfl
 refine WL.r 3 rfl <| WL.new rfl rfl Zae Z (fun b5 w Z => ?_)
 refine WL.stF rfl rfl rfl 0 Z rfl rfl rfl rfl rfl Z4 (fun w Z => ?_)
 replace Z := Z.n14 L (a0 := Ze b5 #[.int .i64 z.cap, .slice z.pa (Zt z.P).length z.pc, .slice b4 (List.length (Zc (z.B.set ((z.T.val h) - 1).toNat false))) d1] 40) rfl
 refine WL.r 1 rfl <| WL.nil <| WC.seq <| WC.plan [([0, 1, 2], some (3, [1])), ([4], some (5, []))] (by kernel_rfl) (by kernel_rfl) ?_
 refine WQ.ldF rfl rfl 2 Z rfl rfl ZD <| WQ.ldF rfl rfl 0 Z rfl rfl Z4 <| WQ.r 1 rfl <| WQ.nil ?_
 intro m1
 replace Z := Z.drewN m1; generalize hwm1 : World.drewN _ _ = w at *; clear hwm1
 refine WL.stP (ds := #[.int .i64 z.cap, .int .i64 (z.T.close h).s.cap, .slice ra1 (Za (z.T.close h).s.rel).length rc1, .int .i64 ((z.T.close h).s.fresh + 1), .slice z.ga (List.length (Za ((z.T.close h).s.gen.drop 1))) z.gc, .slice oa1 (List.length (Zc ((z.T.close h).s.used.drop 1))) oc1, .slice z.va (List.length (Za ((z.T.close h).vals.drop 1))) z.vc, .int .i64 z.cap, .slice z.pa (Zt z.P).length z.pc, .slice z.ba (Zc z.B).length z.bc, .slice z.la (ZI z.LL).length z.lc]) rfl rfl rfl 12 Z rfl rfl rfl rfl (Nat.le_of_ble_eq_true rfl) rfl ZD (fun w Z => ?_)
 replace Z := Z.n14 L (a12 := Ze b1 #[.int .i64 z.cap, .int .i64 (z.T.close h).s.cap, .slice ra1 (Za (z.T.close h).s.rel).length rc1, .int .i64 ((z.T.close h).s.fresh + 1), .slice z.ga (List.length (Za ((z.T.close h).s.gen.drop 1))) z.gc, .slice oa1 (List.length (Zc ((z.T.close h).s.used.drop 1))) oc1, .slice z.va (List.length (Za ((z.T.close h).vals.drop 1))) z.vc, .int .i64 z.cap, .slice z.pa (Zt z.P).length z.pc, .slice z.ba (Zc z.B).length z.bc, .slice z.la (ZI z.LL).length z.lc] 43) rfl
 refine WL.nil ?_
 refine ⟨by exact RQ.ldF rfl rfl 0 Z rfl rfl Z4 rfl rfl, ?_⟩
 refine WQ.r 1 rfl <| WQ.nil ?_
 intro m2
 replace Z := Z.drewN m2; generalize hwm2 : World.drewN _ _ = w at *; clear hwm2
 refine WL.stP (ds := #[.int .i64 z.cap, .int .i64 (z.T.close h).s.cap, .slice ra1 (Za (z.T.close h).s.rel).length rc1, .int .i64 ((z.T.close h).s.fresh + 1), .slice z.ga (List.length (Za ((z.T.close h).s.gen.drop 1))) z.gc, .slice oa1 (List.length (Zc ((z.T.close h).s.used.drop 1))) oc1, .slice z.va (List.length (Za ((z.T.close h).vals.drop 1))) z.vc, .int .i64 z.cap, .slice z.pa (Zt z.P).length z.pc, .slice b4 (List.length (Zc (z.B.set ((z.T.val h) - 1).toNat false))) d1, .slice z.la (ZI z.LL).length z.lc]) rfl rfl rfl 12 Z rfl rfl rfl rfl (Nat.le_of_ble_eq_true rfl) rfl Z4 (fun w Z => ?_)
 replace Z := Z.n14 L (a12 := Ze b1 #[.int .i64 z.cap, .int .i64 (z.T.close h).s.cap, .slice ra1 (Za (z.T.close h).s.rel).length rc1, .int .i64 ((z.T.close h).s.fresh + 1), .slice z.ga (List.length (Za ((z.T.close h).s.gen.drop 1))) z.gc, .slice oa1 (List.length (Zc ((z.T.close h).s.used.drop 1))) oc1, .slice z.va (List.length (Za ((z.T.close h).vals.drop 1))) z.vc, .int .i64 z.cap, .slice z.pa (Zt z.P).length z.pc, .slice b4 (List.length (Zc (z.B.set ((z.T.val h) - 1).toNat false))) d1, .slice z.la (ZI z.LL).length z.lc] 43) rfl
 refine WL.nil ?_
 refine ⟨by exact trivial, ?_⟩
 intro m3
 replace Z := Z.drewN m3; generalize hwm3 : World.drewN _ _ = w at *; clear hwm3
 as_aux_lemma =>
 refine WC.seq <| WC.region ?_
 replace Z : St g (Zn Z6 [z.rel h ra1 oa1 b4 rc1 oc1 d1] :: Ze b5 #[.int .i64 z.cap, .slice z.pa (Zt z.P).length z.pc, .slice b4 (List.length (Zc (z.B.set ((z.T.val h) - 1).toNat false))) d1] 40 :: Sh 4 1 (Zc (z.B.set ((z.T.val h) - 1).toNat false)) b4 d1 :: Ze b3 #[.int .i64 (z.T.close h).s.cap, .slice ra1 (Za (z.T.close h).s.rel).length rc1, .int .i64 ((z.T.close h).s.fresh + 1), .slice z.ga (List.length (Za ((z.T.close h).s.gen.drop 1))) z.gc, .slice oa1 (List.length (Zc ((z.T.close h).s.used.drop 1))) oc1, .slice z.va (List.length (Za ((z.T.close h).vals.drop 1))) z.vc] 37 :: Sh 64 1 (Za (z.T.close h).s.rel) ra1 rc1 :: Sh 64 1 (Za ((z.T.close h).s.gen.drop 1)) z.ga z.gc :: Sh 4 1 (Zc ((z.T.close h).s.used.drop 1)) oa1 oc1 :: Sh 64 1 (Za ((z.T.close h).vals.drop 1)) z.va z.vc :: Sh 56 1 (Zt z.P) z.pa z.pc :: Zn YO z.P :: Sh 49 1 (ZI z.LL) z.la z.lc :: Zn Jk z.LL :: Ze b2 #[.int .i64 0, .int .i64 0, .slice none 0 0, .int .i64 0, .slice none 0 0, .slice none 0 0, .slice none 0 0, .int .i64 0, .slice none 0 0, .slice none 0 0, .slice none 0 0] 43 :: Ze b1 #[.int .i64 z.cap, .int .i64 (z.T.close h).s.cap, .slice ra1 (Za (z.T.close h).s.rel).length rc1, .int .i64 ((z.T.close h).s.fresh + 1), .slice z.ga (List.length (Za ((z.T.close h).s.gen.drop 1))) z.gc, .slice oa1 (List.length (Zc ((z.T.close h).s.used.drop 1))) oc1, .slice z.va (List.length (Za ((z.T.close h).vals.drop 1))) z.vc, .int .i64 z.cap, .slice z.pa (Zt z.P).length z.pc, .slice b4 (List.length (Zc (z.B.set ((z.T.val h) - 1).toNat false))) d1, .slice z.la (ZI z.LL).length z.lc] 43 :: Zn Z6 [z] :: L) w := Z.rsPut (z.rel h ra1 oa1 b4 rc1 oc1 d1) [3, 3, 3, 3, 3, 3, 1, 2, 2] rfl
 refine WL.ldF rfl rfl 13 Z rfl rfl Zy <| WL.stF rfl rfl rfl 12 Z rfl rfl rfl rfl rfl Zy (fun w Z => ?_)
 replace Z := Z.n15 L (a0 := Zn Z6 [z.rel h ra1 oa1 b4 rc1 oc1 d1]) (a12 := Ze b2 #[.int .i64 z.cap, .int .i64 (z.T.close h).s.cap, .slice ra1 (Za (z.T.close h).s.rel).length rc1, .int .i64 ((z.T.close h).s.fresh + 1), .slice z.ga (List.length (Za ((z.T.close h).s.gen.drop 1))) z.gc, .slice oa1 (List.length (Zc ((z.T.close h).s.used.drop 1))) oc1, .slice z.va (List.length (Za ((z.T.close h).vals.drop 1))) z.vc, .int .i64 z.cap, .slice z.pa (Zt z.P).length z.pc, .slice b4 (List.length (Zc (z.B.set ((z.T.val h) - 1).toNat false))) d1, .slice z.la (ZI z.LL).length z.lc] 43) rfl
 refine WL.r 1 rfl <| WL.nil <| WC.ret ?_
 refine ⟨[.agg #[.int .i64 z.cap, .int .i64 (z.T.close h).s.cap, .slice ra1 (Za (z.T.close h).s.rel).length rc1, .int .i64 ((z.T.close h).s.fresh + 1), .slice z.ga (List.length (Za ((z.T.close h).s.gen.drop 1))) z.gc, .slice oa1 (List.length (Zc ((z.T.close h).s.used.drop 1))) oc1, .slice z.va (List.length (Za ((z.T.close h).vals.drop 1))) z.vc, .int .i64 z.cap, .slice z.pa (Zt z.P).length z.pc, .slice b4 (List.length (Zc (z.B.set ((z.T.val h) - 1).toNat false))) d1, .slice z.la (ZI z.LL).length z.lc], .int .i64 0], ⟨⟨_, rfl, Z.lvF 12 rfl Zy⟩, rfl⟩, ?_⟩
 replace Z := (Z.sel 15 [0] rfl)
 exact ⟨_, _, _, _, _, _, rfl, Z⟩
theorem Zce {g w : World} {L : List HP} (z : RSt) (h : Int) (hz : ROk z) (hh : 0 ≤ h ∧ h ≤ 18446744073709551615) (Z : St g (Zn Z6 [z] :: L) w) :
  Sp Tryz.prog 65 [.agg (rvA z), .int .u64 h] w (fun v w' => v = .tuple #[.int .i64 (if z.T.s.opn h = true then z.T.val h else 0), .int .i64 (if z.T.s.opn h = true then 0 else 5)] ∧ St g (Zn Z6 [z] :: L) w') := by
 by_cases hn : z.T.s.opn h = true
 ·rw [if_pos hn, if_pos hn]; exact Zap z h hz hh hn Z
 ·rw [if_neg hn, if_neg hn]; exact QK z h hz hh (Bool.eq_false_iff.2 hn) Z
theorem Zfn {g w : World} {L : List HP} (z : RSt) (x : LsE) (y : Int) (pa2 : Option Addr) (pc2 : Nat) (hz : ROk z) (Z : St g (Zn Z6 [z] :: Sh 121 2 (Zq x.es) x.a x.c :: Sh 23 1 (Zg [y, y]) pa2 pc2 :: L) w) :
  Sp Tryz.prog 68 [.agg (rvA z), .slice x.a (Zq x.es).length x.c, .slice pa2 (Zg [y, y]).length pc2] w (fun v w' => v = .tuple #[.agg (rvA z), .int .u64 0, .int .i64 1] ∧ St g (Zn Z6 [z] :: Sh 121 2 (Zq x.es) x.a x.c :: Sh 23 1 (Zg [y, y]) pa2 pc2 :: L) w') := by
 refine Sp.enter Tryz.func68 rfl (by kernel_rfl) (by kernel_rfl) ?_
 have _ := hz
 refine WC.seq <| WC.region <| WL.box rfl rfl (rvA z) Z rfl rfl (fun b1 w Z => ?_)
 refine WL.new rfl rfl XE Z (fun b2 w Z => ?_)
 refine WL.r 2 rfl <| WL.nil <| WC.seq <| WC.seq <| WC.plan [([0, 1, 2, 3, 4, 5, 6, 7, 8, 11, 9, 12, 10, 13, 14, 15, 16], none)] (by kernel_rfl) (by kernel_rfl) ?_
 have hpl : (Zg [y, y]).length = 2 := rfl
 refine WQ.r 4 rfl <| WQ.reb 22 (.bool false) (congrArg Value.bool (decide_eq_false ((by omega)))) ?_
 refine WQ.ung rfl rfl rfl <| WQ.r 1 rfl <| WQ.ung rfl rfl rfl <| WQ.r 1 rfl <| WQ.ung rfl rfl rfl <| WQ.r 1 rfl <| WQ.ung rfl rfl rfl <| WQ.r 1 rfl <| WQ.reb 26 (.bool true) (congrArg Value.bool (decide_eq_true ((by omega)))) ?_
 refine WQ.ung rfl rfl rfl <| WQ.r 1 rfl <| WQ.ung rfl rfl rfl <| WQ.r 1 rfl <| WQ.ung rfl rfl rfl <| WQ.ix rfl rfl (i := 0) (0) el_45 rfl rfl (by omega) (by omega) (Z.rdS 4 rfl (Zm (k := 0) (x := y) rfl)).1 ?_
 refine WQ.ung rfl rfl rfl <| WQ.ix rfl rfl (i := 1) (1) el_45 rfl rfl (by omega) (by omega) (Z.rdS 4 rfl (Zm (k := 1) (x := y) rfl)).1 ?_
 refine WQ.ung rfl rfl rfl <| WQ.run 1 [.int .u64 y] rfl (by exact (Z.rdS 4 rfl (Zm (k := 0) (x := y) rfl)).2 0 _ rfl) ?_
 refine WQ.ung rfl rfl rfl <| WQ.run 1 [.int .u64 y] rfl (by exact (Z.rdS 4 rfl (Zm (k := 1) (x := y) rfl)).2 0 _ rfl) ?_
 refine WQ.ung rfl rfl rfl <| WQ.r 1 rfl <| WQ.ung rfl rfl rfl <| WQ.r 2 rfl <| WQ.nil ?_
 intro m1
 replace Z := Z.drewN m1; generalize hwm1 : World.drewN _ _ = w at *; clear hwm1
 as_aux_lemma =>
 refine WC.ifT rfl (decide_eq_true (rfl)) <| WC.seq <| WC.region <| WL.ldF rfl rfl 1 Z rfl rfl Zy <| WL.stF rfl rfl rfl 0 Z rfl rfl rfl rfl rfl Zy (fun w Z => ?_)
 replace Z := Z.n5 L (a0 := Ze b2 (rvA z) 43) (a1 := Ze b1 (rvA z) 43) rfl
 refine WL.r 2 rfl <| WL.nil <| WC.ret ?_
 refine ⟨[.agg (rvA z), .int .u64 0, .int .i64 1], ⟨⟨_, rfl, Z.lvF 0 rfl Zy⟩, rfl, rfl⟩, ?_⟩
 replace Z := (Z.sel 2 [] rfl)
 exact ⟨rfl, Z⟩
theorem Zh4 {T : TM} {h : Int} (hn : ¬ (if T.s.opn h = true then (0 : Int) else 5) ≠ 0) : T.s.opn h = true := Classical.byContradiction fun h1 => hn (by rw [if_neg h1]; decide)
theorem Zm2 {T : TM} {h : Int} (hn : (if T.s.opn h = true then (0 : Int) else 5) ≠ 0) : ¬ T.s.opn h = true := fun h1 => hn (by rw [if_pos h1])
theorem Zoh {T : TM} {hs : List Int} {k : Nat} (hbad : ∃ y ∈ hs, T.s.opn y = false) (hop : ∀ y ∈ hs.take k, T.s.opn y = true) : (k : Int) < (List.length (Zg hs) : Int) := by
 rw [Zz]
 refine Classical.byContradiction fun h => ?_
 obtain ⟨y, hy, hb⟩ := hbad
 have := hop y (by rw [List.take_of_length_le (by omega)]; exact hy)
 rw [hb] at this; cases this
theorem Qs {α : Type} {l : List α} {k : Nat} {y : α} {q : α → Prop} (h : ∀ x ∈ l.take k, q x) (hy : l[k]? = some y) (hq : q y) : ∀ x ∈ l.take (k + 1), q x := fun x hx => by
 rw [List.take_add_one, hy] at hx
 rcases List.mem_append.1 hx with hx | hx
 ·exact h x hx
 ·have : x = y := by simpa using hx
  rw [this]; exact hq
theorem Zfc {g w : World} {L : List HP} (z : RSt) (x : LsE) (hs : List Int) (pa2 : Option Addr) (pc2 : Nat) (hz : ROk z) (hhs : ∀ y ∈ hs, 0 ≤ y ∧ y ≤ 18446744073709551615) (hsl : hs.length ≤ 10) (hps : ZT hs) (hbad : ∃ y ∈ hs, z.T.s.opn y = false) (Z : St g (Zn Z6 [z] :: Sh 121 2 (Zq x.es) x.a x.c :: Sh 23 1 (Zg hs) pa2 pc2 :: L) w) :
  Sp Tryz.prog 68 [.agg (rvA z), .slice x.a (Zq x.es).length x.c, .slice pa2 (Zg hs).length pc2] w (fun v w' => v = .tuple #[.agg (rvA z), .int .u64 0, .int .i64 5] ∧ St g (Zn Z6 [z] :: Sh 121 2 (Zq x.es) x.a x.c :: Sh 23 1 (Zg hs) pa2 pc2 :: L) w') := by
 refine Sp.enter Tryz.func68 rfl (by kernel_rfl) (by kernel_rfl) ?_
 have _ := hsl
 refine WC.seq <| WC.region ?_
 have hpl := Zz hs; have hp2 := hps.1
 refine WL.box rfl rfl (rvA z) Z rfl rfl (fun b1 w Z => ?_)
 refine WL.new rfl rfl XE Z (fun b2 w Z => ?_)
 refine WL.r 2 rfl <| WL.nil <| WC.seq <| WC.seq <| WC.cut [1, 2, 3, 6, 7, 8, 35] (fun vs w => ∃ (t35 : Bool), vs = [.slice x.a (Zq x.es).length x.c, .slice pa2 (Zg hs).length pc2, .pointer (some ⟨b1, 0, none⟩), .pointer (some ⟨b2, 0, none⟩), .int .u64 0, .int .i64 0, .bool t35] ∧ St g (Ze b2 #[.int .i64 0, .int .i64 0, .slice none 0 0, .int .i64 0, .slice none 0 0, .slice none 0 0, .slice none 0 0, .int .i64 0, .slice none 0 0, .slice none 0 0, .slice none 0 0] 43 :: Ze b1 (rvA z) 43 :: Zn Z6 [z] :: Sh 121 2 (Zq x.es) x.a x.c :: Sh 23 1 (Zg hs) pa2 pc2 :: L) w ∧ (t35 = false)) ?_ ?_
 ·refine WC.plan [([0, 1, 2, 3, 4, 5, 6, 7, 8, 11, 9, 12, 10, 13, 14, 15, 16], none)] (by kernel_rfl) (by kernel_rfl) ?_
  refine WQ.r 4 rfl <| WQ.reb 22 (.bool false) (congrArg Value.bool (decide_eq_false ((by omega)))) ?_
  refine WQ.ung rfl rfl rfl <| WQ.r 1 rfl <| WQ.ung rfl rfl rfl <| WQ.r 1 rfl <| WQ.ung rfl rfl rfl <| WQ.r 1 rfl <| WQ.ung rfl rfl rfl <| WQ.r 1 rfl ?_
  by_cases cg1 : (List.length (Zg hs) : Int) = 2
  ·refine WQ.reb 26 (.bool true) (congrArg Value.bool (decide_eq_true cg1)) <| WQ.ung rfl rfl rfl <| WQ.r 1 rfl <| WQ.ung rfl rfl rfl <| WQ.r 1 rfl <| WQ.ung rfl rfl rfl ?_
   obtain ⟨p0, h0⟩ : ∃ u, hs[0]? = some u := ⟨_, List.getElem?_eq_getElem (by omega)⟩; obtain ⟨p1, h1⟩ : ∃ u, hs[1]? = some u := ⟨_, List.getElem?_eq_getElem (by omega)⟩
   refine WQ.ix rfl rfl (i := 0) (0) el_45 rfl rfl (by omega) (by omega) (Z.rdS 4 rfl (Zm h0)).1 ?_
   refine WQ.ung rfl rfl rfl <| WQ.ix rfl rfl (i := 1) (1) el_45 rfl rfl (by omega) (by omega) (Z.rdS 4 rfl (Zm h1)).1 ?_
   refine WQ.ung rfl rfl rfl <| WQ.run 1 [.int .u64 p0] rfl (by exact (Z.rdS 4 rfl (Zm h0)).2 0 _ rfl) ?_
   refine WQ.ung rfl rfl rfl <| WQ.run 1 [.int .u64 p1] rfl (by exact (Z.rdS 4 rfl (Zm h1)).2 0 _ rfl) ?_
   refine WQ.ung rfl rfl rfl <| WQ.r 1 rfl <| WQ.ung rfl rfl rfl <| WQ.r 2 rfl <| WQ.nil ?_
   intro m1
   replace Z := Z.drewN m1; generalize hwm1 : World.drewN _ _ = w at *; clear hwm1
   exact ⟨decide (p0 = p1), rfl, Z, (decide_eq_false (YV hps h0 h1))⟩
  ·refine WQ.reb 26 (.bool false) (congrArg Value.bool (decide_eq_false cg1)) <| WQ.skp rfl rfl rfl rfl <| WQ.skp rfl rfl rfl rfl <| WQ.skp rfl rfl rfl rfl <| WQ.skp rfl rfl rfl rfl <| WQ.skp rfl rfl rfl rfl <| WQ.skp rfl rfl rfl rfl <| WQ.skp rfl rfl rfl rfl <| WQ.ung rfl rfl rfl <| WQ.r 2 rfl <| WQ.nil ?_
   intro m1
   replace Z := Z.drewN m1; generalize hwm1 : World.drewN _ _ = w at *; clear hwm1
   exact ⟨false, rfl, Z, (rfl)⟩
 clear Z; rintro _ w j ⟨t35, rfl, Z, h35⟩
 refine WC.ifF rfl h35 <| WC.skip <| WC.seq <| WC.region <| WL.r 1 rfl <| WL.nil <| WC.seq <| WC.seq <| WC.region <| WL.r 1 rfl <| WL.nil <| WC.block ?_
 replace Z := Z.nil_ 3 1
 refine WC.loop [1, 2, 3, 6, 9, 10] (fun kM vs w => ∃ (k : Nat) (acc : List Int) (u : Option Addr) (d : Nat), vs = [.slice x.a (Zq x.es).length x.c, .slice pa2 (Zg hs).length pc2, .pointer (some ⟨b1, 0, none⟩), .pointer (some ⟨b2, 0, none⟩), .slice u (Zb acc).length d, .int .i64 (k : Int)] ∧ St g (Zf 3 1 (Zb acc) u d :: Ze b2 #[.int .i64 0, .int .i64 0, .slice none 0 0, .int .i64 0, .slice none 0 0, .slice none 0 0, .slice none 0 0, .int .i64 0, .slice none 0 0, .slice none 0 0, .slice none 0 0] 43 :: Ze b1 (rvA z) 43 :: Zn Z6 [z] :: Sh 121 2 (Zq x.es) x.a x.c :: Sh 23 1 (Zg hs) pa2 pc2 :: L) w ∧ (k ≤ hs.length) ∧ (∀ y ∈ hs.take k, z.T.s.opn y = true) ∧ (acc = (hs.take k).map z.T.val) ∧ (hs.length - k) = kM) ((List.length hs) - 0) ⟨0, [], none, 0, rfl, Z, (Nat.zero_le _), (fun _ h => by cases h), (rfl), rfl⟩ ?_
 clear Z; rintro _ _ w j ⟨k, acc, u, d, rfl, Z, hk, hop, ha, rfl⟩
 refine WC.seq <| WC.seq <| WC.region <| WL.r 4 rfl <| WL.nil ?_
 as_aux_lemma =>
 refine WC.ifT rfl (decide_eq_true ((Zoh hbad hop))) <| WC.skip <| WC.seq <| WC.block <| WC.seq <| WC.plan [([0, 1, 2, 3, 4], some (5, [])), ([6, 7, 8, 9, 10], none)] (by kernel_rfl) (by kernel_rfl) ?_
 refine WQ.ldF rfl rfl 2 Z rfl rfl Zy <| WQ.r 2 rfl ?_
 have hlt := Zoh hbad hop; have hul2 := Zz hs; obtain ⟨y, hy⟩ : ∃ u, hs[k]? = some u := ⟨_, List.getElem?_eq_getElem (by omega)⟩; have hyr := hhs y (List.mem_of_getElem? hy); have hacl := Zh acc; have hacl2 : acc.length = k := (by rw [ha, List.length_map, List.length_take]; omega)
 refine WQ.ix rfl rfl (i := (k : Int)) (k) el_45 rfl rfl (by omega) (by omega) (Z.rdS 5 rfl (Zm hy)).1 ?_
 refine WQ.run 1 [.int .u64 y] rfl (by exact (Z.rdS 5 rfl (Zm hy)).2 0 _ rfl) ?_
 refine WQ.nil ?_
 intro m1
 replace Z := Z.drewN m1; generalize hwm1 : World.drewN _ _ = w at *; clear hwm1
 refine WL.call rfl rfl (Zce (z := z) (h := y) (hz := hz) (hh := hyr) (Z := (Z.sel 4 [3, 0, 0, 0] rfl))) rfl ?_
 clear Z; rintro _ w ⟨rfl, Z⟩
 replace Z := Z.n6 L rfl
 refine WL.nil ?_
 refine ⟨by exact trivial, ?_⟩
 refine WQ.r 5 rfl <| WQ.nil ?_
 intro m2
 replace Z := Z.drewN m2; generalize hwm2 : World.drewN _ _ = w at *; clear hwm2
 refine WC.seq <| WC.seq <| WC.region <| WL.r 2 rfl <| WL.nil ?_
 as_aux_lemma =>
 refine WC.ifP rfl (fun cd1 => ?_) (fun cd1 => ?_)
 ·refine WC.seq <| WC.region <| WL.ldF rfl rfl 3 Z rfl rfl Zy <| WL.r 1 rfl <| WL.stF rfl rfl rfl 2 Z rfl rfl rfl rfl rfl Zy (fun w Z => ?_)
  replace Z := Z.n6 L (a2 := Ze b2 (rvA z) 43) rfl
  refine WL.r 2 rfl <| WL.nil <| WC.ret ?_
  refine ⟨[.agg (rvA z), .int .u64 0, .int .i64 (if z.T.s.opn y = true then 0 else 5)], ⟨⟨_, rfl, Z.lvF 2 rfl Zy⟩, rfl, rfl⟩, ?_⟩
  replace Z := (Z.sel 4 [0] rfl)
  exact ⟨by rw [if_neg (Zm2 cd1)]; rfl, Z⟩
 ·refine WC.skip <| WC.region <| WL.r 2 rfl <| WL.lit rfl rfl (Zb [if z.T.s.opn y = true then z.T.val y else 0]) el_56 Z (by exact ⟨rfl, rfl⟩) (Z9 _) rfl (Nat.le_of_ble_eq_true rfl) (fun b3 w Z => ?_)
  refine WL.app rfl rfl 2 (Zb (acc ++ [if z.T.s.opn y = true then z.T.val y else 0])) el_56 Z rfl (Z.srcO 0 rfl) (Yx _ _).symm (Rm.of (by first | omega | (simp <;> omega)) (by decide)) rfl rfl (fun a1 c1 w Z => ?_)
  replace Z := Z.n7 L (a0 := Zf 3 1 (Zb [if z.T.s.opn y = true then z.T.val y else 0]) (some ⟨b3, 0, none⟩) (Zb [if z.T.s.opn y = true then z.T.val y else 0]).length) (a2 := Zf 3 1 (Zb (acc ++ [if z.T.s.opn y = true then z.T.val y else 0])) a1 c1) rfl
  refine WL.r 1 rfl <| WL.nil <| WC.region <| WL.r 2 rfl <| WL.nw 42 rfl (Zr (by omega)) ?_
  refine WL.r 1 rfl <| WL.nil ?_
  exact ⟨_, by omega, k + 1, acc ++ [if z.T.s.opn y = true then z.T.val y else 0], _, _, rfl, (Z.sel 5 [2, 2, 2, 1] rfl), (by omega), (Qs hop hy (Zh4 cd1)), (by rw [ha, List.take_add_one, hy, if_pos (Zh4 cd1)]; simp), rfl⟩
theorem Zcz {g w : World} {L : List HP} (z : RSt) (x : LsE) (hs : List Int) (pa2 : Option Addr) (pc2 : Nat) (hz : ROk z) (hhs : ∀ y ∈ hs, 0 ≤ y ∧ y ≤ 18446744073709551615) (hsl : hs.length ≤ 10) (hps : ZT hs) (hall : ∀ y ∈ hs, z.T.s.opn y = true) (hrm : z.room < 1) (Z : St g (Zn Z6 [z] :: Sh 121 2 (Zq x.es) x.a x.c :: Sh 23 1 (Zg hs) pa2 pc2 :: L) w) :
  Sp Tryz.prog 68 [.agg (rvA z), .slice x.a (Zq x.es).length x.c, .slice pa2 (Zg hs).length pc2] w (fun v w' => v = .tuple #[.agg (rvA z), .int .u64 0, .int .i64 2] ∧ St g (Zn Z6 [z] :: Sh 121 2 (Zq x.es) x.a x.c :: Sh 23 1 (Zg hs) pa2 pc2 :: L) w') := by
 refine Sp.enter Tryz.func68 rfl (by kernel_rfl) (by kernel_rfl) ?_
 have _ := hsl
 refine WC.seq <| WC.region ?_
 have hpl := Zz hs; have hp2 := hps.1
 refine WL.box rfl rfl (rvA z) Z rfl rfl (fun b1 w Z => ?_)
 refine WL.new rfl rfl XE Z (fun b2 w Z => ?_)
 refine WL.r 2 rfl <| WL.nil <| WC.seq <| WC.seq <| WC.cut [1, 2, 3, 6, 7, 8, 35] (fun vs w => ∃ (t35 : Bool), vs = [.slice x.a (Zq x.es).length x.c, .slice pa2 (Zg hs).length pc2, .pointer (some ⟨b1, 0, none⟩), .pointer (some ⟨b2, 0, none⟩), .int .u64 0, .int .i64 0, .bool t35] ∧ St g (Ze b2 #[.int .i64 0, .int .i64 0, .slice none 0 0, .int .i64 0, .slice none 0 0, .slice none 0 0, .slice none 0 0, .int .i64 0, .slice none 0 0, .slice none 0 0, .slice none 0 0] 43 :: Ze b1 (rvA z) 43 :: Zn Z6 [z] :: Sh 121 2 (Zq x.es) x.a x.c :: Sh 23 1 (Zg hs) pa2 pc2 :: L) w ∧ (t35 = false)) ?_ ?_
 ·refine WC.plan [([0, 1, 2, 3, 4, 5, 6, 7, 8, 11, 9, 12, 10, 13, 14, 15, 16], none)] (by kernel_rfl) (by kernel_rfl) ?_
  refine WQ.r 4 rfl <| WQ.reb 22 (.bool false) (congrArg Value.bool (decide_eq_false ((by omega)))) ?_
  refine WQ.ung rfl rfl rfl <| WQ.r 1 rfl <| WQ.ung rfl rfl rfl <| WQ.r 1 rfl <| WQ.ung rfl rfl rfl <| WQ.r 1 rfl <| WQ.ung rfl rfl rfl <| WQ.r 1 rfl ?_
  by_cases cg1 : (List.length (Zg hs) : Int) = 2
  ·refine WQ.reb 26 (.bool true) (congrArg Value.bool (decide_eq_true cg1)) <| WQ.ung rfl rfl rfl <| WQ.r 1 rfl <| WQ.ung rfl rfl rfl <| WQ.r 1 rfl <| WQ.ung rfl rfl rfl ?_
   obtain ⟨p0, h0⟩ : ∃ u, hs[0]? = some u := ⟨_, List.getElem?_eq_getElem (by omega)⟩; obtain ⟨p1, h1⟩ : ∃ u, hs[1]? = some u := ⟨_, List.getElem?_eq_getElem (by omega)⟩
   refine WQ.ix rfl rfl (i := 0) (0) el_45 rfl rfl (by omega) (by omega) (Z.rdS 4 rfl (Zm h0)).1 ?_
   refine WQ.ung rfl rfl rfl <| WQ.ix rfl rfl (i := 1) (1) el_45 rfl rfl (by omega) (by omega) (Z.rdS 4 rfl (Zm h1)).1 ?_
   refine WQ.ung rfl rfl rfl <| WQ.run 1 [.int .u64 p0] rfl (by exact (Z.rdS 4 rfl (Zm h0)).2 0 _ rfl) ?_
   refine WQ.ung rfl rfl rfl <| WQ.run 1 [.int .u64 p1] rfl (by exact (Z.rdS 4 rfl (Zm h1)).2 0 _ rfl) ?_
   refine WQ.ung rfl rfl rfl <| WQ.r 1 rfl <| WQ.ung rfl rfl rfl <| WQ.r 2 rfl <| WQ.nil ?_
   intro m1
   replace Z := Z.drewN m1; generalize hwm1 : World.drewN _ _ = w at *; clear hwm1
   exact ⟨decide (p0 = p1), rfl, Z, (decide_eq_false (YV hps h0 h1))⟩
  ·refine WQ.reb 26 (.bool false) (congrArg Value.bool (decide_eq_false cg1)) <| WQ.skp rfl rfl rfl rfl <| WQ.skp rfl rfl rfl rfl <| WQ.skp rfl rfl rfl rfl <| WQ.skp rfl rfl rfl rfl <| WQ.skp rfl rfl rfl rfl <| WQ.skp rfl rfl rfl rfl <| WQ.skp rfl rfl rfl rfl <| WQ.ung rfl rfl rfl <| WQ.r 2 rfl <| WQ.nil ?_
   intro m1
   replace Z := Z.drewN m1; generalize hwm1 : World.drewN _ _ = w at *; clear hwm1
   exact ⟨false, rfl, Z, (rfl)⟩
 clear Z; rintro _ w j ⟨t35, rfl, Z, h35⟩
 refine WC.ifF rfl h35 <| WC.skip <| WC.seq <| WC.region <| WL.r 1 rfl <| WL.nil <| WC.seq <| WC.seq <| WC.region <| WL.r 1 rfl <| WL.nil <| WC.block ?_
 replace Z := Z.nil_ 3 1
 refine WC.loop [1, 2, 3, 6, 9, 10] (fun kM vs w => ∃ (k : Nat) (acc : List Int) (u : Option Addr) (d : Nat), vs = [.slice x.a (Zq x.es).length x.c, .slice pa2 (Zg hs).length pc2, .pointer (some ⟨b1, 0, none⟩), .pointer (some ⟨b2, 0, none⟩), .slice u (Zb acc).length d, .int .i64 (k : Int)] ∧ St g (Zf 3 1 (Zb acc) u d :: Ze b2 #[.int .i64 0, .int .i64 0, .slice none 0 0, .int .i64 0, .slice none 0 0, .slice none 0 0, .slice none 0 0, .int .i64 0, .slice none 0 0, .slice none 0 0, .slice none 0 0] 43 :: Ze b1 (rvA z) 43 :: Zn Z6 [z] :: Sh 121 2 (Zq x.es) x.a x.c :: Sh 23 1 (Zg hs) pa2 pc2 :: L) w ∧ (k ≤ hs.length) ∧ (∀ y ∈ hs.take k, z.T.s.opn y = true) ∧ (acc = (hs.take k).map z.T.val) ∧ (hs.length - k) = kM) ((List.length hs) - 0) ⟨0, [], none, 0, rfl, Z, (Nat.zero_le _), (fun _ h => by cases h), (rfl), rfl⟩ ?_
 clear Z; rintro _ _ w j ⟨k, acc, u, d, rfl, Z, hk, hop, ha, rfl⟩
 refine WC.seq <| WC.seq <| WC.region <| WL.r 4 rfl <| WL.nil ?_
 as_aux_lemma =>
 refine WC.ifP rfl (fun cd1 => ?_) (fun cd1 => ?_)
 ·refine WC.skip <| WC.seq <| WC.block <| WC.seq <| WC.plan [([0, 1, 2, 3, 4], some (5, [])), ([6, 7, 8, 9, 10], none)] (by kernel_rfl) (by kernel_rfl) ?_
  refine WQ.ldF rfl rfl 2 Z rfl rfl Zy <| WQ.r 2 rfl ?_
  have hlt : True := trivial; have hul2 := Zz hs; obtain ⟨y, hy⟩ : ∃ u, hs[k]? = some u := ⟨_, List.getElem?_eq_getElem (by omega)⟩; have hyr := hhs y (List.mem_of_getElem? hy); have hacl := Zh acc; have hacl2 : acc.length = k := (by rw [ha, List.length_map, List.length_take]; omega)
  refine WQ.ix rfl rfl (i := (k : Int)) (k) el_45 rfl rfl (by omega) (by omega) (Z.rdS 5 rfl (Zm hy)).1 ?_
  refine WQ.run 1 [.int .u64 y] rfl (by exact (Z.rdS 5 rfl (Zm hy)).2 0 _ rfl) ?_
  refine WQ.nil ?_
  intro m1
  replace Z := Z.drewN m1; generalize hwm1 : World.drewN _ _ = w at *; clear hwm1
  refine WL.call rfl rfl (Zce (z := z) (h := y) (hz := hz) (hh := hyr) (Z := (Z.sel 4 [3, 0, 0, 0] rfl))) rfl ?_
  clear Z; rintro _ w ⟨rfl, Z⟩
  replace Z := Z.n6 L rfl
  refine WL.nil ?_
  refine ⟨by exact trivial, ?_⟩
  refine WQ.r 5 rfl <| WQ.nil ?_
  intro m2
  replace Z := Z.drewN m2; generalize hwm2 : World.drewN _ _ = w at *; clear hwm2
  refine WC.seq <| WC.seq <| WC.region <| WL.r 2 rfl <| WL.nil ?_
  as_aux_lemma =>
  refine WC.ifF rfl (decide_eq_false ((by rw [if_pos (hall y (List.mem_of_getElem? hy))]; decide))) ?_
  refine WC.skip <| WC.region <| WL.r 2 rfl <| WL.lit rfl rfl (Zb [if z.T.s.opn y = true then z.T.val y else 0]) el_56 Z (by exact ⟨rfl, rfl⟩) (Z9 _) rfl (Nat.le_of_ble_eq_true rfl) (fun b3 w Z => ?_)
  refine WL.app rfl rfl 2 (Zb (acc ++ [if z.T.s.opn y = true then z.T.val y else 0])) el_56 Z rfl (Z.srcO 0 rfl) (Yx _ _).symm (Rm.of (by first | omega | (simp <;> omega)) (by decide)) rfl rfl (fun a1 c1 w Z => ?_)
  replace Z := Z.n7 L (a0 := Zf 3 1 (Zb [if z.T.s.opn y = true then z.T.val y else 0]) (some ⟨b3, 0, none⟩) (Zb [if z.T.s.opn y = true then z.T.val y else 0]).length) (a2 := Zf 3 1 (Zb (acc ++ [if z.T.s.opn y = true then z.T.val y else 0])) a1 c1) rfl
  refine WL.r 1 rfl <| WL.nil <| WC.region <| WL.r 2 rfl <| WL.nw 42 rfl (Zr (by omega)) ?_
  refine WL.r 1 rfl <| WL.nil ?_
  exact ⟨_, by omega, k + 1, acc ++ [if z.T.s.opn y = true then z.T.val y else 0], _, _, rfl, (Z.sel 5 [2, 2, 2, 1] rfl), (by omega), (Qs hop hy (hall y (List.mem_of_getElem? hy))), (by rw [ha, List.take_add_one, hy, if_pos (hall y (List.mem_of_getElem? hy))]; simp), rfl⟩
 ·refine WC.exit <| WC.seq <| WC.seq <| WC.region <| WL.ldF rfl rfl 2 Z rfl rfl Zy <| WL.call rfl rfl (Zci (z := z) (hz := hz) (Z := (Z.sel 4 [3, 0, 0, 0] rfl))) rfl ?_
  clear Z; rintro _ w ⟨rfl, Z⟩
  replace Z := Z.n6 L rfl
  refine WL.r 1 rfl <| WL.nil <| WC.ifT rfl (decide_eq_true (hrm)) <| WC.seq <| WC.region <| WL.ldF rfl rfl 3 Z rfl rfl Zy <| WL.stF rfl rfl rfl 2 Z rfl rfl rfl rfl rfl Zy (fun w Z => ?_)
  replace Z := Z.n6 L (a2 := Ze b2 (rvA z) 43) rfl
  refine WL.r 2 rfl <| WL.nil <| WC.ret ?_
  refine ⟨[.agg (rvA z), .int .u64 0, .int .i64 2], ⟨⟨_, rfl, Z.lvF 2 rfl Zy⟩, rfl, rfl⟩, ?_⟩
  replace Z := (Z.sel 4 [0] rfl)
  exact ⟨rfl, Z⟩
theorem Zhh {g w : World} {L : List HP} (z : RSt) (x : LsE) (hs : List Int) (pa2 : Option Addr) (pc2 : Nat) (hz : ROk z) (hhs : ∀ y ∈ hs, 0 ≤ y ∧ y ≤ 18446744073709551615) (hsl : hs.length ≤ 10) (hps : ZT hs) (hall : ∀ y ∈ hs, z.T.s.opn y = true) (hps2 : ZT (List.map z.T.val hs)) (hlv : ∀ y ∈ hs, ZB z.B (z.T.val y) = true) (hrm : 1 ≤ z.room) (Z : St g (Zn Z6 [z] :: Sh 121 2 (Zq x.es) x.a x.c :: Sh 23 1 (Zg hs) pa2 pc2 :: L) w) :
  Sp Tryz.prog 68 [.agg (rvA z), .slice x.a (Zq x.es).length x.c, .slice pa2 (Zg hs).length pc2] w (fun v w' => ∃ (ra ga oa va pa ba la e : Option Addr) (rc gc oc vc pc bc lc f : Nat), v = .tuple #[.agg #[.int .i64 (z.add (List.map z.T.val hs) x ra ga oa va pa ba la e rc gc oc vc pc bc lc f).cap, .int .i64 (z.add (List.map z.T.val hs) x ra ga oa va pa ba la e rc gc oc vc pc bc lc f).T.s.cap, .slice (z.add (List.map z.T.val hs) x ra ga oa va pa ba la e rc gc oc vc pc bc lc f).ra (List.length (Za (z.add (List.map z.T.val hs) x ra ga oa va pa ba la e rc gc oc vc pc bc lc f).T.s.rel)) (z.add (List.map z.T.val hs) x ra ga oa va pa ba la e rc gc oc vc pc bc lc f).rc, .int .i64 ((z.add (List.map z.T.val hs) x ra ga oa va pa ba la e rc gc oc vc pc bc lc f).T.s.fresh + 1), .slice (z.add (List.map z.T.val hs) x ra ga oa va pa ba la e rc gc oc vc pc bc lc f).ga (List.length (Za ((z.add (List.map z.T.val hs) x ra ga oa va pa ba la e rc gc oc vc pc bc lc f).T.s.gen.drop 1))) (z.add (List.map z.T.val hs) x ra ga oa va pa ba la e rc gc oc vc pc bc lc f).gc, .slice (z.add (List.map z.T.val hs) x ra ga oa va pa ba la e rc gc oc vc pc bc lc f).oa (List.length (Zc ((z.add (List.map z.T.val hs) x ra ga oa va pa ba la e rc gc oc vc pc bc lc f).T.s.used.drop 1))) (z.add (List.map z.T.val hs) x ra ga oa va pa ba la e rc gc oc vc pc bc lc f).oc, .slice (z.add (List.map z.T.val hs) x ra ga oa va pa ba la e rc gc oc vc pc bc lc f).va (List.length (Za ((z.add (List.map z.T.val hs) x ra ga oa va pa ba la e rc gc oc vc pc bc lc f).T.vals.drop 1))) (z.add (List.map z.T.val hs) x ra ga oa va pa ba la e rc gc oc vc pc bc lc f).vc, .int .i64 (z.add (List.map z.T.val hs) x ra ga oa va pa ba la e rc gc oc vc pc bc lc f).cap, .slice (z.add (List.map z.T.val hs) x ra ga oa va pa ba la e rc gc oc vc pc bc lc f).pa (List.length (Zt (z.add (List.map z.T.val hs) x ra ga oa va pa ba la e rc gc oc vc pc bc lc f).P)) (z.add (List.map z.T.val hs) x ra ga oa va pa ba la e rc gc oc vc pc bc lc f).pc, .slice (z.add (List.map z.T.val hs) x ra ga oa va pa ba la e rc gc oc vc pc bc lc f).ba (List.length (Zc (z.add (List.map z.T.val hs) x ra ga oa va pa ba la e rc gc oc vc pc bc lc f).B)) (z.add (List.map z.T.val hs) x ra ga oa va pa ba la e rc gc oc vc pc bc lc f).bc, .slice (z.add (List.map z.T.val hs) x ra ga oa va pa ba la e rc gc oc vc pc bc lc f).la (List.length (ZI (z.add (List.map z.T.val hs) x ra ga oa va pa ba la e rc gc oc vc pc bc lc f).LL)) (z.add (List.map z.T.val hs) x ra ga oa va pa ba la e rc gc oc vc pc bc lc f).lc], .int .u64 z.T.newH, .int .i64 0] ∧ St g (Zn Z6 [z.add (List.map z.T.val hs) x ra ga oa va pa ba la e rc gc oc vc pc bc lc f] :: Sh 121 2 (Zq x.es) x.a x.c :: Sh 23 1 (Zg hs) pa2 pc2 :: L) w') := by
 refine Sp.enter Tryz.func68 rfl (by kernel_rfl) (by kernel_rfl) ?_
 have _ := hrm
 have _ := hsl
 refine WC.seq <| WC.region ?_
 have hpl := Zz hs; have hp2 := hps.1
 refine WL.box rfl rfl (rvA z) Z rfl rfl (fun b1 w Z => ?_)
 refine WL.new rfl rfl XE Z (fun b2 w Z => ?_)
 refine WL.r 2 rfl <| WL.nil <| WC.seq <| WC.seq <| WC.cut [1, 2, 3, 6, 7, 8, 35] (fun vs w => ∃ (t35 : Bool), vs = [.slice x.a (Zq x.es).length x.c, .slice pa2 (Zg hs).length pc2, .pointer (some ⟨b1, 0, none⟩), .pointer (some ⟨b2, 0, none⟩), .int .u64 0, .int .i64 0, .bool t35] ∧ St g (Ze b2 #[.int .i64 0, .int .i64 0, .slice none 0 0, .int .i64 0, .slice none 0 0, .slice none 0 0, .slice none 0 0, .int .i64 0, .slice none 0 0, .slice none 0 0, .slice none 0 0] 43 :: Ze b1 (rvA z) 43 :: Zn Z6 [z] :: Sh 121 2 (Zq x.es) x.a x.c :: Sh 23 1 (Zg hs) pa2 pc2 :: L) w ∧ (t35 = false)) ?_ ?_
 ·refine WC.plan [([0, 1, 2, 3, 4, 5, 6, 7, 8, 11, 9, 12, 10, 13, 14, 15, 16], none)] (by kernel_rfl) (by kernel_rfl) ?_
  refine WQ.r 4 rfl <| WQ.reb 22 (.bool false) (congrArg Value.bool (decide_eq_false ((by omega)))) ?_
  refine WQ.ung rfl rfl rfl <| WQ.r 1 rfl <| WQ.ung rfl rfl rfl <| WQ.r 1 rfl <| WQ.ung rfl rfl rfl <| WQ.r 1 rfl <| WQ.ung rfl rfl rfl <| WQ.r 1 rfl ?_
  by_cases cg1 : (List.length (Zg hs) : Int) = 2
  ·refine WQ.reb 26 (.bool true) (congrArg Value.bool (decide_eq_true cg1)) <| WQ.ung rfl rfl rfl <| WQ.r 1 rfl <| WQ.ung rfl rfl rfl <| WQ.r 1 rfl <| WQ.ung rfl rfl rfl ?_
   obtain ⟨p0, h0⟩ : ∃ u, hs[0]? = some u := ⟨_, List.getElem?_eq_getElem (by omega)⟩; obtain ⟨p1, h1⟩ : ∃ u, hs[1]? = some u := ⟨_, List.getElem?_eq_getElem (by omega)⟩
   refine WQ.ix rfl rfl (i := 0) (0) el_45 rfl rfl (by omega) (by omega) (Z.rdS 4 rfl (Zm h0)).1 ?_
   refine WQ.ung rfl rfl rfl <| WQ.ix rfl rfl (i := 1) (1) el_45 rfl rfl (by omega) (by omega) (Z.rdS 4 rfl (Zm h1)).1 ?_
   refine WQ.ung rfl rfl rfl <| WQ.run 1 [.int .u64 p0] rfl (by exact (Z.rdS 4 rfl (Zm h0)).2 0 _ rfl) ?_
   refine WQ.ung rfl rfl rfl <| WQ.run 1 [.int .u64 p1] rfl (by exact (Z.rdS 4 rfl (Zm h1)).2 0 _ rfl) ?_
   refine WQ.ung rfl rfl rfl <| WQ.r 1 rfl <| WQ.ung rfl rfl rfl <| WQ.r 2 rfl <| WQ.nil ?_
   intro m1
   replace Z := Z.drewN m1; generalize hwm1 : World.drewN _ _ = w at *; clear hwm1
   exact ⟨decide (p0 = p1), rfl, Z, (decide_eq_false (YV hps h0 h1))⟩
  ·refine WQ.reb 26 (.bool false) (congrArg Value.bool (decide_eq_false cg1)) <| WQ.skp rfl rfl rfl rfl <| WQ.skp rfl rfl rfl rfl <| WQ.skp rfl rfl rfl rfl <| WQ.skp rfl rfl rfl rfl <| WQ.skp rfl rfl rfl rfl <| WQ.skp rfl rfl rfl rfl <| WQ.skp rfl rfl rfl rfl <| WQ.ung rfl rfl rfl <| WQ.r 2 rfl <| WQ.nil ?_
   intro m1
   replace Z := Z.drewN m1; generalize hwm1 : World.drewN _ _ = w at *; clear hwm1
   exact ⟨false, rfl, Z, (rfl)⟩
 clear Z; rintro _ w j ⟨t35, rfl, Z, h35⟩
 refine WC.ifF rfl h35 <| WC.skip <| WC.seq <| WC.region <| WL.r 1 rfl <| WL.nil <| WC.seq <| WC.seq <| WC.region <| WL.r 1 rfl <| WL.nil <| WC.block ?_
 replace Z := Z.nil_ 3 1
 refine WC.loop [1, 2, 3, 6, 9, 10] (fun kM vs w => ∃ (k : Nat) (acc : List Int) (u : Option Addr) (d : Nat), vs = [.slice x.a (Zq x.es).length x.c, .slice pa2 (Zg hs).length pc2, .pointer (some ⟨b1, 0, none⟩), .pointer (some ⟨b2, 0, none⟩), .slice u (Zb acc).length d, .int .i64 (k : Int)] ∧ St g (Zf 3 1 (Zb acc) u d :: Ze b2 #[.int .i64 0, .int .i64 0, .slice none 0 0, .int .i64 0, .slice none 0 0, .slice none 0 0, .slice none 0 0, .int .i64 0, .slice none 0 0, .slice none 0 0, .slice none 0 0] 43 :: Ze b1 (rvA z) 43 :: Zn Z6 [z] :: Sh 121 2 (Zq x.es) x.a x.c :: Sh 23 1 (Zg hs) pa2 pc2 :: L) w ∧ (k ≤ hs.length) ∧ (∀ y ∈ hs.take k, z.T.s.opn y = true) ∧ (acc = (hs.take k).map z.T.val) ∧ (hs.length - k) = kM) ((List.length hs) - 0) ⟨0, [], none, 0, rfl, Z, (Nat.zero_le _), (fun _ h => by cases h), (rfl), rfl⟩ ?_
 clear Z; rintro _ _ w j ⟨k, acc, u, d, rfl, Z, hk, hop, ha, rfl⟩
 refine WC.seq <| WC.seq <| WC.region <| WL.r 4 rfl <| WL.nil ?_
 as_aux_lemma =>
 refine WC.ifP rfl (fun cd1 => ?_) (fun cd1 => ?_)
 ·refine WC.skip <| WC.seq <| WC.block <| WC.seq <| WC.plan [([0, 1, 2, 3, 4], some (5, [])), ([6, 7, 8, 9, 10], none)] (by kernel_rfl) (by kernel_rfl) ?_
  refine WQ.ldF rfl rfl 2 Z rfl rfl Zy <| WQ.r 2 rfl ?_
  have hlt : True := trivial; have hul2 := Zz hs; obtain ⟨y, hy⟩ : ∃ u, hs[k]? = some u := ⟨_, List.getElem?_eq_getElem (by omega)⟩; have hyr := hhs y (List.mem_of_getElem? hy); have hacl := Zh acc; have hacl2 : acc.length = k := (by rw [ha, List.length_map, List.length_take]; omega)
  refine WQ.ix rfl rfl (i := (k : Int)) (k) el_45 rfl rfl (by omega) (by omega) (Z.rdS 5 rfl (Zm hy)).1 ?_
  refine WQ.run 1 [.int .u64 y] rfl (by exact (Z.rdS 5 rfl (Zm hy)).2 0 _ rfl) ?_
  refine WQ.nil ?_
  intro m1
  replace Z := Z.drewN m1; generalize hwm1 : World.drewN _ _ = w at *; clear hwm1
  refine WL.call rfl rfl (Zce (z := z) (h := y) (hz := hz) (hh := hyr) (Z := (Z.sel 4 [3, 0, 0, 0] rfl))) rfl ?_
  clear Z; rintro _ w ⟨rfl, Z⟩
  replace Z := Z.n6 L rfl
  refine WL.nil ?_
  refine ⟨by exact trivial, ?_⟩
  refine WQ.r 5 rfl <| WQ.nil ?_
  intro m2
  replace Z := Z.drewN m2; generalize hwm2 : World.drewN _ _ = w at *; clear hwm2
  refine WC.seq <| WC.seq <| WC.region <| WL.r 2 rfl <| WL.nil ?_
  as_aux_lemma =>
  refine WC.ifF rfl (decide_eq_false ((by rw [if_pos (hall y (List.mem_of_getElem? hy))]; decide))) ?_
  refine WC.skip <| WC.region <| WL.r 2 rfl <| WL.lit rfl rfl (Zb [if z.T.s.opn y = true then z.T.val y else 0]) el_56 Z (by exact ⟨rfl, rfl⟩) (Z9 _) rfl (Nat.le_of_ble_eq_true rfl) (fun b3 w Z => ?_)
  refine WL.app rfl rfl 2 (Zb (acc ++ [if z.T.s.opn y = true then z.T.val y else 0])) el_56 Z rfl (Z.srcO 0 rfl) (Yx _ _).symm (Rm.of (by first | omega | (simp <;> omega)) (by decide)) rfl rfl (fun a1 c1 w Z => ?_)
  replace Z := Z.n7 L (a0 := Zf 3 1 (Zb [if z.T.s.opn y = true then z.T.val y else 0]) (some ⟨b3, 0, none⟩) (Zb [if z.T.s.opn y = true then z.T.val y else 0]).length) (a2 := Zf 3 1 (Zb (acc ++ [if z.T.s.opn y = true then z.T.val y else 0])) a1 c1) rfl
  refine WL.r 1 rfl <| WL.nil <| WC.region <| WL.r 2 rfl <| WL.nw 42 rfl (Zr (by omega)) ?_
  refine WL.r 1 rfl <| WL.nil ?_
  exact ⟨_, by omega, k + 1, acc ++ [if z.T.s.opn y = true then z.T.val y else 0], _, _, rfl, (Z.sel 5 [2, 2, 2, 1] rfl), (by omega), (Qs hop hy (hall y (List.mem_of_getElem? hy))), (by rw [ha, List.take_add_one, hy, if_pos (hall y (List.mem_of_getElem? hy))]; simp), rfl⟩
 ·refine WC.exit <| WC.seq <| WC.seq <| WC.region <| WL.ldF rfl rfl 2 Z rfl rfl Zy <| WL.call rfl rfl (Zci (z := z) (hz := hz) (Z := (Z.sel 4 [3, 0, 0, 0] rfl))) rfl ?_
  clear Z; rintro _ w ⟨rfl, Z⟩
  replace Z := Z.n6 L rfl
  refine WL.r 1 rfl <| WL.nil <| WC.ifF rfl (decide_eq_false ((by omega))) ?_
  refine WC.skip <| WC.seq <| WC.region ?_
  replace Z : St g (Sh 64 1 (Za z.T.s.rel) z.ra z.rc :: Sh 64 1 (Za (z.T.s.gen.drop 1)) z.ga z.gc :: Sh 4 1 (Zc (z.T.s.used.drop 1)) z.oa z.oc :: Sh 64 1 (Za (z.T.vals.drop 1)) z.va z.vc :: Sh 56 1 (Zt z.P) z.pa z.pc :: Zn YO z.P :: Sh 4 1 (Zc z.B) z.ba z.bc :: Sh 49 1 (ZI z.LL) z.la z.lc :: Zn Jk z.LL :: Zn Z6 [z] :: Zf 3 1 (Zb acc) u d :: Ze b2 #[.int .i64 0, .int .i64 0, .slice none 0 0, .int .i64 0, .slice none 0 0, .slice none 0 0, .slice none 0 0, .int .i64 0, .slice none 0 0, .slice none 0 0, .slice none 0 0] 43 :: Ze b1 (rvA z) 43 :: Sh 121 2 (Zq x.es) x.a x.c :: Sh 23 1 (Zg hs) pa2 pc2 :: L) w := Z.rsGet 0 rfl
  have hzn := hz.n; have hzb := hz.b; have hzl := hz.l; have hrr : z.room = min (z.cap - ((ZU (Z1 z.P z.B)).length : Int)) z.T.s.free := rfl; have hml : (List.map z.T.val hs).length = hs.length := List.length_map ..; obtain rfl : acc = List.map z.T.val hs := (by rw [ha, List.take_of_length_le (by omega)])
  refine WL.r 1 rfl <| WL.ldC rfl rfl [.int .i64 z.cap, .slice z.pa (Zt z.P).length z.pc, .slice z.ba (Zc z.B).length z.bc] Z4 rfl (Z.part 12 rfl rfl) <| WL.r 1 rfl ?_
  replace Z := (Z.at_ 10 rfl).share
  replace Z := Z.n15 L (a0 := Sh 3 1 (Zb (List.map z.T.val hs)) u d) (a1 := Sh 64 1 (Za z.T.s.rel) z.ra z.rc) (a2 := Sh 64 1 (Za (z.T.s.gen.drop 1)) z.ga z.gc) (a3 := Sh 4 1 (Zc (z.T.s.used.drop 1)) z.oa z.oc) (a4 := Sh 64 1 (Za (z.T.vals.drop 1)) z.va z.vc) (a5 := Sh 56 1 (Zt z.P) z.pa z.pc) (a6 := Zn YO z.P) (a7 := Sh 4 1 (Zc z.B) z.ba z.bc) (a8 := Sh 49 1 (ZI z.LL) z.la z.lc) (a9 := Zn Jk z.LL) rfl
  refine WL.call rfl rfl (Znt (cap := z.cap) (P := z.P) (a := z.pa) (c := z.pc) (B := z.B) (b := z.ba) (d := z.bc) (ps := List.map z.T.val hs) (hP := hz.p) (hl := (by omega)) (hB := hz.b) (hpl := (by omega)) (h0 := Zfz hps2 (fun y hy => by obtain ⟨y', hy', rfl⟩ := List.mem_map.1 hy; exact hlv y' hy') (by omega)) (Z := (Z.sel 8 [5, 5, 5, 0, 0, 0, 0, 0] rfl))) rfl ?_
  clear Z; rintro _ w ⟨e1, f1, a1, c1, b3, d1, rfl, Z⟩
  replace Z := Z.n15 L (a0 := Sh 56 1 (Zt (z.P ++ [PR.mk (List.map z.T.val hs) e1 f1])) a1 c1) (a1 := Zn YO (z.P ++ [PR.mk (List.map z.T.val hs) e1 f1])) (a2 := Sh 4 1 (Zc (z.B ++ [true])) b3 d1) rfl
  refine WL.r 4 rfl <| WL.new rfl rfl Zae Z (fun b4 w Z => ?_)
  refine WL.stF rfl rfl rfl 0 Z rfl rfl rfl rfl rfl Z4 (fun w Z => ?_)
  replace Z := Z.n16 L (a0 := Ze b4 #[.int .i64 z.cap, .slice a1 (List.length (Zt (z.P ++ [PR.mk (List.map z.T.val hs) e1 f1]))) c1, .slice b3 (Zc (z.B ++ [true])).length d1] 40) rfl
  refine WL.r 2 rfl <| WL.nil ?_
  as_aux_lemma =>
  refine WC.seq <| WC.region <| WL.r 1 rfl <| WL.ldC rfl rfl [.int .i64 z.T.s.cap, .slice z.ra (Za z.T.s.rel).length z.rc, .int .i64 (z.T.s.fresh + 1), .slice z.ga (Za (z.T.s.gen.drop 1)).length z.gc, .slice z.oa (Zc (z.T.s.used.drop 1)).length z.oc, .slice z.va (Za (z.T.vals.drop 1)).length z.vc] ZD rfl (Z.part 13 rfl rfl) <| WL.r 2 rfl <| WL.nw 76 rfl (Yq (by omega)) ?_
  refine WL.call rfl rfl (Zpn (T := z.T) (ra := z.ra) (ga := z.ga) (oa := z.oa) (va := z.va) (rc := z.rc) (gc := z.gc) (oc := z.oc) (vc := z.vc) (nv := (List.length z.P) + 1) (hT := hz.t) (hf := (by omega)) (hv := (by omega)) (Z := (Z.sel 9 [5, 5, 5, 5, 0, 0, 0, 0, 0] rfl))) rfl ?_
  clear Z; rintro _ w ⟨ra1, ga1, oa1, va1, rc1, gc1, oc1, vc1, rfl, Z⟩
  replace Z := Z.n16 L (a0 := Sh 64 1 (Za (z.T.open ((List.length z.P) + 1)).s.rel) ra1 rc1) (a1 := Sh 64 1 (Za ((z.T.open ((List.length z.P) + 1)).s.gen.drop 1)) ga1 gc1) (a2 := Sh 4 1 (Zc ((z.T.open ((List.length z.P) + 1)).s.used.drop 1)) oa1 oc1) (a3 := Sh 64 1 (Za ((z.T.open ((List.length z.P) + 1)).vals.drop 1)) va1 vc1) rfl
  refine WL.r 4 rfl <| WL.new rfl rfl JG Z (fun b5 w Z => ?_)
  refine WL.stF rfl rfl rfl 0 Z rfl rfl rfl rfl rfl ZD (fun w Z => ?_)
  replace Z := Z.n17 L (a0 := Ze b5 #[.int .i64 (z.T.open ((List.length z.P) + 1)).s.cap, .slice ra1 (List.length (Za (z.T.open ((List.length z.P) + 1)).s.rel)) rc1, .int .i64 ((z.T.open ((List.length z.P) + 1)).s.fresh + 1), .slice ga1 (List.length (Za ((z.T.open ((List.length z.P) + 1)).s.gen.drop 1))) gc1, .slice oa1 (List.length (Zc ((z.T.open ((List.length z.P) + 1)).s.used.drop 1))) oc1, .slice va1 (List.length (Za ((z.T.open ((List.length z.P) + 1)).vals.drop 1))) vc1] 37) rfl
  refine WL.r 2 rfl <| WL.nil <| WC.seq <| WC.plan [([0, 1, 2], some (3, [1])), ([4], some (5, []))] (by kernel_rfl) (by kernel_rfl) ?_
  refine WQ.ldF rfl rfl 5 Z rfl rfl Z4 <| WQ.ldF rfl rfl 0 Z rfl rfl ZD <| WQ.r 1 rfl <| WQ.nil ?_
  intro m1
  replace Z := Z.drewN m1; generalize hwm1 : World.drewN _ _ = w at *; clear hwm1
  refine WL.stP (ds := #[.int .i64 z.cap, .int .i64 z.T.s.cap, .slice z.ra (Za z.T.s.rel).length z.rc, .int .i64 (z.T.s.fresh + 1), .slice z.ga (Za (z.T.s.gen.drop 1)).length z.gc, .slice z.oa (Zc (z.T.s.used.drop 1)).length z.oc, .slice z.va (Za (z.T.vals.drop 1)).length z.vc, .int .i64 z.cap, .slice a1 (List.length (Zt (z.P ++ [PR.mk (List.map z.T.val hs) e1 f1]))) c1, .slice b3 (Zc (z.B ++ [true])).length d1, .slice z.la (ZI z.LL).length z.lc]) rfl rfl rfl 14 Z rfl rfl rfl rfl (Nat.le_of_ble_eq_true rfl) rfl Z4 (fun w Z => ?_)
  replace Z := Z.n17 L (a14 := Ze b1 #[.int .i64 z.cap, .int .i64 z.T.s.cap, .slice z.ra (Za z.T.s.rel).length z.rc, .int .i64 (z.T.s.fresh + 1), .slice z.ga (Za (z.T.s.gen.drop 1)).length z.gc, .slice z.oa (Zc (z.T.s.used.drop 1)).length z.oc, .slice z.va (Za (z.T.vals.drop 1)).length z.vc, .int .i64 z.cap, .slice a1 (List.length (Zt (z.P ++ [PR.mk (List.map z.T.val hs) e1 f1]))) c1, .slice b3 (Zc (z.B ++ [true])).length d1, .slice z.la (ZI z.LL).length z.lc] 43) rfl
  refine WL.nil ?_
  refine ⟨by exact RQ.ldF rfl rfl 0 Z rfl rfl ZD rfl rfl, ?_⟩
  refine WQ.r 1 rfl <| WQ.nil ?_
  intro m2
  replace Z := Z.drewN m2; generalize hwm2 : World.drewN _ _ = w at *; clear hwm2
  refine WL.stP (ds := #[.int .i64 z.cap, .int .i64 (z.T.open ((List.length z.P) + 1)).s.cap, .slice ra1 (List.length (Za (z.T.open ((List.length z.P) + 1)).s.rel)) rc1, .int .i64 ((z.T.open ((List.length z.P) + 1)).s.fresh + 1), .slice ga1 (List.length (Za ((z.T.open ((List.length z.P) + 1)).s.gen.drop 1))) gc1, .slice oa1 (List.length (Zc ((z.T.open ((List.length z.P) + 1)).s.used.drop 1))) oc1, .slice va1 (List.length (Za ((z.T.open ((List.length z.P) + 1)).vals.drop 1))) vc1, .int .i64 z.cap, .slice a1 (List.length (Zt (z.P ++ [PR.mk (List.map z.T.val hs) e1 f1]))) c1, .slice b3 (Zc (z.B ++ [true])).length d1, .slice z.la (ZI z.LL).length z.lc]) rfl rfl rfl 14 Z rfl rfl rfl rfl (Nat.le_of_ble_eq_true rfl) rfl ZD (fun w Z => ?_)
  replace Z := Z.n17 L (a14 := Ze b1 #[.int .i64 z.cap, .int .i64 (z.T.open ((List.length z.P) + 1)).s.cap, .slice ra1 (List.length (Za (z.T.open ((List.length z.P) + 1)).s.rel)) rc1, .int .i64 ((z.T.open ((List.length z.P) + 1)).s.fresh + 1), .slice ga1 (List.length (Za ((z.T.open ((List.length z.P) + 1)).s.gen.drop 1))) gc1, .slice oa1 (List.length (Zc ((z.T.open ((List.length z.P) + 1)).s.used.drop 1))) oc1, .slice va1 (List.length (Za ((z.T.open ((List.length z.P) + 1)).vals.drop 1))) vc1, .int .i64 z.cap, .slice a1 (List.length (Zt (z.P ++ [PR.mk (List.map z.T.val hs) e1 f1]))) c1, .slice b3 (Zc (z.B ++ [true])).length d1, .slice z.la (ZI z.LL).length z.lc] 43) rfl
  refine WL.nil ?_
  refine ⟨by exact trivial, ?_⟩
  intro m3
  replace Z := Z.drewN m3; generalize hwm3 : World.drewN _ _ = w at *; clear hwm3
  as_aux_lemma =>
  refine WC.seq <| WC.region <| WL.run 2 [.slice z.la (ZI z.LL).length z.lc] rfl (by exact Z.ld 14 rfl rfl) ?_
  replace Z := Z.nil_ 49 1
  refine WL.app rfl rfl 0 (ZI z.LL) el_41 Z rfl (Z.srcS 11 rfl) (List.nil_append _) (Rm.of (by first | omega | (simp <;> omega)) (by decide)) rfl rfl (fun a2 c2 w Z => ?_)
  replace Z := Z.n18 L (a0 := Zf 49 1 (ZI z.LL) a2 c2) rfl
  refine WL.r 1 rfl <| WL.lit rfl rfl (ZI [x]) el_41 Z (by exact ⟨rfl, rfl⟩) (Zp9 _) rfl (Nat.le_of_ble_eq_true rfl) (fun b6 w Z => ?_)
  refine WL.app rfl rfl 1 (ZI (z.LL ++ [x])) el_41 Z rfl (Z.srcO 0 rfl) (Zn2 _ _).symm (Rm.of (by first | omega | (simp <;> omega)) (by decide)) rfl rfl (fun a3 c3 w Z => ?_)
  replace Z := Z.n19 L (a0 := Zf 49 1 (ZI [x]) (some ⟨b6, 0, none⟩) (ZI [x]).length) (a1 := Zf 49 1 (ZI (z.LL ++ [x])) a3 c3) rfl
  refine WL.r 1 rfl <| WL.st rfl rfl rfl 16 Z rfl rfl rfl rfl rfl rfl (fun w Z => ?_)
  replace Z := Z.n19 L (a16 := Ze b1 #[.int .i64 z.cap, .int .i64 (z.T.open ((List.length z.P) + 1)).s.cap, .slice ra1 (List.length (Za (z.T.open ((List.length z.P) + 1)).s.rel)) rc1, .int .i64 ((z.T.open ((List.length z.P) + 1)).s.fresh + 1), .slice ga1 (List.length (Za ((z.T.open ((List.length z.P) + 1)).s.gen.drop 1))) gc1, .slice oa1 (List.length (Zc ((z.T.open ((List.length z.P) + 1)).s.used.drop 1))) oc1, .slice va1 (List.length (Za ((z.T.open ((List.length z.P) + 1)).vals.drop 1))) vc1, .int .i64 z.cap, .slice a1 (List.length (Zt (z.P ++ [PR.mk (List.map z.T.val hs) e1 f1]))) c1, .slice b3 (Zc (z.B ++ [true])).length d1, .slice a3 (ZI (z.LL ++ [x])).length c3] 43) rfl
  refine WL.nil <| WC.seq <| WC.region ?_
  replace Z := (Z.at_ 1 rfl).share
  replace Z := Z.n19 L (a0 := Sh 49 1 (ZI (z.LL ++ [x])) a3 c3) rfl
  replace Z : St g (Zn Jk (z.LL ++ [x]) :: Sh 49 1 (ZI (z.LL ++ [x])) a3 c3 :: Zf 49 1 (ZI [x]) (some ⟨b6, 0, none⟩) (ZI [x]).length :: Ze b5 #[.int .i64 (z.T.open ((List.length z.P) + 1)).s.cap, .slice ra1 (List.length (Za (z.T.open ((List.length z.P) + 1)).s.rel)) rc1, .int .i64 ((z.T.open ((List.length z.P) + 1)).s.fresh + 1), .slice ga1 (List.length (Za ((z.T.open ((List.length z.P) + 1)).s.gen.drop 1))) gc1, .slice oa1 (List.length (Zc ((z.T.open ((List.length z.P) + 1)).s.used.drop 1))) oc1, .slice va1 (List.length (Za ((z.T.open ((List.length z.P) + 1)).vals.drop 1))) vc1] 37 :: Sh 64 1 (Za (z.T.open ((List.length z.P) + 1)).s.rel) ra1 rc1 :: Sh 64 1 (Za ((z.T.open ((List.length z.P) + 1)).s.gen.drop 1)) ga1 gc1 :: Sh 4 1 (Zc ((z.T.open ((List.length z.P) + 1)).s.used.drop 1)) oa1 oc1 :: Sh 64 1 (Za ((z.T.open ((List.length z.P) + 1)).vals.drop 1)) va1 vc1 :: Ze b4 #[.int .i64 z.cap, .slice a1 (List.length (Zt (z.P ++ [PR.mk (List.map z.T.val hs) e1 f1]))) c1, .slice b3 (Zc (z.B ++ [true])).length d1] 40 :: Sh 56 1 (Zt (z.P ++ [PR.mk (List.map z.T.val hs) e1 f1])) a1 c1 :: Zn YO (z.P ++ [PR.mk (List.map z.T.val hs) e1 f1]) :: Sh 4 1 (Zc (z.B ++ [true])) b3 d1 :: Sh 3 1 (Zb (List.map z.T.val hs)) u d :: Sh 49 1 (ZI z.LL) z.la z.lc :: Zn Jk z.LL :: Zn Z6 [z] :: Ze b2 #[.int .i64 0, .int .i64 0, .slice none 0 0, .int .i64 0, .slice none 0 0, .slice none 0 0, .slice none 0 0, .int .i64 0, .slice none 0 0, .slice none 0 0, .slice none 0 0] 43 :: Ze b1 #[.int .i64 z.cap, .int .i64 (z.T.open ((List.length z.P) + 1)).s.cap, .slice ra1 (List.length (Za (z.T.open ((List.length z.P) + 1)).s.rel)) rc1, .int .i64 ((z.T.open ((List.length z.P) + 1)).s.fresh + 1), .slice ga1 (List.length (Za ((z.T.open ((List.length z.P) + 1)).s.gen.drop 1))) gc1, .slice oa1 (List.length (Zc ((z.T.open ((List.length z.P) + 1)).s.used.drop 1))) oc1, .slice va1 (List.length (Za ((z.T.open ((List.length z.P) + 1)).vals.drop 1))) vc1, .int .i64 z.cap, .slice a1 (List.length (Zt (z.P ++ [PR.mk (List.map z.T.val hs) e1 f1]))) c1, .slice b3 (Zc (z.B ++ [true])).length d1, .slice a3 (ZI (z.LL ++ [x])).length c3] 43 :: Sh 121 2 (Zq x.es) x.a x.c :: Sh 23 1 (Zg hs) pa2 pc2 :: L) w := St.shsSub (zs' := z.LL ++ [x]) (St.shsCons (Z.shsDup 13 rfl) (z := x) (Zqk _) [17] rfl) (fun y hy => by rcases List.mem_append.1 hy with hy | hy <;> simp at hy ⊢ <;> simp [hy])
  replace Z : St g (Zn Z6 [z.add (List.map z.T.val hs) x ra1 ga1 oa1 va1 a1 b3 a3 e1 rc1 gc1 oc1 vc1 c1 d1 c3 f1] :: Zn Jk (z.LL ++ [x]) :: Sh 49 1 (ZI (z.LL ++ [x])) a3 c3 :: Zf 49 1 (ZI [x]) (some ⟨b6, 0, none⟩) (ZI [x]).length :: Ze b5 #[.int .i64 (z.T.open ((List.length z.P) + 1)).s.cap, .slice ra1 (List.length (Za (z.T.open ((List.length z.P) + 1)).s.rel)) rc1, .int .i64 ((z.T.open ((List.length z.P) + 1)).s.fresh + 1), .slice ga1 (List.length (Za ((z.T.open ((List.length z.P) + 1)).s.gen.drop 1))) gc1, .slice oa1 (List.length (Zc ((z.T.open ((List.length z.P) + 1)).s.used.drop 1))) oc1, .slice va1 (List.length (Za ((z.T.open ((List.length z.P) + 1)).vals.drop 1))) vc1] 37 :: Sh 64 1 (Za (z.T.open ((List.length z.P) + 1)).s.rel) ra1 rc1 :: Sh 64 1 (Za ((z.T.open ((List.length z.P) + 1)).s.gen.drop 1)) ga1 gc1 :: Sh 4 1 (Zc ((z.T.open ((List.length z.P) + 1)).s.used.drop 1)) oa1 oc1 :: Sh 64 1 (Za ((z.T.open ((List.length z.P) + 1)).vals.drop 1)) va1 vc1 :: Ze b4 #[.int .i64 z.cap, .slice a1 (List.length (Zt (z.P ++ [PR.mk (List.map z.T.val hs) e1 f1]))) c1, .slice b3 (Zc (z.B ++ [true])).length d1] 40 :: Sh 56 1 (Zt (z.P ++ [PR.mk (List.map z.T.val hs) e1 f1])) a1 c1 :: Zn YO (z.P ++ [PR.mk (List.map z.T.val hs) e1 f1]) :: Sh 4 1 (Zc (z.B ++ [true])) b3 d1 :: Sh 3 1 (Zb (List.map z.T.val hs)) u d :: Sh 49 1 (ZI z.LL) z.la z.lc :: Zn Jk z.LL :: Zn Z6 [z] :: Ze b2 #[.int .i64 0, .int .i64 0, .slice none 0 0, .int .i64 0, .slice none 0 0, .slice none 0 0, .slice none 0 0, .int .i64 0, .slice none 0 0, .slice none 0 0, .slice none 0 0] 43 :: Ze b1 #[.int .i64 z.cap, .int .i64 (z.T.open ((List.length z.P) + 1)).s.cap, .slice ra1 (List.length (Za (z.T.open ((List.length z.P) + 1)).s.rel)) rc1, .int .i64 ((z.T.open ((List.length z.P) + 1)).s.fresh + 1), .slice ga1 (List.length (Za ((z.T.open ((List.length z.P) + 1)).s.gen.drop 1))) gc1, .slice oa1 (List.length (Zc ((z.T.open ((List.length z.P) + 1)).s.used.drop 1))) oc1, .slice va1 (List.length (Za ((z.T.open ((List.length z.P) + 1)).vals.drop 1))) vc1, .int .i64 z.cap, .slice a1 (List.length (Zt (z.P ++ [PR.mk (List.map z.T.val hs) e1 f1]))) c1, .slice b3 (Zc (z.B ++ [true])).length d1, .slice a3 (ZI (z.LL ++ [x])).length c3] 43 :: Sh 121 2 (Zq x.es) x.a x.c :: Sh 23 1 (Zg hs) pa2 pc2 :: L) w := Z.rsPut (z.add (List.map z.T.val hs) x ra1 ga1 oa1 va1 a1 b3 a3 e1 rc1 gc1 oc1 vc1 c1 d1 c3 f1) [4, 4, 4, 4, 5, 5, 5, 1, 0] rfl
  refine WL.ldF rfl rfl 18 Z rfl rfl Zy <| WL.r 1 rfl <| WL.stF rfl rfl rfl 17 Z rfl rfl rfl rfl rfl Zy (fun w Z => ?_)
  replace Z := Z.n21 L (a0 := Zn Z6 [z.add (List.map z.T.val hs) x ra1 ga1 oa1 va1 a1 b3 a3 e1 rc1 gc1 oc1 vc1 c1 d1 c3 f1]) (a1 := Zn Jk (z.LL ++ [x])) (a17 := Ze b2 #[.int .i64 z.cap, .int .i64 (z.T.open ((List.length z.P) + 1)).s.cap, .slice ra1 (List.length (Za (z.T.open ((List.length z.P) + 1)).s.rel)) rc1, .int .i64 ((z.T.open ((List.length z.P) + 1)).s.fresh + 1), .slice ga1 (List.length (Za ((z.T.open ((List.length z.P) + 1)).s.gen.drop 1))) gc1, .slice oa1 (List.length (Zc ((z.T.open ((List.length z.P) + 1)).s.used.drop 1))) oc1, .slice va1 (List.length (Za ((z.T.open ((List.length z.P) + 1)).vals.drop 1))) vc1, .int .i64 z.cap, .slice a1 (List.length (Zt (z.P ++ [PR.mk (List.map z.T.val hs) e1 f1]))) c1, .slice b3 (Zc (z.B ++ [true])).length d1, .slice a3 (ZI (z.LL ++ [x])).length c3] 43) rfl
  refine WL.r 2 rfl <| WL.nil ?_
  as_aux_lemma =>
  refine WC.ret ?_
  refine ⟨[.agg #[.int .i64 z.cap, .int .i64 (z.T.open ((List.length z.P) + 1)).s.cap, .slice ra1 (List.length (Za (z.T.open ((List.length z.P) + 1)).s.rel)) rc1, .int .i64 ((z.T.open ((List.length z.P) + 1)).s.fresh + 1), .slice ga1 (List.length (Za ((z.T.open ((List.length z.P) + 1)).s.gen.drop 1))) gc1, .slice oa1 (List.length (Zc ((z.T.open ((List.length z.P) + 1)).s.used.drop 1))) oc1, .slice va1 (List.length (Za ((z.T.open ((List.length z.P) + 1)).vals.drop 1))) vc1, .int .i64 z.cap, .slice a1 (List.length (Zt (z.P ++ [PR.mk (List.map z.T.val hs) e1 f1]))) c1, .slice b3 (Zc (z.B ++ [true])).length d1, .slice a3 (ZI (z.LL ++ [x])).length c3], .int .u64 z.T.newH, .int .i64 0], ⟨⟨_, rfl, Z.lvF 17 rfl Zy⟩, rfl, rfl⟩, ?_⟩
  replace Z := (Z.sel 19 [0] rfl)
  exact ⟨_, _, _, _, _, _, _, _, _, _, _, _, _, _, _, _, rfl, Z⟩
end Go.Proofs.YtbeacjcmdijdmaaGreat
namespace Go.Proofs.YtbeacjcmdijdmaaGreat
open Go Go.V
theorem Za3 {g w : World} {L : List HP} (a : Nat) (A : AM) (R : List Int) (i : Int) (hA : ARf A (i :: R)) (hR : R.length ≤ 900000000) (Z : St g (Zs a A :: L) w) :
  Sp Tryz.prog 34 [.pointer (some ⟨a, 0, none⟩), .int .u32 i] w (fun v w' => ∃ (A2 : AM) (f : Int), v = .tuple #[.int .i64 f, .int .i64 0] ∧ St g (Zs a A2 :: L) w' ∧ (Rl A A2 R) ∧ (f = A2.s.free - A.s.free)) := by
 exact (Zkm a A R i hA hR Z).mono fun v w' ⟨A2, f, hv, hS', h1, h2, h3, h4⟩ => ⟨A2, f, hv, hS', ⟨h1, h2.kp h1, by omega, h2.cap⟩, h3⟩
theorem Y0 {g w : World} {L : List HP} (a : Nat) (A : AM) (R : List Int) (i : Int) (t : Tr) (hA : ARf A R) (hi : Is A t i) (Z : St g (Zs a A :: L) w) :
  Sp Tryz.prog 103 [.pointer (some ⟨a, 0, none⟩), .int .u32 i] w (fun v w' => v = .int .i64 (t.n : Int) ∧ St g (Zs a A :: L) w') := by
 have h := hA.okrng hi.ref
 rw [← Is.sz hA t i hi]
 exact Zmf a A i hA.toAWf (by omega) Z
theorem Z_ {g w : World} {L : List HP} (a : Nat) (A : AM) (R : List Int) (l r k z : Int) (tl tr : Tr) (hA : ARf A (l :: r :: R)) (hl : Is A tl l) (hr : Is A tr r) (hf : 0 < A.s.free) (hz : R.length + tl.n + tr.n ≤ 850000000) (Z : St g (Zs a A :: L) w) :
  Sp Tryz.prog 173 [.pointer (some ⟨a, 0, none⟩), .int .u32 l, .agg #[.int .i64 k, .int .i64 z], .int .u32 r] w (fun v w' => ∃ (A2 : AM) (i : Int), v = .int .u32 i ∧ St g (Zs a A2 :: L) w' ∧ (TOp A A2 R i (.node tl k z tr) 1)) := by
 refine Sp.enter Tryz.func173 rfl (by kernel_rfl) (by kernel_rfl) ?_
 have _ := hz
 refine WC.seq <| WC.region ?_
 have hM := Mk.of (k := k) (v := z) hA hl hr hf (by omega) (by omega); have hrl := hA.rng (r := l) (by simp); have hrr := hA.rng (r := r) (by simp)
 refine WL.box rfl rfl #[.int .i64 k, .int .i64 z] Z rfl rfl (fun b1 w Z => ?_)
 refine WL.r 1 rfl <| WL.nil <| WC.seq <| WC.region <| WL.run 7 [.int .i64 k, .int .i64 z] rfl (by exact ⟨Z.ld 0 rfl rfl, Z.ld 0 rfl rfl⟩) ?_
 refine WL.call rfl rfl (Znb (key := k) (val := z) (l := l) (r := r) (hA := hA.toAWf) (hK := hM.kd) (hf := hf) (Z := (Z.sel 2 [1, 0] rfl))) rfl ?_
 clear Z; rintro _ w ⟨rfl, Z⟩
 replace Z : St g (Zs a (A.make (A.nodeOf k z l r)) :: Ze b1 #[.int .i64 k, .int .i64 z] 121 :: L) w := Z
 refine WL.r 5 rfl <| WL.nil <| WC.seq <| WC.region <| WL.r 2 rfl <| WL.call rfl rfl (Za3 (A := A.make (A.nodeOf k z l r)) (R := A.s.next :: r :: R) (i := l) (hA := hM.p1) (hR := (by simp only [List.length_cons]; omega)) (Z := Z)) rfl ?_
 clear Z; rintro _ w ⟨A1, f1, rfl, Z, f2, f3⟩
 replace Z := Z.n2 L (a0 := Zs a A1) rfl
 refine WL.nil <| WC.seq <| WC.region <| WL.r 2 rfl <| WL.call rfl rfl (Za3 (R := A.s.next :: R) (i := r) (hA := f2.p1) (hR := (by simp only [List.length_cons]; omega)) (Z := Z)) rfl ?_
 clear Z; rintro _ w ⟨A2, f4, rfl, Z, f5, f6⟩
 replace Z := Z.n2 L (a0 := Zs a A2) rfl
 refine WL.nil ?_
 as_aux_lemma =>
 refine WC.seq <| WC.region <| WL.r 2 rfl <| WL.nil <| WC.ret ?_
 refine ⟨[.int .u32 A.s.next], rfl, ?_⟩
 replace Z := (Z.sel 2 [0] rfl)
 exact ⟨_, _, rfl, Z, hM.op f2 f5⟩
theorem perm3 (x y i : Int) (R : List Int) : (y :: x :: i :: R).Perm (i :: x :: y :: R) :=
 ((List.Perm.swap x y _).trans (List.Perm.cons x (List.Perm.swap i y R))).trans (List.Perm.swap i x _)
theorem XA {g w : World} {L : List HP} (a : Nat) (A : AM) (R : List Int) (i k z : Int) (l r : Tr) (hA : ARf A (i :: R)) (hi : Is A (.node l k z r) i) (hz : R.length ≤ 850000000) (Z : St g (Zs a A :: L) w) :
  Sp Tryz.prog 174 [.pointer (some ⟨a, 0, none⟩), .int .u32 i] w (fun v w' => ∃ (A2 : AM) (x y : Int), v = .tuple #[.int .u32 x, .agg #[.int .i64 k, .int .i64 z], .int .u32 y] ∧ St g (Zs a A2 :: L) w' ∧ (Opn A A2 R x y l r)) := by
 refine Sp.enter Tryz.func174 rfl (by kernel_rfl) (by kernel_rfl) ?_
 have _ := hz
 refine WC.seq <| WC.region ?_
 obtain ⟨hi1, hi2, hik, hiv, hil, hir⟩ := hi; have hri := hA.rng (r := i) (by simp); have hrl := hA.okrng hil.ref; have hrr := hA.okrng hir.ref
 have hr1 := AM.ret_eq hA hil.ref (by simp; omega); have hr2 := AM.ret_eq hr1.1 (hir.ret (A.nd i).lf).ref (by simp; omega)
 refine WL.r 1 rfl <| WL.new rfl rfl YR Z (fun b1 w Z => ?_)
 refine WL.r 1 rfl <| WL.nil <| WC.seq <| WC.region <| WL.r 2 rfl <| WL.call rfl rfl (Zgp (i := i) (hA := hA.toAWf) (hi := (by omega)) (hio := hi2) (Z := (Z.sel 2 [1, 0] rfl))) rfl ?_
 clear Z; rintro _ w ⟨rfl, Z⟩
 replace Z := Z.n2 L (a1 := Ze b1 #[.int .i64 0, .int .i64 0] 121) rfl
 refine WL.r 3 rfl <| WL.new rfl rfl YS Z (fun b2 w Z => ?_)
 refine WL.stF rfl rfl rfl 0 Z rfl rfl rfl rfl rfl ZY (fun w Z => ?_)
 replace Z := Z.n3 L (a0 := Ze b2 #[.int .i64 (A.nd i).key, .int .i64 (A.nd i).val, .int .u32 (A.nd i).lf, .int .u32 (A.nd i).rg, .int .i64 (A.nd i).size, .int .i64 (A.nd i).sum, .int .i64 (A.nd i).mn, .int .i64 (A.nd i).mx] 172) rfl
 refine WL.r 1 rfl <| WL.nil <| WC.seq <| WC.seq <| WC.region <| WL.r 2 rfl <| WL.nil ?_
 as_aux_lemma =>
 refine WC.ifF rfl rfl <| WC.skip <| WC.seq <| WC.region <| WL.run 3 [.int .u32 (A.nd i).lf] rfl (by exact Z.ld 0 rfl rfl) ?_
 refine WL.call rfl rfl (Xp (i := (A.nd i).lf) (hA := hA.toAWf) (hi := (by omega)) (Z := (Z.sel 2 [1, 0] rfl))) rfl ?_
 clear Z; rintro _ w ⟨rfl, Z⟩
 replace Z := Z.n3 L (a0 := Zs a (A.ret (A.nd i).lf)) rfl
 refine WL.nil <| WC.seq <| WC.region <| WL.run 3 [.int .u32 (A.nd i).rg] rfl (by exact Z.ld 1 rfl rfl) ?_
 refine WL.call rfl rfl (Xp (A := A.ret (A.nd i).lf) (i := (A.nd i).rg) (hA := hr1.1.toAWf) (hi := (by omega)) (Z := Z)) rfl ?_
 clear Z; rintro _ w ⟨rfl, Z⟩
 replace Z := Z.n3 L (a0 := Zs a ((A.ret (A.nd i).lf).ret (A.nd i).rg)) rfl
 refine WL.nil <| WC.seq <| WC.region <| WL.r 2 rfl <| WL.call rfl rfl (Za3 (A := (A.ret (A.nd i).lf).ret (A.nd i).rg) (R := (A.nd i).lf :: (A.nd i).rg :: R) (i := i) (hA := (hr2.1.perm (perm3 _ _ _ _))) (hR := (by simp only [List.length_cons]; omega)) (Z := Z)) rfl ?_
 clear Z; rintro _ w ⟨A1, f1, rfl, Z, f2, f3⟩
 replace Z := Z.n3 L (a0 := Zs a A1) rfl
 refine WL.nil <| WC.seq <| WC.plan [([0, 2, 4, 7, 1, 3, 5, 8, 9], some (6, [0, 1, 7, 8, 9])), ([], some (10, [7, 8])), ([11], none)] (by kernel_rfl) (by kernel_rfl) ?_
 refine WQ.run 9 [.int .u32 (A.nd i).lf, .int .i64 (A.nd i).key, .int .i64 (A.nd i).val, .int .u32 (A.nd i).rg] rfl (by exact ⟨Z.ld 1 rfl rfl, Z.ld 1 rfl rfl, Z.ld 1 rfl rfl, Z.ld 1 rfl rfl⟩) ?_
 refine WQ.nil ?_
 intro m1
 replace Z := Z.drewN m1; generalize hwm1 : World.drewN _ _ = w at *; clear hwm1
 refine WL.build rfl rfl (cs := [.int .i64 (A.nd i).key, .int .i64 (A.nd i).val]) YR rfl rfl <| WL.nil ?_
 refine ⟨by exact ⟨RQ.pure rfl rfl rfl rfl, RQ.load rfl rfl rfl rfl (Z.ld 1 rfl rfl), RQ.pure rfl rfl rfl rfl, RQ.load rfl rfl rfl rfl (Z.ld 1 rfl rfl), RQ.pure rfl rfl rfl rfl⟩, ?_⟩
 refine WQ.nil ?_
 intro m2
 replace Z := Z.drewN m2; generalize hwm2 : World.drewN _ _ = w at *; clear hwm2
 refine WL.stF rfl rfl rfl 2 Z rfl rfl rfl rfl rfl Zp (fun w Z => ?_)
 replace Z := Z.n3 L (a2 := Ze b1 #[.int .i64 (A.nd i).key, .int .i64 (A.nd i).val] 121) rfl
 refine WL.nil ?_
 refine ⟨by exact ⟨RQ.pure rfl rfl rfl rfl, RQ.load rfl rfl rfl rfl (Z.ld 1 rfl rfl)⟩, ?_⟩
 refine WQ.r 1 rfl <| WQ.nil ?_
 intro m3
 replace Z := Z.drewN m3; generalize hwm3 : World.drewN _ _ = w at *; clear hwm3
 as_aux_lemma =>
 refine WC.ret ?_
 refine ⟨[.int .u32 (A.nd i).lf, .agg #[.int .i64 (A.nd i).key, .int .i64 (A.nd i).val], .int .u32 (A.nd i).rg], ⟨rfl, ⟨_, rfl, Z.lvF 2 rfl Zp⟩, rfl⟩, ?_⟩
 replace Z := (Z.sel 3 [0] rfl)
 exact ⟨_, _, _, by rw [← hik, ← hiv]; rfl, Z, Opn.of ⟨hi1, hi2, hik, hiv, hil, hir⟩ f2⟩
theorem Zby (p q : Prop) [Decidable p] [Decidable q] : (bif decide p then decide q else false) = decide (p ∧ q) := by
 by_cases h1 : p <;> by_cases h2 : q <;> simp [h1, h2]
theorem Xj {g w : World} {L : List HP} (x y : Int) (hx : 0 ≤ x ∧ x ≤ 2000000000) (hy : 0 ≤ y ∧ y ≤ 2000000000) (Z : St g (L) w) :
  Sp Tryz.prog 209 [.int .i64 x, .int .i64 y] w (fun v w' => v = .bool (decide (x + 1 ≤ 3 * (y + 1) ∧ y + 1 ≤ 3 * (x + 1))) ∧ St g (L) w') := by
 refine Sp.enter Tryz.func209 rfl (by kernel_rfl) (by kernel_rfl) ?_
 have _ := hy
 have _ := hx
 refine WC.seq <| WC.region <| WL.r 1 rfl <| WL.nil <| WC.seq <| WC.seq <| WC.region <| WL.r 2 rfl <| WL.rG 12 rfl (fun j => ?_)
 refine WL.prop 18 rfl (bor (bor (bor (dd _) (dd _)) (dd _)) (dd _)) <| WL.nil <| WC.ifF rfl (decide_eq_false ((by omega))) ?_
 refine WC.skip <| WC.seq <| WC.region <| WL.r 2 rfl <| WL.nw 20 rfl (Zr (by omega)) ?_
 refine WL.r 2 rfl <| WL.nw 22 rfl (Zr (by omega)) ?_
 refine WL.r 1 rfl <| WL.nw 23 rfl (Zr (by omega)) ?_
 refine WL.r 1 rfl <| WL.rG 9 rfl (fun j => ?_)
 refine WL.prop 32 rfl (Qd (dd _) (dd _)) <| WL.nil ?_
 as_aux_lemma =>
 refine WC.ret ?_
 refine ⟨[.bool (bif (decide ((x + 1) ≤ (3 * (y + 1)))) then (decide ((IntKind.i64.wrap (y + 1)) ≤ (IntKind.i64.wrap (3 * (IntKind.i64.wrap (x + 1)))))) else false)], rfl, ?_⟩
 exact ⟨congrArg Value.bool (by rw [Zr (z := y + 1) (by omega), Zr (z := x + 1) (by omega), Zr (z := 3 * (x + 1)) (by omega), Zby]), Z⟩
end Go.Proofs.YtbeacjcmdijdmaaGreat
namespace Go.Proofs.YtbeacjcmdijdmaaGreat
open Go Go.V
theorem X5 {t : Tr} (h : t.n ≠ 0) : ∃ l k v r, t = .node l k v r := by
 cases t with
 | nil => exact absurd rfl h
 | node l k v r => exact ⟨l, k, v, r, rfl⟩
theorem XY {a b : Prop} [Decidable a] [Decidable b] (h : a ↔ b) : decide a = decide b := by
 by_cases h1 : a
 ·rw [decide_eq_true h1, decide_eq_true (h.1 h1)]
 ·rw [decide_eq_false h1, decide_eq_false (fun h2 => h1 (h.2 h2))]
set_option maxHeartbeats 1000000 in
theorem Zmc {g w : World} {L : List HP} (a : Nat) (A : AM) (R : List Int) (l r k z : Int) (tl tm ts : Tr) (fk fz : Int) (hA : ARf A (l :: r :: R)) (hl : Is A tl l) (hr : Is A (.node tm fk fz ts) r) (hf : 3 ≤ A.s.free) (hz : R.length + tl.n + tm.n + ts.n ≤ 800000000) (Z : St g (Zs a A :: L) w) :
  Sp Tryz.prog 246 [.pointer (some ⟨a, 0, none⟩), .int .i64 (tl.n : Int), .int .u32 l, .agg #[.int .i64 k, .int .i64 z], .int .u32 r] w (fun v w' => ∃ (A2 : AM) (i : Int), v = .int .u32 i ∧ St g (Zs a A2 :: L) w' ∧ (TOp A A2 R i (Tr.litL tl k z (.node tm fk fz ts)) 3)) := by
 refine Sp.enter Tryz.func246 rfl (by kernel_rfl) (by kernel_rfl) ?_
 have _ := hz
 have _ := hf
 refine WC.seq <| WC.region <| WL.box rfl rfl #[.int .i64 k, .int .i64 z] Z rfl rfl (fun b1 w Z => ?_)
 refine WL.r 1 rfl <| WL.nil <| WC.seq <| WC.region <| WL.r 2 rfl <| WL.call rfl rfl (XA (R := l :: R) (i := r) (k := fk) (z := fz) (l := tm) (r := ts) (hA := hA.sw) (hi := hr) (hz := (by simp only [List.length_cons]; omega)) (Z := (Z.sel 2 [1, 0] rfl))) rfl ?_
 clear Z; rintro _ w ⟨A1, x1, y1, rfl, Z, f1⟩
 replace Z : St g (Zs a A1 :: Ze b1 #[.int .i64 k, .int .i64 z] 121 :: L) w := Z
 refine WL.r 4 rfl <| WL.new rfl rfl YR Z (fun b2 w Z => ?_)
 refine WL.r 1 rfl <| WL.stF rfl rfl rfl 0 Z rfl rfl rfl rfl rfl Zp (fun w Z => ?_)
 replace Z := Z.n3 L (a0 := Ze b2 #[.int .i64 fk, .int .i64 fz] 121) rfl
 refine WL.r 1 rfl <| WL.nil <| WC.seq <| WC.region ?_
 have hr1 := f1.rng; have hl1 := f1.kp l (by simp) tl hl; have hx0 := Is.nil_iff f1.il; have hfr1 := f1.fr
 refine WL.r 2 rfl <| WL.call rfl rfl (Y0 (R := x1 :: y1 :: l :: R) (i := x1) (t := tm) (hA := f1.ref) (hi := f1.il) (Z := (Z.sel 2 [1, 0] rfl))) rfl ?_
 clear Z; rintro _ w ⟨rfl, Z⟩
 replace Z := Z.n3 L rfl
 refine WL.r 1 rfl <| WL.nil ?_
 as_aux_lemma =>
 refine WC.seq <| WC.seq <| WC.cut [0, 2, 8, 10, 11, 12, 13, 45] (fun vs w => ∃ (tb : Bool), vs = [.pointer (some ⟨a, 0, none⟩), .int .u32 l, .pointer (some ⟨b1, 0, none⟩), .int .u32 0, .int .u32 x1, .pointer (some ⟨b2, 0, none⟩), .int .u32 y1, .bool tb] ∧ St g (Zs a A1 :: Ze b2 #[.int .i64 fk, .int .i64 fz] 121 :: Ze b1 #[.int .i64 k, .int .i64 z] 121 :: L) w ∧ (tb = decide (tm.n = 0 ∨ (Xs tl.n tm.n ∧ Xs (tl.n + tm.n + 1) ts.n)))) ?_ ?_
 ·refine WC.region <| WL.r 3 rfl ?_
  by_cases cg1 : x1 = 0
  ·refine WL.reb 31 (.bool true) (congrArg Value.bool (decide_eq_true cg1)) <| WL.skp rfl rfl rfl rfl <| WL.skp rfl rfl rfl rfl <| WL.skp rfl rfl rfl rfl <| WL.skp rfl rfl rfl rfl <| WL.skU rfl rfl rfl <| WL.skU rfl rfl rfl <| WL.skU rfl rfl rfl <| WL.skU rfl rfl rfl <| WL.skU rfl rfl rfl <| WL.skU rfl rfl rfl <| WL.skU rfl rfl rfl ?_
   refine WL.skU rfl rfl rfl <| WL.skp rfl rfl rfl rfl <| WL.r 1 rfl <| WL.nil ?_
   exact ⟨true, rfl, Z, (decide_eq_true (.inl (by rw [hx0.1 cg1]; rfl))).symm⟩
  ·refine WL.reb 31 (.bool false) (congrArg Value.bool (decide_eq_false cg1)) <| WL.ung rfl rfl rfl <| WL.r 1 rfl <| WL.ung rfl rfl rfl <| WL.r 1 rfl <| WL.ung rfl rfl rfl <| WL.call rfl rfl (Xj (x := (tl.n : Int)) (y := (tm.n : Int)) (hx := (by omega)) (hy := (by omega)) (Z := Z)) rfl ?_
   clear Z; rintro _ w ⟨rfl, Z⟩
   replace Z := Z.n3 L rfl
   refine WL.ung rfl rfl rfl <| WL.r 1 rfl ?_
   by_cases cg2 : (tl.n : Int) + 1 ≤ 3 * ((tm.n : Int) + 1) ∧ (tm.n : Int) + 1 ≤ 3 * ((tl.n : Int) + 1)
   ·refine WL.reb 35 (.bool true) (congrArg Value.bool (decide_eq_true cg2)) <| WL.ung rfl rfl rfl <| WL.r 1 rfl <| WL.ung rfl rfl rfl <| WL.r 1 rfl <| WL.ung rfl rfl rfl <| WL.r 1 rfl <| WL.nw 38 rfl (Zr (by omega)) ?_
    refine WL.ung rfl rfl rfl <| WL.r 1 rfl <| WL.nw 39 rfl (Zr (by omega)) ?_
    refine WL.ung rfl rfl rfl <| WL.r 1 rfl <| WL.ung rfl rfl rfl <| WL.r 1 rfl <| WL.ung rfl rfl rfl <| WL.call rfl rfl (Y0 (R := x1 :: y1 :: l :: R) (i := y1) (t := ts) (hA := f1.ref) (hi := f1.ir) (Z := Z)) rfl ?_
    clear Z; rintro _ w ⟨rfl, Z⟩
    replace Z := Z.n3 L rfl
    refine WL.ung rfl rfl rfl <| WL.call rfl rfl (Xj (x := ((tl.n : Int) + (tm.n : Int)) + 1) (y := (ts.n : Int)) (hx := (by omega)) (hy := (by omega)) (Z := Z)) rfl ?_
    clear Z; rintro _ w ⟨rfl, Z⟩
    replace Z := Z.n3 L rfl
    refine WL.ung rfl rfl rfl <| WL.r 2 rfl <| WL.nil ?_
    exact ⟨decide ((((tl.n : Int) + (tm.n : Int)) + 1) + 1 ≤ 3 * ((ts.n : Int) + 1) ∧ (ts.n : Int) + 1 ≤ 3 * ((((tl.n : Int) + (tm.n : Int)) + 1) + 1)), rfl, Z, (XY (by have h9 : tm.n ≠ 0 := fun e => cg1 (hx0.2 (Tr.n0 e)); unfold Xs; omega))⟩
   ·refine WL.reb 35 (.bool false) (congrArg Value.bool (decide_eq_false cg2)) <| WL.skp rfl rfl rfl rfl <| WL.skp rfl rfl rfl rfl <| WL.skp rfl rfl rfl rfl <| WL.skp rfl rfl rfl rfl <| WL.skp rfl rfl rfl rfl <| WL.skp rfl rfl rfl rfl <| WL.skp rfl rfl rfl rfl <| WL.skp rfl rfl rfl rfl <| WL.ung rfl rfl rfl <| WL.r 2 rfl <| WL.nil ?_
    exact ⟨false, rfl, Z, (decide_eq_false (by have h9 : tm.n ≠ 0 := fun e => cg1 (hx0.2 (Tr.n0 e)); unfold Xs; omega)).symm⟩
 clear Z; rintro _ w j ⟨tb, rfl, Z, hb⟩
 refine WC.if_ rfl (fun hc => ?_) (fun hc => ?_)
 ·refine WC.seq <| WC.plan [([0, 1, 2, 3, 4, 6, 7], some (5, [0, 6, 7])), ([], some (8, [])), ([9], none)] (by kernel_rfl) (by kernel_rfl) ?_
  refine WQ.r 3 rfl <| WQ.ldF rfl rfl 2 Z rfl rfl Zp <| WQ.r 1 rfl <| WQ.ldF rfl rfl 1 Z rfl rfl Zp <| WQ.r 1 rfl <| WQ.nil ?_
  intro m1
  replace Z := Z.drewN m1; generalize hwm1 : World.drewN _ _ = w at *; clear hwm1
  refine WL.call rfl rfl (Z_ (R := y1 :: R) (l := l) (r := x1) (k := k) (z := z) (tl := tl) (tr := tm) (hA := f1.ref.r3) (hl := hl1) (hr := f1.il) (hf := (by omega)) (hz := (by simp only [List.length_cons]; omega)) (Z := Z)) rfl ?_
  clear Z; rintro _ w ⟨A2, i1, rfl, Z, f2⟩
  replace Z := Z.n3 L (a0 := Zs a A2) rfl
  refine WL.nil ?_
  refine ⟨by exact ⟨RQ.pure rfl rfl rfl rfl, RQ.ldF rfl rfl 1 Z rfl rfl Zp rfl rfl, RQ.pure rfl rfl rfl rfl⟩, ?_⟩
  refine WQ.nil ?_
  intro m2
  replace Z := Z.drewN m2; generalize hwm2 : World.drewN _ _ = w at *; clear hwm2
  refine WL.call rfl rfl (Z_ (R := R) (l := i1) (r := y1) (k := fk) (z := fz) (tl := .node tl k z tm) (tr := ts) (hA := f2.ref) (hl := f2.is) (hr := (f2.kp y1 (by simp) ts f1.ir)) (hf := (by have := f2.fr; omega)) (hz := (by simp only [Tr.n]; omega)) (Z := Z)) rfl ?_
  clear Z; rintro _ w ⟨A3, i2, rfl, Z, f3⟩
  replace Z := Z.n3 L (a0 := Zs a A3) rfl
  refine WL.nil ?_
  refine ⟨by exact trivial, ?_⟩
  refine WQ.r 1 rfl <| WQ.nil ?_
  intro m3
  replace Z := Z.drewN m3; generalize hwm3 : World.drewN _ _ = w at *; clear hwm3
  as_aux_lemma =>
  refine WC.ret ?_
  refine ⟨[.int .u32 i2], rfl, ?_⟩
  replace Z := (Z.sel 3 [0] rfl)
  exact ⟨_, _, rfl, Z, by rw [Tr.litL, if_pos (of_decide_eq_true (hb ▸ hc))]; exact f3.after (f1.ch.trans f2.ch sb1 sb1) sb0 (by omega)⟩
 ·refine WC.skip <| WC.seq <| WC.region ?_
  have hcn := of_decide_eq_false (hb.symm.trans hc); obtain ⟨tx, gk, gz, ty, htm⟩ := X5 (t := tm) (fun e => hcn (.inl e)); have him : Is A1 (.node tx gk gz ty) x1 := htm ▸ f1.il; have htn : tm.n = tx.n + ty.n + 1 := (by rw [htm]; rfl)
  refine WL.r 2 rfl <| WL.call rfl rfl (XA (R := y1 :: l :: R) (i := x1) (k := gk) (z := gz) (l := tx) (r := ty) (hA := f1.ref) (hi := him) (hz := (by simp only [List.length_cons]; omega)) (Z := Z)) rfl ?_
  clear Z; rintro _ w ⟨A2, x2, y2, rfl, Z, f2⟩
  replace Z := Z.n3 L (a0 := Zs a A2) rfl
  refine WL.r 4 rfl <| WL.new rfl rfl YR Z (fun b3 w Z => ?_)
  refine WL.r 1 rfl <| WL.stF rfl rfl rfl 0 Z rfl rfl rfl rfl rfl Zp (fun w Z => ?_)
  replace Z := Z.n4 L (a0 := Ze b3 #[.int .i64 gk, .int .i64 gz] 121) rfl
  refine WL.r 1 rfl <| WL.nil <| WC.seq <| WC.region ?_
  have hr2 := f2.rng; have hl2 := f2.kp l (by simp) tl hl1; have hs2 := f2.kp y1 (by simp) ts f1.ir; have hfr2 := f2.fr
  refine WL.r 2 rfl <| WL.ldF rfl rfl 3 Z rfl rfl Zp <| WL.r 1 rfl <| WL.call rfl rfl (Z_ (R := y2 :: y1 :: R) (l := l) (r := x2) (k := k) (z := z) (tl := tl) (tr := tx) (hA := f2.ref.r4) (hl := hl2) (hr := f2.il) (hf := (by omega)) (hz := (by simp only [List.length_cons]; omega)) (Z := (Z.sel 2 [1, 0] rfl))) rfl ?_
  clear Z; rintro _ w ⟨A3, i1, rfl, Z, f3⟩
  replace Z := Z.n4 L (a0 := Zs a A3) rfl
  refine WL.r 1 rfl <| WL.nil ?_
  as_aux_lemma =>
  refine WC.seq <| WC.plan [([0, 1, 2, 3, 4, 5, 6], some (7, [0, 1, 2])), ([], some (8, [])), ([9], none)] (by kernel_rfl) (by kernel_rfl) ?_
  have hr3 := f3.rng; have hfr3 := f3.fr
  refine WQ.r 2 rfl <| WQ.ldF rfl rfl 1 Z rfl rfl Zp <| WQ.r 2 rfl <| WQ.ldF rfl rfl 2 Z rfl rfl Zp <| WQ.r 1 rfl <| WQ.nil ?_
  intro m1
  replace Z := Z.drewN m1; generalize hwm1 : World.drewN _ _ = w at *; clear hwm1
  refine WL.call rfl rfl (Z_ (R := i1 :: R) (l := y2) (r := y1) (k := fk) (z := fz) (tl := ty) (tr := ts) (hA := f3.ref.r3.r3) (hl := (f3.kp y2 (by simp) ty f2.ir)) (hr := (f3.kp y1 (by simp) ts hs2)) (hf := (by omega)) (hz := (by simp only [List.length_cons]; omega)) (Z := Z)) rfl ?_
  clear Z; rintro _ w ⟨A4, i2, rfl, Z, f4⟩
  replace Z := Z.n4 L (a0 := Zs a A4) rfl
  refine WL.nil ?_
  refine ⟨by exact ⟨RQ.pure rfl rfl rfl rfl, RQ.pure rfl rfl rfl rfl, RQ.ldF rfl rfl 1 Z rfl rfl Zp rfl rfl⟩, ?_⟩
  refine WQ.nil ?_
  intro m2
  replace Z := Z.drewN m2; generalize hwm2 : World.drewN _ _ = w at *; clear hwm2
  refine WL.call rfl rfl (Z_ (R := R) (l := i1) (r := i2) (k := gk) (z := gz) (tl := .node tl k z tx) (tr := .node ty fk fz ts) (hA := f4.ref.sw) (hl := (f4.kp i1 (by simp) _ f3.is)) (hr := f4.is) (hf := (by have := f4.fr; omega)) (hz := (by simp only [Tr.n]; omega)) (Z := Z)) rfl ?_
  clear Z; rintro _ w ⟨A5, i3, rfl, Z, f5⟩
  replace Z := Z.n4 L (a0 := Zs a A5) rfl
  refine WL.nil ?_
  refine ⟨by exact trivial, ?_⟩
  refine WQ.r 1 rfl <| WQ.nil ?_
  intro m3
  replace Z := Z.drewN m3; generalize hwm3 : World.drewN _ _ = w at *; clear hwm3
  as_aux_lemma =>
  refine WC.ret ?_
  refine ⟨[.int .u32 i3], rfl, ?_⟩
  replace Z := (Z.sel 4 [0] rfl)
  exact ⟨_, _, rfl, Z, by rw [Tr.litL, if_neg hcn, htm]; exact f5.after ((f1.ch.trans f2.ch sb1 sb2).trans (f3.ch.trans f4.ch sb2 sb1) sb0 sb0) sb0 (by omega)⟩
set_option maxHeartbeats 1000000 in
theorem Zm1 {g w : World} {L : List HP} (a : Nat) (A : AM) (R : List Int) (l r k z : Int) (tr tm ts : Tr) (fk fz : Int) (hA : ARf A (l :: r :: R)) (hl : Is A (.node ts fk fz tm) l) (hr : Is A tr r) (hf : 3 ≤ A.s.free) (hz : R.length + tr.n + tm.n + ts.n ≤ 800000000) (Z : St g (Zs a A :: L) w) :
  Sp Tryz.prog 247 [.pointer (some ⟨a, 0, none⟩), .int .i64 (tr.n : Int), .int .u32 l, .agg #[.int .i64 k, .int .i64 z], .int .u32 r] w (fun v w' => ∃ (A2 : AM) (i : Int), v = .int .u32 i ∧ St g (Zs a A2 :: L) w' ∧ (TOp A A2 R i (Tr.litR tr k z (.node ts fk fz tm)) 3)) := by
 refine Sp.enter Tryz.func247 rfl (by kernel_rfl) (by kernel_rfl) ?_
 have _ := hz
 have _ := hf
 refine WC.seq <| WC.region <| WL.box rfl rfl #[.int .i64 k, .int .i64 z] Z rfl rfl (fun b1 w Z => ?_)
 refine WL.r 1 rfl <| WL.nil <| WC.seq <| WC.region <| WL.r 2 rfl <| WL.call rfl rfl (XA (R := r :: R) (i := l) (k := fk) (z := fz) (l := ts) (r := tm) (hA := hA) (hi := hl) (hz := (by simp only [List.length_cons]; omega)) (Z := (Z.sel 2 [1, 0] rfl))) rfl ?_
 clear Z; rintro _ w ⟨A1, x1, y1, rfl, Z, f1⟩
 replace Z : St g (Zs a A1 :: Ze b1 #[.int .i64 k, .int .i64 z] 121 :: L) w := Z
 refine WL.r 4 rfl <| WL.new rfl rfl YR Z (fun b2 w Z => ?_)
 refine WL.r 1 rfl <| WL.stF rfl rfl rfl 0 Z rfl rfl rfl rfl rfl Zp (fun w Z => ?_)
 replace Z := Z.n3 L (a0 := Ze b2 #[.int .i64 fk, .int .i64 fz] 121) rfl
 refine WL.r 1 rfl <| WL.nil <| WC.seq <| WC.region ?_
 have hr1 := f1.rng; have hl1 := f1.kp r (by simp) tr hr; have hx0 := Is.nil_iff f1.ir; have hfr1 := f1.fr
 refine WL.r 2 rfl <| WL.call rfl rfl (Y0 (R := x1 :: y1 :: r :: R) (i := y1) (t := tm) (hA := f1.ref) (hi := f1.ir) (Z := (Z.sel 2 [1, 0] rfl))) rfl ?_
 clear Z; rintro _ w ⟨rfl, Z⟩
 replace Z := Z.n3 L rfl
 refine WL.r 1 rfl <| WL.nil ?_
 as_aux_lemma =>
 refine WC.seq <| WC.seq <| WC.cut [0, 4, 8, 10, 11, 12, 13, 45] (fun vs w => ∃ (tb : Bool), vs = [.pointer (some ⟨a, 0, none⟩), .int .u32 r, .pointer (some ⟨b1, 0, none⟩), .int .u32 0, .int .u32 x1, .pointer (some ⟨b2, 0, none⟩), .int .u32 y1, .bool tb] ∧ St g (Zs a A1 :: Ze b2 #[.int .i64 fk, .int .i64 fz] 121 :: Ze b1 #[.int .i64 k, .int .i64 z] 121 :: L) w ∧ (tb = decide (tm.n = 0 ∨ (Xs tm.n tr.n ∧ Xs ts.n (tm.n + tr.n + 1))))) ?_ ?_
 ·refine WC.region <| WL.r 3 rfl ?_
  by_cases cg1 : y1 = 0
  ·refine WL.reb 31 (.bool true) (congrArg Value.bool (decide_eq_true cg1)) <| WL.skp rfl rfl rfl rfl <| WL.skp rfl rfl rfl rfl <| WL.skp rfl rfl rfl rfl <| WL.skp rfl rfl rfl rfl <| WL.skU rfl rfl rfl <| WL.skU rfl rfl rfl <| WL.skU rfl rfl rfl <| WL.skU rfl rfl rfl <| WL.skU rfl rfl rfl <| WL.skU rfl rfl rfl <| WL.skU rfl rfl rfl ?_
   refine WL.skU rfl rfl rfl <| WL.skp rfl rfl rfl rfl <| WL.r 1 rfl <| WL.nil ?_
   exact ⟨true, rfl, Z, (decide_eq_true (.inl (by rw [hx0.1 cg1]; rfl))).symm⟩
  ·refine WL.reb 31 (.bool false) (congrArg Value.bool (decide_eq_false cg1)) <| WL.ung rfl rfl rfl <| WL.r 1 rfl <| WL.ung rfl rfl rfl <| WL.r 1 rfl <| WL.ung rfl rfl rfl <| WL.call rfl rfl (Xj (x := (tm.n : Int)) (y := (tr.n : Int)) (hx := (by omega)) (hy := (by omega)) (Z := Z)) rfl ?_
   clear Z; rintro _ w ⟨rfl, Z⟩
   replace Z := Z.n3 L rfl
   refine WL.ung rfl rfl rfl <| WL.r 1 rfl ?_
   by_cases cg2 : (tm.n : Int) + 1 ≤ 3 * ((tr.n : Int) + 1) ∧ (tr.n : Int) + 1 ≤ 3 * ((tm.n : Int) + 1)
   ·refine WL.reb 35 (.bool true) (congrArg Value.bool (decide_eq_true cg2)) <| WL.ung rfl rfl rfl <| WL.r 1 rfl <| WL.ung rfl rfl rfl <| WL.r 1 rfl <| WL.ung rfl rfl rfl <| WL.call rfl rfl (Y0 (R := x1 :: y1 :: r :: R) (i := x1) (t := ts) (hA := f1.ref) (hi := f1.il) (Z := Z)) rfl ?_
    clear Z; rintro _ w ⟨rfl, Z⟩
    replace Z := Z.n3 L rfl
    refine WL.ung rfl rfl rfl <| WL.r 1 rfl <| WL.ung rfl rfl rfl <| WL.r 1 rfl <| WL.ung rfl rfl rfl <| WL.r 1 rfl <| WL.nw 41 rfl (Zr (by omega)) ?_
    refine WL.ung rfl rfl rfl <| WL.r 1 rfl <| WL.nw 42 rfl (Zr (by omega)) ?_
    refine WL.ung rfl rfl rfl <| WL.call rfl rfl (Xj (x := (ts.n : Int)) (y := ((tm.n : Int) + (tr.n : Int)) + 1) (hx := (by omega)) (hy := (by omega)) (Z := Z)) rfl ?_
    clear Z; rintro _ w ⟨rfl, Z⟩
    replace Z := Z.n3 L rfl
    refine WL.ung rfl rfl rfl <| WL.r 2 rfl <| WL.nil ?_
    exact ⟨decide ((ts.n : Int) + 1 ≤ 3 * ((((tm.n : Int) + (tr.n : Int)) + 1) + 1) ∧ (((tm.n : Int) + (tr.n : Int)) + 1) + 1 ≤ 3 * ((ts.n : Int) + 1)), rfl, Z, (XY (by have h9 : tm.n ≠ 0 := fun e => cg1 (hx0.2 (Tr.n0 e)); unfold Xs; omega))⟩
   ·refine WL.reb 35 (.bool false) (congrArg Value.bool (decide_eq_false cg2)) <| WL.skp rfl rfl rfl rfl <| WL.skp rfl rfl rfl rfl <| WL.skp rfl rfl rfl rfl <| WL.skp rfl rfl rfl rfl <| WL.skp rfl rfl rfl rfl <| WL.skp rfl rfl rfl rfl <| WL.skp rfl rfl rfl rfl <| WL.skp rfl rfl rfl rfl <| WL.ung rfl rfl rfl <| WL.r 2 rfl <| WL.nil ?_
    exact ⟨false, rfl, Z, (decide_eq_false (by have h9 : tm.n ≠ 0 := fun e => cg1 (hx0.2 (Tr.n0 e)); unfold Xs; omega)).symm⟩
 clear Z; rintro _ w j ⟨tb, rfl, Z, hb⟩
 refine WC.if_ rfl (fun hc => ?_) (fun hc => ?_)
 ·refine WC.seq <| WC.plan [([0, 1, 2, 3, 4, 5, 6], some (7, [0, 1, 2])), ([], some (8, [])), ([9], none)] (by kernel_rfl) (by kernel_rfl) ?_
  refine WQ.r 2 rfl <| WQ.ldF rfl rfl 1 Z rfl rfl Zp <| WQ.r 2 rfl <| WQ.ldF rfl rfl 2 Z rfl rfl Zp <| WQ.r 1 rfl <| WQ.nil ?_
  intro m1
  replace Z := Z.drewN m1; generalize hwm1 : World.drewN _ _ = w at *; clear hwm1
  refine WL.call rfl rfl (Z_ (R := x1 :: R) (l := y1) (r := r) (k := k) (z := z) (tl := tm) (tr := tr) (hA := f1.ref.r3.r3) (hl := f1.ir) (hr := hl1) (hf := (by omega)) (hz := (by simp only [List.length_cons]; omega)) (Z := Z)) rfl ?_
  clear Z; rintro _ w ⟨A2, i1, rfl, Z, f2⟩
  replace Z := Z.n3 L (a0 := Zs a A2) rfl
  refine WL.nil ?_
  refine ⟨by exact ⟨RQ.pure rfl rfl rfl rfl, RQ.pure rfl rfl rfl rfl, RQ.ldF rfl rfl 1 Z rfl rfl Zp rfl rfl⟩, ?_⟩
  refine WQ.nil ?_
  intro m2
  replace Z := Z.drewN m2; generalize hwm2 : World.drewN _ _ = w at *; clear hwm2
  refine WL.call rfl rfl (Z_ (R := R) (l := x1) (r := i1) (k := fk) (z := fz) (tl := ts) (tr := .node tm k z tr) (hA := f2.ref.sw) (hl := (f2.kp x1 (by simp) ts f1.il)) (hr := f2.is) (hf := (by have := f2.fr; omega)) (hz := (by simp only [Tr.n]; omega)) (Z := Z)) rfl ?_
  clear Z; rintro _ w ⟨A3, i2, rfl, Z, f3⟩
  replace Z := Z.n3 L (a0 := Zs a A3) rfl
  refine WL.nil ?_
  refine ⟨by exact trivial, ?_⟩
  refine WQ.r 1 rfl <| WQ.nil ?_
  intro m3
  replace Z := Z.drewN m3; generalize hwm3 : World.drewN _ _ = w at *; clear hwm3
  as_aux_lemma =>
  refine WC.ret ?_
  refine ⟨[.int .u32 i2], rfl, ?_⟩
  replace Z := (Z.sel 3 [0] rfl)
  exact ⟨_, _, rfl, Z, by rw [Tr.litR, if_pos (of_decide_eq_true (hb ▸ hc))]; exact f3.after (f1.ch.trans f2.ch sb1 sb1) sb0 (by omega)⟩
 ·refine WC.skip <| WC.seq <| WC.region ?_
  have hcn := of_decide_eq_false (hb.symm.trans hc); obtain ⟨tx, gk, gz, ty, htm⟩ := X5 (t := tm) (fun e => hcn (.inl e)); have him : Is A1 (.node tx gk gz ty) y1 := htm ▸ f1.ir; have htn : tm.n = tx.n + ty.n + 1 := (by rw [htm]; rfl)
  refine WL.r 2 rfl <| WL.call rfl rfl (XA (R := x1 :: r :: R) (i := y1) (k := gk) (z := gz) (l := tx) (r := ty) (hA := f1.swap) (hi := him) (hz := (by simp only [List.length_cons]; omega)) (Z := Z)) rfl ?_
  clear Z; rintro _ w ⟨A2, x2, y2, rfl, Z, f2⟩
  replace Z := Z.n3 L (a0 := Zs a A2) rfl
  refine WL.r 4 rfl <| WL.new rfl rfl YR Z (fun b3 w Z => ?_)
  refine WL.r 1 rfl <| WL.stF rfl rfl rfl 0 Z rfl rfl rfl rfl rfl Zp (fun w Z => ?_)
  replace Z := Z.n4 L (a0 := Ze b3 #[.int .i64 gk, .int .i64 gz] 121) rfl
  refine WL.r 1 rfl <| WL.nil <| WC.seq <| WC.region ?_
  have hr2 := f2.rng; have hl2 := f2.kp r (by simp) tr hl1; have hs2 := f2.kp x1 (by simp) ts f1.il; have hfr2 := f2.fr
  refine WL.r 2 rfl <| WL.ldF rfl rfl 2 Z rfl rfl Zp <| WL.r 1 rfl <| WL.call rfl rfl (Z_ (R := y2 :: r :: R) (l := x1) (r := x2) (k := fk) (z := fz) (tl := ts) (tr := tx) (hA := f2.ref.r3) (hl := hs2) (hr := f2.il) (hf := (by omega)) (hz := (by simp only [List.length_cons]; omega)) (Z := (Z.sel 2 [1, 0] rfl))) rfl ?_
  clear Z; rintro _ w ⟨A3, i1, rfl, Z, f3⟩
  replace Z := Z.n4 L (a0 := Zs a A3) rfl
  refine WL.r 1 rfl <| WL.nil ?_
  as_aux_lemma =>
  refine WC.seq <| WC.plan [([0, 1, 2, 3, 4, 5, 6], some (7, [0, 1, 2])), ([], some (8, [])), ([9], none)] (by kernel_rfl) (by kernel_rfl) ?_
  have hr3 := f3.rng; have hfr3 := f3.fr
  refine WQ.r 2 rfl <| WQ.ldF rfl rfl 1 Z rfl rfl Zp <| WQ.r 2 rfl <| WQ.ldF rfl rfl 3 Z rfl rfl Zp <| WQ.r 1 rfl <| WQ.nil ?_
  intro m1
  replace Z := Z.drewN m1; generalize hwm1 : World.drewN _ _ = w at *; clear hwm1
  refine WL.call rfl rfl (Z_ (R := i1 :: R) (l := y2) (r := r) (k := k) (z := z) (tl := ty) (tr := tr) (hA := f3.ref.r3.r3) (hl := (f3.kp y2 (by simp) ty f2.ir)) (hr := (f3.kp r (by simp) tr hl2)) (hf := (by omega)) (hz := (by simp only [List.length_cons]; omega)) (Z := Z)) rfl ?_
  clear Z; rintro _ w ⟨A4, i2, rfl, Z, f4⟩
  replace Z := Z.n4 L (a0 := Zs a A4) rfl
  refine WL.nil ?_
  refine ⟨by exact ⟨RQ.pure rfl rfl rfl rfl, RQ.pure rfl rfl rfl rfl, RQ.ldF rfl rfl 1 Z rfl rfl Zp rfl rfl⟩, ?_⟩
  refine WQ.nil ?_
  intro m2
  replace Z := Z.drewN m2; generalize hwm2 : World.drewN _ _ = w at *; clear hwm2
  refine WL.call rfl rfl (Z_ (R := R) (l := i1) (r := i2) (k := gk) (z := gz) (tl := .node ts fk fz tx) (tr := .node ty k z tr) (hA := f4.ref.sw) (hl := (f4.kp i1 (by simp) _ f3.is)) (hr := f4.is) (hf := (by have := f4.fr; omega)) (hz := (by simp only [Tr.n]; omega)) (Z := Z)) rfl ?_
  clear Z; rintro _ w ⟨A5, i3, rfl, Z, f5⟩
  replace Z := Z.n4 L (a0 := Zs a A5) rfl
  refine WL.nil ?_
  refine ⟨by exact trivial, ?_⟩
  refine WQ.r 1 rfl <| WQ.nil ?_
  intro m3
  replace Z := Z.drewN m3; generalize hwm3 : World.drewN _ _ = w at *; clear hwm3
  as_aux_lemma =>
  refine WC.ret ?_
  refine ⟨[.int .u32 i3], rfl, ?_⟩
  replace Z := (Z.sel 4 [0] rfl)
  exact ⟨_, _, rfl, Z, by rw [Tr.litR, if_neg hcn, htm]; exact f5.after ((f1.ch.trans f2.ch sb1 sb2).trans (f3.ch.trans f4.ch sb2 sb1) sb0 sb0) sb0 (by omega)⟩
set_option maxHeartbeats 1000000 in
theorem Zj4 {g w : World} {L : List HP} (a : Nat) (A : AM) (R : List Int) (l r k z : Int) (tl tr : Tr) (hA : ARf A (l :: r :: R)) (hl : Is A tl l) (hr : Is A tr r) (hf : 3 ≤ A.s.free) (hz : R.length + tl.n + tr.n ≤ 800000000) (Z : St g (Zs a A :: L) w) :
  Sp Tryz.prog 210 [.pointer (some ⟨a, 0, none⟩), .int .u32 l, .agg #[.int .i64 k, .int .i64 z], .int .u32 r] w (fun v w' => ∃ (A2 : AM) (i : Int), v = .int .u32 i ∧ St g (Zs a A2 :: L) w' ∧ (TOp A A2 R i (Tr.bal tl k z tr) 3)) := by
 refine Sp.enter Tryz.func210 rfl (by kernel_rfl) (by kernel_rfl) ?_
 have _ := hz
 refine WC.seq <| WC.region <| WL.box rfl rfl #[.int .i64 k, .int .i64 z] Z rfl rfl (fun b1 w Z => ?_)
 refine WL.r 1 rfl <| WL.nil <| WC.seq <| WC.region <| WL.r 2 rfl <| WL.call rfl rfl (Y0 (R := l :: r :: R) (i := l) (t := tl) (hA := hA) (hi := hl) (Z := (Z.sel 2 [1, 0] rfl))) rfl ?_
 clear Z; rintro _ w ⟨rfl, Z⟩
 replace Z := Z.n2 L (a1 := Ze b1 #[.int .i64 k, .int .i64 z] 121) rfl
 refine WL.r 2 rfl <| WL.call rfl rfl (Y0 (R := l :: r :: R) (i := r) (t := tr) (hA := hA) (hi := hr) (Z := Z)) rfl ?_
 clear Z; rintro _ w ⟨rfl, Z⟩
 replace Z := Z.n2 L rfl
 refine WL.r 2 rfl <| WL.nil <| WC.seq <| WC.block <| WC.seq <| WC.region <| WL.r 2 rfl <| WL.call rfl rfl (Xj (x := (tl.n : Int)) (y := (tr.n : Int)) (hx := (by omega)) (hy := (by omega)) (Z := Z)) rfl ?_
 clear Z; rintro _ w ⟨rfl, Z⟩
 replace Z := Z.n2 L rfl
 refine WL.r 1 rfl <| WL.nil ?_
 as_aux_lemma =>
 refine WC.ifP rfl (fun hb => ?_) (fun hb => ?_)
 ·refine WC.seq <| WC.region <| WL.r 2 rfl <| WL.ldF rfl rfl 1 Z rfl rfl Zp <| WL.r 1 rfl <| WL.call rfl rfl (Z_ (R := R) (l := l) (r := r) (k := k) (z := z) (tl := tl) (tr := tr) (hA := hA) (hl := hl) (hr := hr) (hf := (by omega)) (hz := (by omega)) (Z := Z)) rfl ?_
  clear Z; rintro _ w ⟨A1, i1, rfl, Z, f1⟩
  replace Z := Z.n2 L (a0 := Zs a A1) rfl
  refine WL.r 1 rfl <| WL.nil <| WC.ret ?_
  refine ⟨[.int .u32 i1], rfl, ?_⟩
  replace Z := (Z.sel 2 [0] rfl)
  exact ⟨_, _, rfl, Z, by unfold Tr.bal; rw [if_pos (show Xs tl.n tr.n by unfold Xs; omega)]; exact f1.weak (by omega)⟩
 ·refine WC.seq <| WC.region <| WL.r 4 rfl <| WL.nil <| WC.ifP rfl (fun hlt => ?_) (fun hlt => ?_)
  ·refine WC.seq <| WC.region ?_
   have hbn : ¬ Xs tl.n tr.n := (by unfold Xs; omega); obtain ⟨tm, fk, fz, ts, htr⟩ := X5 (t := tr) (by omega); have htn : tr.n = tm.n + ts.n + 1 := (by rw [htr]; rfl); have hr2 : Is A (.node tm fk fz ts) r := htr ▸ hr
   refine WL.r 3 rfl <| WL.ldF rfl rfl 1 Z rfl rfl Zp <| WL.r 1 rfl <| WL.call rfl rfl (Zmc (R := R) (l := l) (r := r) (k := k) (z := z) (tl := tl) (tm := tm) (ts := ts) (fk := fk) (fz := fz) (hA := hA) (hl := hl) (hr := hr2) (hf := hf) (hz := (by omega)) (Z := Z)) rfl ?_
   clear Z; rintro _ w ⟨A1, i1, rfl, Z, f1⟩
   replace Z := Z.n2 L (a0 := Zs a A1) rfl
   refine WL.r 1 rfl <| WL.nil <| WC.ret ?_
   refine ⟨[.int .u32 i1], rfl, ?_⟩
   replace Z := (Z.sel 2 [0] rfl)
   exact ⟨_, _, rfl, Z, by unfold Tr.bal; rw [if_neg hbn, if_pos (show tl.n < tr.n by omega), htr]; exact f1⟩
  ·refine WC.skip <| WC.seq <| WC.region ?_
   have hbn : ¬ Xs tl.n tr.n := (by unfold Xs; omega); obtain ⟨ts, fk, fz, tm, htr⟩ := X5 (t := tl) (by omega); have htn : tl.n = ts.n + tm.n + 1 := (by rw [htr]; rfl); have hl2 : Is A (.node ts fk fz tm) l := htr ▸ hl
   refine WL.r 3 rfl <| WL.ldF rfl rfl 1 Z rfl rfl Zp <| WL.r 1 rfl <| WL.call rfl rfl (Zm1 (R := R) (l := l) (r := r) (k := k) (z := z) (tr := tr) (tm := tm) (ts := ts) (fk := fk) (fz := fz) (hA := hA) (hl := hl2) (hr := hr) (hf := hf) (hz := (by omega)) (Z := Z)) rfl ?_
   clear Z; rintro _ w ⟨A1, i1, rfl, Z, f1⟩
   replace Z := Z.n2 L (a0 := Zs a A1) rfl
   refine WL.r 1 rfl <| WL.nil <| WC.ret ?_
   refine ⟨[.int .u32 i1], rfl, ?_⟩
   replace Z := (Z.sel 2 [0] rfl)
   exact ⟨_, _, rfl, Z, by unfold Tr.bal; rw [if_neg hbn, if_neg (show ¬ tl.n < tr.n by omega), htr]; exact f1⟩
end Go.Proofs.YtbeacjcmdijdmaaGreat
namespace Go.Proofs.YtbeacjcmdijdmaaGreat
open Go Go.V
theorem Zli {l r : Tr} {k v : Int} (h : Xs l.n r.n) : Tr.join l k v r = .node l k v r := by
 cases l with
 | nil =>
  cases r with
  | nil => rw [Tr.join]
  | node m a b s => rw [Tr.join, if_pos (by simpa [Tr.n] using h)]
 | node s a b m =>
  cases r with
  | nil => rw [Tr.join, if_pos (by simpa [Tr.n] using h)]
  | node m' a' b' s' => rw [Tr.join, if_pos (by simpa [Tr.n] using h)]
theorem Zl0 {s m r : Tr} {fk fv k v : Int} (h : ¬ Xs (Tr.node s fk fv m).n r.n) (hg : r.n < (Tr.node s fk fv m).n) : Tr.join (.node s fk fv m) k v r = Tr.bal s fk fv (Tr.join m k v r) ∧ Tr.jc (.node s fk fv m) r = Tr.jc m r + 3 := by
 cases r with
 | nil => rw [Tr.join, if_neg (by simpa [Tr.n] using h), Tr.jc, if_neg (by simpa [Tr.n] using h)]; exact ⟨rfl, rfl⟩
 | node m' a' b' s' =>
  have h2 : m'.n + s'.n < s.n + m.n := by simp only [Tr.n] at hg; omega
  rw [Tr.join, if_neg (by simpa [Tr.n] using h), if_pos h2, Tr.jc, if_neg (by simpa [Tr.n] using h), if_pos h2]; exact ⟨rfl, rfl⟩
theorem Zl6 {l m s : Tr} {fk fv k v : Int} (h : ¬ Xs l.n (Tr.node m fk fv s).n) (hg : ¬ (Tr.node m fk fv s).n < l.n) : Tr.join l k v (.node m fk fv s) = Tr.bal (Tr.join l k v m) fk fv s ∧ Tr.jc l (.node m fk fv s) = Tr.jc l m + 3 := by
 cases l with
 | nil => rw [Tr.join, if_neg (by simpa [Tr.n] using h), Tr.jc, if_neg (by simpa [Tr.n] using h)]; exact ⟨rfl, rfl⟩
 | node s' a' b' m' =>
  have h2 : ¬ m.n + s.n < s'.n + m'.n := by simp only [Tr.n] at hg; omega
  rw [Tr.join, if_neg (by simpa [Tr.n] using h), if_neg h2, Tr.jc, if_neg (by simpa [Tr.n] using h), if_neg h2]; exact ⟨rfl, rfl⟩
theorem Zqj (l r : Tr) : 1 ≤ Tr.jc l r := by
 cases l <;> cases r <;> rw [Tr.jc] <;> (repeat' split) <;> omega
set_option maxHeartbeats 1000000 in
theorem Zbc (nM : Nat) (ih : ∀ mM : Nat, mM < nM → ∀ (g w : World) (L : List HP) (a : Nat) (A : AM) (R : List Int) (l r k z : Int) (tl tr : Tr), (ARf A (l :: r :: R)) → (Is A tl l) → (Is A tr r) → ((Tr.jc tl tr : Int) ≤ A.s.free) → (R.length + tl.n + tr.n ≤ 700000000) → tl.n + tr.n = mM → St g (Zs a A :: L) w → Sp Tryz.prog 175 [.pointer (some ⟨a, 0, none⟩), .int .u32 l, .agg #[.int .i64 k, .int .i64 z], .int .u32 r] w (fun v w' => ∃ (A2 : AM) (i : Int), v = .int .u32 i ∧ St g (Zs a A2 :: L) w' ∧ (TOp A A2 R i (Tr.join tl k z tr) (Tr.jc tl tr)))) {g w : World} {L : List HP} (a : Nat) (A : AM) (R : List Int) (l r k z : Int) (tl tr : Tr) (hA : ARf A (l :: r :: R)) (hl : Is A tl l) (hr : Is A tr r) (hf : (Tr.jc tl tr : Int) ≤ A.s.free) (hz : R.length + tl.n + tr.n ≤ 700000000) (hM : tl.n + tr.n = nM) (Z : St g (Zs a A :: L) w) :
  Sp Tryz.prog 175 [.pointer (some ⟨a, 0, none⟩), .int .u32 l, .agg #[.int .i64 k, .int .i64 z], .int .u32 r] w (fun v w' => ∃ (A2 : AM) (i : Int), v = .int .u32 i ∧ St g (Zs a A2 :: L) w' ∧ (TOp A A2 R i (Tr.join tl k z tr) (Tr.jc tl tr))) := by
 refine Sp.enter Tryz.func175 rfl (by kernel_rfl) (by kernel_rfl) ?_
 have _ := hz
 have _ := hf
 refine WC.seq <| WC.region <| WL.box rfl rfl #[.int .i64 k, .int .i64 z] Z rfl rfl (fun b1 w Z => ?_)
 refine WL.r 1 rfl <| WL.nil <| WC.seq <| WC.region ?_
 have hjp := Zqj tl tr
 refine WL.r 2 rfl <| WL.call rfl rfl (Y0 (R := l :: r :: R) (i := l) (t := tl) (hA := hA) (hi := hl) (Z := (Z.sel 2 [1, 0] rfl))) rfl ?_
 clear Z; rintro _ w ⟨rfl, Z⟩
 replace Z := Z.n2 L (a1 := Ze b1 #[.int .i64 k, .int .i64 z] 121) rfl
 refine WL.r 2 rfl <| WL.call rfl rfl (Y0 (R := l :: r :: R) (i := r) (t := tr) (hA := hA) (hi := hr) (Z := Z)) rfl ?_
 clear Z; rintro _ w ⟨rfl, Z⟩
 replace Z := Z.n2 L rfl
 refine WL.r 2 rfl <| WL.nil <| WC.seq <| WC.block <| WC.seq <| WC.region <| WL.r 2 rfl <| WL.call rfl rfl (Xj (x := (tl.n : Int)) (y := (tr.n : Int)) (hx := (by omega)) (hy := (by omega)) (Z := Z)) rfl ?_
 clear Z; rintro _ w ⟨rfl, Z⟩
 replace Z := Z.n2 L rfl
 refine WL.r 1 rfl <| WL.nil ?_
 as_aux_lemma =>
 refine WC.ifP rfl (fun hb => ?_) (fun hb => ?_)
 ·refine WC.seq <| WC.region <| WL.r 2 rfl <| WL.ldF rfl rfl 1 Z rfl rfl Zp <| WL.r 1 rfl <| WL.call rfl rfl (Z_ (R := R) (l := l) (r := r) (k := k) (z := z) (tl := tl) (tr := tr) (hA := hA) (hl := hl) (hr := hr) (hf := (by omega)) (hz := (by omega)) (Z := Z)) rfl ?_
  clear Z; rintro _ w ⟨A1, i1, rfl, Z, f1⟩
  replace Z := Z.n2 L (a0 := Zs a A1) rfl
  refine WL.r 1 rfl <| WL.nil <| WC.ret ?_
  refine ⟨[.int .u32 i1], rfl, ?_⟩
  replace Z := (Z.sel 2 [0] rfl)
  exact ⟨_, _, rfl, Z, by have h9 : Xs tl.n tr.n := (by unfold Xs; omega); rw [Zli h9, Tr.jc_bal h9]; exact f1⟩
 ·refine WC.seq <| WC.region <| WL.r 4 rfl <| WL.nil <| WC.ifP rfl (fun hlt => ?_) (fun hlt => ?_)
  ·refine WC.seq <| WC.region ?_
   have hbn : ¬ Xs tl.n tr.n := (by unfold Xs; omega); obtain ⟨ts, fk, fz, tm, htl⟩ := X5 (t := tl) (by omega); have htn : tl.n = ts.n + tm.n + 1 := (by rw [htl]; rfl); have hl2 : Is A (.node ts fk fz tm) l := htl ▸ hl; have hj := Zl0 (k := k) (v := z) (r := tr) (by rw [← htl]; exact hbn) (by rw [← htl]; omega); rw [← htl] at hj
   refine WL.r 2 rfl <| WL.call rfl rfl (XA (R := r :: R) (i := l) (k := fk) (z := fz) (l := ts) (r := tm) (hA := hA) (hi := hl2) (hz := (by simp only [List.length_cons]; omega)) (Z := Z)) rfl ?_
   clear Z; rintro _ w ⟨A1, x1, y1, rfl, Z, f1⟩
   replace Z := Z.n2 L (a0 := Zs a A1) rfl
   refine WL.r 4 rfl <| WL.new rfl rfl YR Z (fun b2 w Z => ?_)
   refine WL.r 1 rfl <| WL.stF rfl rfl rfl 0 Z rfl rfl rfl rfl rfl Zp (fun w Z => ?_)
   replace Z := Z.n3 L (a0 := Ze b2 #[.int .i64 fk, .int .i64 fz] 121) rfl
   refine WL.r 1 rfl <| WL.nil <| WC.seq <| WC.plan [([0, 1, 2, 3, 4, 5, 6], some (7, [0, 1, 2])), ([], some (8, [])), ([9], none)] (by kernel_rfl) (by kernel_rfl) ?_
   have hr1 := f1.rng; have hr2 := f1.kp r (by simp) tr hr; have hfr1 := f1.fr
   refine WQ.r 2 rfl <| WQ.ldF rfl rfl 0 Z rfl rfl Zp <| WQ.r 2 rfl <| WQ.ldF rfl rfl 2 Z rfl rfl Zp <| WQ.r 1 rfl <| WQ.nil ?_
   intro m1
   replace Z := Z.drewN m1; generalize hwm1 : World.drewN _ _ = w at *; clear hwm1
   refine WL.call rfl rfl (ih (tm.n + tr.n) (by omega) _ _ _ a A1 (x1 :: R) y1 r k z tm tr (f1.ref.r3.r3) (f1.ir) (hr2) ((by omega)) ((by simp only [List.length_cons]; omega)) rfl (Z.sel 2 [1, 0] rfl)) rfl ?_
   clear Z; rintro _ w ⟨A2, i1, rfl, Z, f2⟩
   replace Z := Z.n3 L (a0 := Zs a A2) rfl
   refine WL.nil ?_
   refine ⟨by exact ⟨RQ.pure rfl rfl rfl rfl, RQ.pure rfl rfl rfl rfl, RQ.ldF rfl rfl 1 Z rfl rfl Zp rfl rfl⟩, ?_⟩
   refine WQ.nil ?_
   intro m2
   replace Z := Z.drewN m2; generalize hwm2 : World.drewN _ _ = w at *; clear hwm2
   refine WL.call rfl rfl (Zj4 (R := R) (l := x1) (r := i1) (k := fk) (z := fz) (tl := ts) (tr := Tr.join tm k z tr) (hA := f2.ref.sw) (hl := (f2.kp x1 (by simp) ts f1.il)) (hr := f2.is) (hf := (by have := f2.fr; omega)) (hz := (by rw [(Tr.join_n _ _ _ _).1]; omega)) (Z := Z)) rfl ?_
   clear Z; rintro _ w ⟨A3, i2, rfl, Z, f3⟩
   replace Z := Z.n3 L (a0 := Zs a A3) rfl
   refine WL.nil ?_
   refine ⟨by exact trivial, ?_⟩
   refine WQ.r 1 rfl <| WQ.nil ?_
   intro m3
   replace Z := Z.drewN m3; generalize hwm3 : World.drewN _ _ = w at *; clear hwm3
   as_aux_lemma =>
   refine WC.ret ?_
   refine ⟨[.int .u32 i2], rfl, ?_⟩
   replace Z := (Z.sel 3 [0] rfl)
   exact ⟨_, _, rfl, Z, by rw [hj.1, hj.2]; exact f3.after (f1.ch.trans f2.ch sb1 sb1) sb0 (by omega)⟩
  ·refine WC.skip <| WC.seq <| WC.region ?_
   have hbn : ¬ Xs tl.n tr.n := (by unfold Xs; omega); obtain ⟨tm, fk, fz, ts, htr⟩ := X5 (t := tr) (by omega); have htn : tr.n = tm.n + ts.n + 1 := (by rw [htr]; rfl); have hr2 : Is A (.node tm fk fz ts) r := htr ▸ hr; have hj := Zl6 (k := k) (v := z) (l := tl) (by rw [← htr]; exact hbn) (by rw [← htr]; omega); rw [← htr] at hj
   refine WL.r 2 rfl <| WL.call rfl rfl (XA (R := l :: R) (i := r) (k := fk) (z := fz) (l := tm) (r := ts) (hA := hA.sw) (hi := hr2) (hz := (by simp only [List.length_cons]; omega)) (Z := Z)) rfl ?_
   clear Z; rintro _ w ⟨A1, x1, y1, rfl, Z, f1⟩
   replace Z := Z.n2 L (a0 := Zs a A1) rfl
   refine WL.r 4 rfl <| WL.new rfl rfl YR Z (fun b2 w Z => ?_)
   refine WL.r 1 rfl <| WL.stF rfl rfl rfl 0 Z rfl rfl rfl rfl rfl Zp (fun w Z => ?_)
   replace Z := Z.n3 L (a0 := Ze b2 #[.int .i64 fk, .int .i64 fz] 121) rfl
   refine WL.r 1 rfl <| WL.nil <| WC.seq <| WC.plan [([0, 1, 2, 3, 4, 6, 7], some (5, [0, 6, 7])), ([], some (8, [])), ([9], none)] (by kernel_rfl) (by kernel_rfl) ?_
   have hr1 := f1.rng; have hl2 := f1.kp l (by simp) tl hl; have hfr1 := f1.fr
   refine WQ.r 3 rfl <| WQ.ldF rfl rfl 2 Z rfl rfl Zp <| WQ.r 1 rfl <| WQ.ldF rfl rfl 0 Z rfl rfl Zp <| WQ.r 1 rfl <| WQ.nil ?_
   intro m1
   replace Z := Z.drewN m1; generalize hwm1 : World.drewN _ _ = w at *; clear hwm1
   refine WL.call rfl rfl (ih (tl.n + tm.n) (by omega) _ _ _ a A1 (y1 :: R) l x1 k z tl tm (f1.ref.r3) (hl2) (f1.il) ((by omega)) ((by simp only [List.length_cons]; omega)) rfl (Z.sel 2 [1, 0] rfl)) rfl ?_
   clear Z; rintro _ w ⟨A2, i1, rfl, Z, f2⟩
   replace Z := Z.n3 L (a0 := Zs a A2) rfl
   refine WL.nil ?_
   refine ⟨by exact ⟨RQ.pure rfl rfl rfl rfl, RQ.ldF rfl rfl 1 Z rfl rfl Zp rfl rfl, RQ.pure rfl rfl rfl rfl⟩, ?_⟩
   refine WQ.nil ?_
   intro m2
   replace Z := Z.drewN m2; generalize hwm2 : World.drewN _ _ = w at *; clear hwm2
   refine WL.call rfl rfl (Zj4 (R := R) (l := i1) (r := y1) (k := fk) (z := fz) (tl := Tr.join tl k z tm) (tr := ts) (hA := f2.ref) (hl := f2.is) (hr := (f2.kp y1 (by simp) ts f1.ir)) (hf := (by have := f2.fr; omega)) (hz := (by rw [(Tr.join_n _ _ _ _).1]; omega)) (Z := Z)) rfl ?_
   clear Z; rintro _ w ⟨A3, i2, rfl, Z, f3⟩
   replace Z := Z.n3 L (a0 := Zs a A3) rfl
   refine WL.nil ?_
   refine ⟨by exact trivial, ?_⟩
   refine WQ.r 1 rfl <| WQ.nil ?_
   intro m3
   replace Z := Z.drewN m3; generalize hwm3 : World.drewN _ _ = w at *; clear hwm3
   as_aux_lemma =>
   refine WC.ret ?_
   refine ⟨[.int .u32 i2], rfl, ?_⟩
   replace Z := (Z.sel 3 [0] rfl)
   exact ⟨_, _, rfl, Z, by rw [hj.1, hj.2]; exact f3.after (f1.ch.trans f2.ch sb1 sb1) sb0 (by omega)⟩
theorem Zds (nM : Nat) : ∀ (g w : World) (L : List HP) (a : Nat) (A : AM) (R : List Int) (l r k z : Int) (tl tr : Tr), (ARf A (l :: r :: R)) → (Is A tl l) → (Is A tr r) → ((Tr.jc tl tr : Int) ≤ A.s.free) → (R.length + tl.n + tr.n ≤ 700000000) → tl.n + tr.n = nM → St g (Zs a A :: L) w → Sp Tryz.prog 175 [.pointer (some ⟨a, 0, none⟩), .int .u32 l, .agg #[.int .i64 k, .int .i64 z], .int .u32 r] w (fun v w' => ∃ (A2 : AM) (i : Int), v = .int .u32 i ∧ St g (Zs a A2 :: L) w' ∧ (TOp A A2 R i (Tr.join tl k z tr) (Tr.jc tl tr))) := by
 induction nM using Nat.strongRecOn with
 | _ nM ih => intro g w L a A R l r k z tl tr hA hl hr hf hz hM Z; exact Zbc nM ih a A R l r k z tl tr hA hl hr hf hz hM Z
theorem Zgn {g w : World} {L : List HP} (a : Nat) (A : AM) (R : List Int) (l r k z : Int) (tl tr : Tr) (hA : ARf A (l :: r :: R)) (hl : Is A tl l) (hr : Is A tr r) (hf : (Tr.jc tl tr : Int) ≤ A.s.free) (hz : R.length + tl.n + tr.n ≤ 700000000) (Z : St g (Zs a A :: L) w) :
  Sp Tryz.prog 175 [.pointer (some ⟨a, 0, none⟩), .int .u32 l, .agg #[.int .i64 k, .int .i64 z], .int .u32 r] w (fun v w' => ∃ (A2 : AM) (i : Int), v = .int .u32 i ∧ St g (Zs a A2 :: L) w' ∧ (TOp A A2 R i (Tr.join tl k z tr) (Tr.jc tl tr))) := Zds _ g w L a A R l r k z tl tr hA hl hr hf hz rfl Z
end Go.Proofs.YtbeacjcmdijdmaaGreat
namespace Go.Proofs.YtbeacjcmdijdmaaGreat
open Go Go.V
theorem Qr {t : Tr} (h : t ≠ .nil) : ∃ l k v r, t = .node l k v r := by
 cases t with
 | nil => exact absurd rfl h
 | node l k v r => exact ⟨l, k, v, r, rfl⟩
set_option maxHeartbeats 1000000 in
theorem Zdl (nM : Nat) (ih : ∀ mM : Nat, mM < nM → ∀ (g w : World) (L : List HP) (a : Nat) (A : AM) (R : List Int) (i k z : Int) (t : Tr), (ARf A (i :: R)) → (Is A t i) → ((Tr.ic k z t : Int) ≤ A.s.free) → (R.length + t.n ≤ 600000000) → t.n = mM → St g (Zs a A :: L) w → Sp Tryz.prog 105 [.pointer (some ⟨a, 0, none⟩), .int .u32 i, .agg #[.int .i64 k, .int .i64 z]] w (fun v w' => ∃ (A2 : AM) (j : Int), v = .int .u32 j ∧ St g (Zs a A2 :: L) w' ∧ (TOp A A2 R j (Tr.ins k z t) (Tr.ic k z t)))) {g w : World} {L : List HP} (a : Nat) (A : AM) (R : List Int) (i k z : Int) (t : Tr) (hA : ARf A (i :: R)) (hi : Is A t i) (hf : (Tr.ic k z t : Int) ≤ A.s.free) (hz : R.length + t.n ≤ 600000000) (hM : t.n = nM) (Z : St g (Zs a A :: L) w) :
  Sp Tryz.prog 105 [.pointer (some ⟨a, 0, none⟩), .int .u32 i, .agg #[.int .i64 k, .int .i64 z]] w (fun v w' => ∃ (A2 : AM) (j : Int), v = .int .u32 j ∧ St g (Zs a A2 :: L) w' ∧ (TOp A A2 R j (Tr.ins k z t) (Tr.ic k z t))) := by
 refine Sp.enter Tryz.func105 rfl (by kernel_rfl) (by kernel_rfl) ?_
 have _ := hz
 have _ := hf
 refine WC.seq <| WC.region <| WL.box rfl rfl #[.int .i64 k, .int .i64 z] Z rfl rfl (fun b1 w Z => ?_)
 refine WL.r 1 rfl <| WL.nil <| WC.seq <| WC.seq <| WC.region ?_
 have hx0 := Is.nil_iff hi
 refine WL.r 2 rfl <| WL.nil <| WC.ifP rfl (fun hx => ?_) (fun hx => ?_)
 ·refine WC.seq <| WC.region ?_
  have h9 := hx0.1 hx; subst h9; have hA0 : ARf A (0 :: 0 :: R) := (by rw [hx] at hA; exact hA.cons0 (by simp; omega)); have hf1 : Tr.ic k z .nil = 1 := rfl
  refine WL.r 1 rfl <| WL.ldF rfl rfl 0 Z rfl rfl Zp <| WL.call rfl rfl (Z_ (R := R) (l := 0) (r := 0) (k := k) (z := z) (tl := .nil) (tr := .nil) (hA := hA0) (hl := rfl) (hr := rfl) (hf := (by omega)) (hz := (by simp only [Tr.n]; omega)) (Z := (Z.sel 2 [1, 0] rfl))) rfl ?_
  clear Z; rintro _ w ⟨A1, i1, rfl, Z, f1⟩
  replace Z : St g (Zs a A1 :: Ze b1 #[.int .i64 k, .int .i64 z] 121 :: L) w := Z
  refine WL.r 1 rfl <| WL.nil <| WC.ret ?_
  refine ⟨[.int .u32 i1], rfl, ?_⟩
  replace Z := (Z.sel 2 [0] rfl)
  exact ⟨_, _, rfl, Z, f1⟩
 ·refine WC.skip <| WC.seq <| WC.region ?_
  obtain ⟨tl, fk, fz, tr, ht⟩ := Qr (t := t) (fun e => hx (hx0.2 e)); have htn : t.n = tl.n + tr.n + 1 := (by rw [ht]; rfl); have hi2 : Is A (.node tl fk fz tr) i := ht ▸ hi
  refine WL.r 2 rfl <| WL.call rfl rfl (XA (R := R) (i := i) (k := fk) (z := fz) (l := tl) (r := tr) (hA := hA) (hi := hi2) (hz := (by omega)) (Z := (Z.sel 2 [1, 0] rfl))) rfl ?_
  clear Z; rintro _ w ⟨A1, x1, y1, rfl, Z, f1⟩
  replace Z : St g (Zs a A1 :: Ze b1 #[.int .i64 k, .int .i64 z] 121 :: L) w := Z
  refine WL.r 4 rfl <| WL.new rfl rfl YR Z (fun b2 w Z => ?_)
  refine WL.r 1 rfl <| WL.stF rfl rfl rfl 0 Z rfl rfl rfl rfl rfl Zp (fun w Z => ?_)
  replace Z := Z.n3 L (a0 := Ze b2 #[.int .i64 fk, .int .i64 fz] 121) rfl
  refine WL.r 1 rfl <| WL.nil ?_
  as_aux_lemma =>
  refine WC.seq <| WC.block <| WC.seq <| WC.region ?_
  have hr1 := f1.rng; have hfr1 := f1.fr
  refine WL.run 6 [.int .i64 k, .int .i64 fk] rfl (by exact ⟨Z.ld 2 rfl rfl, Z.ld 0 rfl rfl⟩) ?_
  refine WL.nil <| WC.ifP rfl (fun hlt => ?_) (fun hlt => ?_)
  ·refine WC.seq <| WC.plan [([0, 1, 2, 3, 5, 6], some (4, [0, 5, 6])), ([], some (7, [])), ([8], none)] (by kernel_rfl) (by kernel_rfl) ?_
   have hie : Tr.ic k z t = Tr.ic k z tl + Tr.jc (Tr.ins k z tl) tr := (by rw [ht, Tr.ic, if_pos hlt]); have hne : Tr.ins k z t = Tr.join (Tr.ins k z tl) fk fz tr := (by rw [ht, Tr.ins, if_pos hlt]); have hin := Tr.ins_n k z tl
   refine WQ.r 3 rfl <| WQ.ldF rfl rfl 2 Z rfl rfl Zp <| WQ.ldF rfl rfl 0 Z rfl rfl Zp <| WQ.r 1 rfl <| WQ.nil ?_
   intro m1
   replace Z := Z.drewN m1; generalize hwm1 : World.drewN _ _ = w at *; clear hwm1
   refine WL.call rfl rfl (ih (tl.n) (by omega) _ _ _ a A1 (y1 :: R) x1 k z tl (f1.ref) (f1.il) ((by omega)) ((by simp only [List.length_cons]; omega)) rfl (Z.sel 2 [1, 0] rfl)) rfl ?_
   clear Z; rintro _ w ⟨A2, j1, rfl, Z, f2⟩
   replace Z := Z.n3 L (a0 := Zs a A2) rfl
   refine WL.nil ?_
   refine ⟨by exact ⟨RQ.pure rfl rfl rfl rfl, RQ.ldF rfl rfl 1 Z rfl rfl Zp rfl rfl, RQ.pure rfl rfl rfl rfl⟩, ?_⟩
   refine WQ.nil ?_
   intro m2
   replace Z := Z.drewN m2; generalize hwm2 : World.drewN _ _ = w at *; clear hwm2
   refine WL.call rfl rfl (Zgn (R := R) (l := j1) (r := y1) (k := fk) (z := fz) (tl := Tr.ins k z tl) (tr := tr) (hA := f2.ref) (hl := f2.is) (hr := (f2.kp y1 (by simp) tr f1.ir)) (hf := (by have := f2.fr; omega)) (hz := (by split at hin <;> omega)) (Z := Z)) rfl ?_
   clear Z; rintro _ w ⟨A3, i1, rfl, Z, f3⟩
   replace Z := Z.n3 L (a0 := Zs a A3) rfl
   refine WL.nil ?_
   refine ⟨by exact trivial, ?_⟩
   refine WQ.r 1 rfl <| WQ.nil ?_
   intro m3
   replace Z := Z.drewN m3; generalize hwm3 : World.drewN _ _ = w at *; clear hwm3
   as_aux_lemma =>
   refine WC.ret ?_
   refine ⟨[.int .u32 i1], rfl, ?_⟩
   replace Z := (Z.sel 3 [0] rfl)
   exact ⟨_, _, rfl, Z, by rw [hne, hie]; exact f3.after (f1.ch.trans f2.ch sb0 sb1) sb0 (by omega)⟩
  ·refine WC.seq <| WC.region <| WL.run 6 [.int .i64 k, .int .i64 fk] rfl (by exact ⟨Z.ld 2 rfl rfl, Z.ld 0 rfl rfl⟩) ?_
   refine WL.nil <| WC.ifP rfl (fun hgt => ?_) (fun hgt => ?_)
   ·refine WC.seq <| WC.plan [([0, 1, 2, 3, 4, 5], some (6, [0, 1, 2])), ([], some (7, [])), ([8], none)] (by kernel_rfl) (by kernel_rfl) ?_
    have hie : Tr.ic k z t = Tr.ic k z tr + Tr.jc tl (Tr.ins k z tr) := (by rw [ht, Tr.ic, if_neg hlt, if_pos hgt]); have hne : Tr.ins k z t = Tr.join tl fk fz (Tr.ins k z tr) := (by rw [ht, Tr.ins, if_neg hlt, if_pos hgt]); have hin := Tr.ins_n k z tr
    refine WQ.r 2 rfl <| WQ.ldF rfl rfl 0 Z rfl rfl Zp <| WQ.r 2 rfl <| WQ.ldF rfl rfl 2 Z rfl rfl Zp <| WQ.nil ?_
    intro m1
    replace Z := Z.drewN m1; generalize hwm1 : World.drewN _ _ = w at *; clear hwm1
    refine WL.call rfl rfl (ih (tr.n) (by omega) _ _ _ a A1 (x1 :: R) y1 k z tr (f1.swap) (f1.ir) ((by omega)) ((by simp only [List.length_cons]; omega)) rfl (Z.sel 2 [1, 0] rfl)) rfl ?_
    clear Z; rintro _ w ⟨A2, j1, rfl, Z, f2⟩
    replace Z := Z.n3 L (a0 := Zs a A2) rfl
    refine WL.nil ?_
    refine ⟨by exact ⟨RQ.pure rfl rfl rfl rfl, RQ.pure rfl rfl rfl rfl, RQ.ldF rfl rfl 1 Z rfl rfl Zp rfl rfl⟩, ?_⟩
    refine WQ.nil ?_
    intro m2
    replace Z := Z.drewN m2; generalize hwm2 : World.drewN _ _ = w at *; clear hwm2
    refine WL.call rfl rfl (Zgn (R := R) (l := x1) (r := j1) (k := fk) (z := fz) (tl := tl) (tr := Tr.ins k z tr) (hA := f2.ref.sw) (hl := (f2.kp x1 (by simp) tl f1.il)) (hr := f2.is) (hf := (by have := f2.fr; omega)) (hz := (by split at hin <;> omega)) (Z := Z)) rfl ?_
    clear Z; rintro _ w ⟨A3, i1, rfl, Z, f3⟩
    replace Z := Z.n3 L (a0 := Zs a A3) rfl
    refine WL.nil ?_
    refine ⟨by exact trivial, ?_⟩
    refine WQ.r 1 rfl <| WQ.nil ?_
    intro m3
    replace Z := Z.drewN m3; generalize hwm3 : World.drewN _ _ = w at *; clear hwm3
    as_aux_lemma =>
    refine WC.ret ?_
    refine ⟨[.int .u32 i1], rfl, ?_⟩
    replace Z := (Z.sel 3 [0] rfl)
    exact ⟨_, _, rfl, Z, by rw [hne, hie]; exact f3.after (f1.ch.trans f2.ch sb0 sb1) sb0 (by omega)⟩
   ·refine WC.skip <| WC.seq <| WC.region ?_
    have hie : Tr.ic k z t = 1 := (by rw [ht, Tr.ic, if_neg hlt, if_neg hgt]); have hne : Tr.ins k z t = .node tl k z tr := (by rw [ht, Tr.ins, if_neg hlt, if_neg hgt])
    refine WL.r 2 rfl <| WL.ldF rfl rfl 2 Z rfl rfl Zp <| WL.r 1 rfl <| WL.call rfl rfl (Z_ (R := R) (l := x1) (r := y1) (k := k) (z := z) (tl := tl) (tr := tr) (hA := f1.ref) (hl := f1.il) (hr := f1.ir) (hf := (by omega)) (hz := (by omega)) (Z := (Z.sel 2 [1, 0] rfl))) rfl ?_
    clear Z; rintro _ w ⟨A2, i1, rfl, Z, f2⟩
    replace Z := Z.n3 L (a0 := Zs a A2) rfl
    refine WL.r 1 rfl <| WL.nil ?_
    as_aux_lemma =>
    refine WC.ret ?_
    refine ⟨[.int .u32 i1], rfl, ?_⟩
    replace Z := (Z.sel 3 [0] rfl)
    exact ⟨_, _, rfl, Z, by rw [hne, hie]; exact f2.after f1.ch sb0 (by omega)⟩
theorem Zft (nM : Nat) : ∀ (g w : World) (L : List HP) (a : Nat) (A : AM) (R : List Int) (i k z : Int) (t : Tr), (ARf A (i :: R)) → (Is A t i) → ((Tr.ic k z t : Int) ≤ A.s.free) → (R.length + t.n ≤ 600000000) → t.n = nM → St g (Zs a A :: L) w → Sp Tryz.prog 105 [.pointer (some ⟨a, 0, none⟩), .int .u32 i, .agg #[.int .i64 k, .int .i64 z]] w (fun v w' => ∃ (A2 : AM) (j : Int), v = .int .u32 j ∧ St g (Zs a A2 :: L) w' ∧ (TOp A A2 R j (Tr.ins k z t) (Tr.ic k z t))) := by
 induction nM using Nat.strongRecOn with
 | _ nM ih => intro g w L a A R i k z t hA hi hf hz hM Z; exact Zdl nM ih a A R i k z t hA hi hf hz hM Z
theorem Zo5 {g w : World} {L : List HP} (a : Nat) (A : AM) (R : List Int) (i k z : Int) (t : Tr) (hA : ARf A (i :: R)) (hi : Is A t i) (hf : (Tr.ic k z t : Int) ≤ A.s.free) (hz : R.length + t.n ≤ 600000000) (Z : St g (Zs a A :: L) w) :
  Sp Tryz.prog 105 [.pointer (some ⟨a, 0, none⟩), .int .u32 i, .agg #[.int .i64 k, .int .i64 z]] w (fun v w' => ∃ (A2 : AM) (j : Int), v = .int .u32 j ∧ St g (Zs a A2 :: L) w' ∧ (TOp A A2 R j (Tr.ins k z t) (Tr.ic k z t))) := Zft _ g w L a A R i k z t hA hi hf hz rfl Z
theorem Zgd {g w : World} {L : List HP} (a : Nat) (A : AM) (R : List Int) (i : Int) (hA : ARf A R) (hi : i = 0 ∨ (1 ≤ i ∧ A.s.ok i = true)) (hz : R.length ≤ 900000000) (Z : St g (Zs a A :: L) w) :
  Sp Tryz.prog 104 [.pointer (some ⟨a, 0, none⟩), .int .u32 i] w (fun v w' => v = .int .u32 i ∧ St g (Zs a (A.ret i) :: L) w' ∧ (ARf (A.ret i) (i :: R))) := by
 refine Sp.enter Tryz.func104 rfl (by kernel_rfl) (by kernel_rfl) ?_
 have _ := hz
 refine WC.seq <| WC.region <| WL.r 1 rfl <| WL.nil <| WC.seq <| WC.region ?_
 have hri := hA.okrng hi
 refine WL.r 2 rfl <| WL.call rfl rfl (Xp (i := i) (hA := hA.toAWf) (hi := (by omega)) (Z := Z)) rfl ?_
 clear Z; rintro _ w ⟨rfl, Z⟩
 replace Z : St g (Zs a (A.ret i) :: L) w := Z
 refine WL.nil <| WC.seq <| WC.region <| WL.r 2 rfl <| WL.nil <| WC.ret ?_
 refine ⟨[.int .u32 i], rfl, ?_⟩
 exact ⟨rfl, Z, (AM.ret_eq hA hi (by omega)).1⟩
theorem Zmg {g w : World} {L : List HP} (a : Nat) (A : AM) (n : Int) (hA : AWf A) (Z : St g (Zs a A :: L) w) :
  Sp Tryz.prog 101 [.pointer (some ⟨a, 0, none⟩), .int .i64 n] w (fun v w' => v = .bool (decide (0 ≤ n ∧ n ≤ A.s.free)) ∧ St g (Zs a A :: L) w') := by
 refine Sp.enter Tryz.func101 rfl (by kernel_rfl) (by kernel_rfl) ?_
 refine WC.seq <| WC.region <| WL.r 1 rfl <| WL.nil <| WC.seq <| WC.region <| WL.r 3 rfl ?_
 by_cases cg1 : 0 ≤ n
 ·refine WL.reb 7 (.bool true) (congrArg Value.bool (decide_eq_true cg1)) <| WL.ung rfl rfl rfl <| WL.r 1 rfl <| WL.ung rfl rfl rfl <| WL.call rfl rfl (Zga  (hA := hA) (Z := Z)) rfl ?_
  clear Z; rintro _ w ⟨rfl, Z⟩
  replace Z := Z.n1 L rfl
  refine WL.ung rfl rfl rfl <| WL.r 1 rfl <| WL.ung rfl rfl rfl <| WL.r 3 rfl <| WL.nil <| WC.ret ?_
  refine ⟨[.bool (decide (n ≤ A.s.free))], rfl, ?_⟩
  first | exact ⟨congrArg Value.bool (XY (by omega)), Z⟩ | exact ⟨congrArg Value.bool (decide_eq_false (by omega)).symm, Z⟩
 ·refine WL.reb 7 (.bool false) (congrArg Value.bool (decide_eq_false cg1)) <| WL.skp rfl rfl rfl rfl <| WL.skp rfl rfl rfl rfl <| WL.skp rfl rfl rfl rfl <| WL.skp rfl rfl rfl rfl <| WL.r 2 rfl <| WL.nil <| WC.ret ?_
  refine ⟨[.bool false], rfl, ?_⟩
  first | exact ⟨congrArg Value.bool (XY (by omega)), Z⟩ | exact ⟨congrArg Value.bool (decide_eq_false (by omega)).symm, Z⟩
end Go.Proofs.YtbeacjcmdijdmaaGreat
namespace Go.V
open Go Go.RowKit
def Tr.bldN : Nat → Z2 → Tr
 | 0, _ => .nil
 | f + 1, l => match l[l.length / 2]? with
  | none => .nil
  | some e => .node (Tr.bldN f (l.take (l.length / 2))) e.1 e.2 (Tr.bldN f (l.drop (l.length / 2 + 1)))
theorem Tr.bldN_eq : ∀ (f g : Nat) (l : Z2), l.length ≤ f → l.length ≤ g → Tr.bldN f l = Tr.bldN g l
 | 0, 0, _, _, _ => rfl
 | 0, g + 1, l, h, _ => by
  have : l = [] := List.eq_nil_of_length_eq_zero (by omega)
  subst this; rfl
 | f + 1, 0, l, _, h => by
  have : l = [] := List.eq_nil_of_length_eq_zero (by omega)
  subst this; rfl
 | f + 1, g + 1, l, h, k => by
  unfold Tr.bldN
  cases hm : l[l.length / 2]? with
  | none => rfl
  | some e =>
   have hlt := (List.getElem?_eq_some_iff.1 hm).1
   simp only
   rw [Tr.bldN_eq f g (l.take (l.length / 2)) (by rw [List.length_take]; omega) (by rw [List.length_take]; omega), Tr.bldN_eq f g (l.drop (l.length / 2 + 1)) (by rw [List.length_drop]; omega) (by rw [List.length_drop]; omega)]
def Tr.bld (l : Z2) : Tr := Tr.bldN l.length l
theorem Tr.bld_go {l : Z2} {e : Int × Int} (h : l[l.length / 2]? = some e) : Tr.bld l = .node (Tr.bld (l.take (l.length / 2))) e.1 e.2 (Tr.bld (l.drop (l.length / 2 + 1))) := by
 have hlt := (List.getElem?_eq_some_iff.1 h).1
 unfold Tr.bld
 rw [Tr.bldN_eq l.length (l.length + 1) l (Nat.le_refl _) (Nat.le_succ _)]
 conv => lhs; unfold Tr.bldN
 rw [h]
 simp only
 rw [Tr.bldN_eq l.length (l.take (l.length / 2)).length _ (by rw [List.length_take]; omega) (Nat.le_refl _), Tr.bldN_eq l.length (l.drop (l.length / 2 + 1)).length _ (by rw [List.length_drop]; omega) (Nat.le_refl _)]
theorem Tr.bld_ls : ∀ (n : Nat) (l : Z2), l.length ≤ n → (Tr.bld l).ls = l
 | 0, l, h => by
  have : l = [] := List.eq_nil_of_length_eq_zero (by omega)
  subst this; rfl
 | n + 1, l, h => by
  cases hm : l[l.length / 2]? with
  | none =>
   have : l = [] := List.eq_nil_of_length_eq_zero (by have := List.getElem?_eq_none_iff.1 hm; omega)
   subst this; rfl
  | some e =>
   have hlt := (List.getElem?_eq_some_iff.1 hm).1
   rw [Tr.bld_go hm]
   show (Tr.bld _).ls ++ (e.1, e.2) :: (Tr.bld _).ls = l
   rw [Tr.bld_ls n _ (by rw [List.length_take]; omega), Tr.bld_ls n _ (by rw [List.length_drop]; omega)]
   have he : l[l.length / 2] = e := (List.getElem?_eq_some_iff.1 hm).2
   conv => rhs; rw [← List.take_append_drop (l.length / 2) l, List.drop_eq_getElem_cons hlt, he]
theorem Tr.bld_n (l : Z2) : (Tr.bld l).n = l.length := by rw [← Tr.ls_len, Tr.bld_ls _ l (Nat.le_refl _)]
theorem Tr.bld_ok : ∀ (n : Nat) (l : Z2), l.length ≤ n → (Tr.bld l).ok
 | 0, l, h => by
  have : l = [] := List.eq_nil_of_length_eq_zero (by omega)
  subst this; trivial
 | n + 1, l, h => by
  cases hm : l[l.length / 2]? with
  | none =>
   have : l = [] := List.eq_nil_of_length_eq_zero (by have := List.getElem?_eq_none_iff.1 hm; omega)
   subst this; trivial
  | some e =>
   have hlt := (List.getElem?_eq_some_iff.1 hm).1
   rw [Tr.bld_go hm]
   refine ⟨?_, Tr.bld_ok n _ (by rw [List.length_take]; omega), Tr.bld_ok n _ (by rw [List.length_drop]; omega)⟩
   rw [Tr.bld_n, Tr.bld_n, List.length_take, List.length_drop]
   unfold Xs; omega
theorem Zou {l : Z2} (h : Srt l) {i j : Nat} {x y : Int × Int} (hx : l[i]? = some x) (hy : l[j]? = some y) (hij : i < j) : x.1 < y.1 := by
 obtain ⟨hi, rfl⟩ := List.getElem?_eq_some_iff.1 hx
 obtain ⟨hj, rfl⟩ := List.getElem?_eq_some_iff.1 hy
 exact List.pairwise_iff_getElem.1 h i j hi hj hij
theorem Zn4 {A : AM} {R : List Int} (h : ARf A R) (T : Int → Tr) (hT : ∀ r ∈ R, Is A (T r) r) : A.s.cap - A.s.free ≤ ((R.map fun r => (T r).n).foldr (· + ·) 0 : Nat) := by
 have h1 := AM.cnt_live h.s
 have hsub : ∀ j ∈ A.live, j ∈ R.flatMap fun r => ixs A (T r) r := fun j hj => by
  obtain ⟨h0, h2⟩ := (A.mem_live j).1 hj
  have h3 := (SM.ok_rng h.s h0 h2).1
  refine Zlb h (fun j => j ∈ R.flatMap fun r => ixs A (T r) r) (fun x hx hne => List.mem_flatMap.2 ⟨x, hx, JD (hT x hx) hne⟩) (fun j _ _ hj c hc hne => ?_) j h3 h2
  obtain ⟨r, hr, hj⟩ := List.mem_flatMap.1 hj
  exact List.mem_flatMap.2 ⟨r, hr, Qg (T r) r (hT r hr) j hj c hc hne⟩
 have h4 := Zdi A.live_nodup hsub
 have h5 : ∀ (l : List Int), (∀ r ∈ l, Is A (T r) r) → (l.flatMap fun r => ixs A (T r) r).length = (l.map fun r => (T r).n).foldr (· + ·) 0 := by
  intro l
  induction l with
  | nil => intro _; rfl
  | cons r l ih => intro hl; rw [List.flatMap_cons, List.length_append, Zbp A (hl r (by simp)), ih (fun x hx => hl x (by simp [hx]))]; rfl
 rw [h5 R hT] at h4
 omega
end Go.V
namespace Go.Proofs.YtbeacjcmdijdmaaGreat
open Go Go.V Go.RowKit
theorem TOp.after0 {A B C : AM} {R : List Int} {x i : Int} {t u : Tr} {c d : Nat} (h : TOp A B R x t c) (k : TOp B C (x :: R) i u d) : ARf C (i :: x :: R) ∧ Is C t x := ⟨k.ref, k.kp x (by simp) t h.is⟩
theorem Zd2 (nM : Nat) (ih : ∀ mM : Nat, mM < nM → ∀ (g w : World) (L : List HP) (a : Nat) (A : AM) (R : List Int) (l : Z2) (u : Option Addr) (d : Nat), (ARf A R) → ((l.length : Int) ≤ A.s.free) → (l.length ≤ 65536) → (R.length + l.length ≤ 500000000) → l.length = mM → St g (Zs a A :: Sh 121 2 (Zq l) u d :: L) w → Sp Tryz.prog 132 [.pointer (some ⟨a, 0, none⟩), .slice u (Zq l).length d] w (fun v w' => ∃ (A2 : AM) (i : Int), v = .int .u32 i ∧ St g (Zs a A2 :: Sh 121 2 (Zq l) u d :: L) w' ∧ (TOp A A2 R i (Tr.bld l) l.length))) {g w : World} {L : List HP} (a : Nat) (A : AM) (R : List Int) (l : Z2) (u : Option Addr) (d : Nat) (hA : ARf A R) (hf : (l.length : Int) ≤ A.s.free) (hl : l.length ≤ 65536) (hz : R.length + l.length ≤ 500000000) (hM : l.length = nM) (Z : St g (Zs a A :: Sh 121 2 (Zq l) u d :: L) w) :
  Sp Tryz.prog 132 [.pointer (some ⟨a, 0, none⟩), .slice u (Zq l).length d] w (fun v w' => ∃ (A2 : AM) (i : Int), v = .int .u32 i ∧ St g (Zs a A2 :: Sh 121 2 (Zq l) u d :: L) w' ∧ (TOp A A2 R i (Tr.bld l) l.length)) := by
 refine Sp.enter Tryz.func132 rfl (by kernel_rfl) (by kernel_rfl) ?_
 have _ := hz
 have _ := hl
 have _ := hf
 refine WC.seq <| WC.region <| WL.r 1 rfl <| WL.nil <| WC.seq <| WC.seq <| WC.region ?_
 have hll := Ym l
 refine WL.r 3 rfl <| WL.nil <| WC.ifP rfl (fun h0 => ?_) (fun h0 => ?_)
 ·refine WC.seq <| WC.region <| WL.r 1 rfl <| WL.nil <| WC.ret ?_
  refine ⟨[.int .u32 0], rfl, ?_⟩
  have e9 : l = [] := List.eq_nil_of_length_eq_zero (by omega); subst e9; exact ⟨A, 0, rfl, Z, hA.cons0 (by omega), rfl, Kp.refl _ _, by omega, rfl⟩
 ·refine WC.skip <| WC.seq <| WC.region ?_
  have hm0 : 1 ≤ l.length := by omega
  refine WL.r 3 rfl <| WL.reb 12 (.int .i64 ((List.length (Zq l) : Int) / 2)) (congrArg (Value.int .i64) (Zgm (p := (List.length (Zq l) : Int)) (q := 2) (by omega))) ?_
  refine WL.r 1 rfl <| WL.nil <| WC.seq <| WC.region ?_
  obtain ⟨e, he⟩ : ∃ e, l[l.length / 2]? = some e := ⟨_, List.getElem?_eq_getElem (by omega)⟩; have hml : (l.take (l.length / 2)).length = l.length / 2 := (by rw [List.length_take]; omega); have hmr : (l.drop (l.length / 2 + 1)).length = l.length - (l.length / 2 + 1) := List.length_drop
  refine WL.r 3 rfl <| WL.slHi rfl rfl (v := (List.length (Zq l) : Int) / 2) 1 (l.length / 2) (Zq (l.take (l.length / 2))) el_49 Z rfl rfl rfl (by omega) (by omega) (Zld _ _) (fun a1 Z => ?_)
  replace Z := Z.n3 L (a0 := Sh 121 2 (Zq (l.take ((List.length l) / 2))) a1 d) rfl
  refine WL.call rfl rfl (ih (List.length (l.take ((List.length l) / 2))) (by omega) _ _ _ a A _ (l.take ((List.length l) / 2)) a1 d (hA) ((by omega)) ((by omega)) ((by omega)) rfl (Z.sel 2 [1, 0] rfl)) rfl ?_
  clear Z; rintro _ w ⟨A1, i1, rfl, Z, f1⟩
  replace Z := Z.n3 L (a0 := Zs a A1) rfl
  refine WL.r 1 rfl <| WL.nil ?_
  as_aux_lemma =>
  refine WC.seq <| WC.plan [([0, 1, 2, 3, 6, 7, 8, 4, 9, 5, 10], some (11, [0, 1, 2, 3, 4, 5])), ([], some (12, [])), ([13], none)] (by kernel_rfl) (by kernel_rfl) ?_
  refine WQ.r 7 rfl <| WQ.ix rfl rfl (i := (List.length (Zq l) : Int) / 2) (l.length / 2) el_49 rfl rfl (by omega) (by omega) (Z.rdS 2 rfl (ZC he)).1 ?_
  refine WQ.r 1 rfl <| WQ.nw 27 rfl (Zr (by omega)) ?_
  refine WQ.ldC rfl rfl [.int .i64 e.1, .int .i64 e.2] Zp rfl (Z.rdS 2 rfl (ZC he)).2 <| WQ.slLo rfl rfl (v := ((List.length (Zq l) : Int) / 2) + 1) 2 (l.length / 2 + 1) (Zq (l.drop (l.length / 2 + 1))) el_49 Z rfl rfl rfl (by omega) (by omega) (Zj7 _ _) (fun a2 qa2 Z => ?_)
  replace Z := Z.n4 L (a0 := Sh 121 2 (Zq (l.drop ((List.length l) / 2 + 1))) a2 (d - ((List.length l) / 2 + 1))) rfl
  refine WQ.nil ?_
  intro m1
  replace Z := Z.drewN m1; generalize hwm1 : World.drewN _ _ = w at *; clear hwm1
  refine WL.call rfl rfl (ih (List.length (l.drop ((List.length l) / 2 + 1))) (by omega) _ _ _ a A1 (i1 :: R) (l.drop ((List.length l) / 2 + 1)) a2 (d - ((List.length l) / 2 + 1)) (f1.ref) ((by have := f1.fr; omega)) ((by omega)) ((by simp only [List.length_cons]; omega)) rfl (Z.sel 2 [1, 0] rfl)) rfl ?_
  clear Z; rintro _ w ⟨A2, i2, rfl, Z, f2⟩
  replace Z := Z.n4 L (a0 := Zs a A2) rfl
  refine WL.nil ?_
  refine ⟨by exact ⟨RQ.pure rfl rfl rfl rfl, RQ.pure rfl rfl rfl rfl, RQ.pure rfl rfl rfl rfl, RQ.pure rfl rfl rfl rfl, RQ.ix rfl rfl (i := (List.length (Zq l) : Int) / 2) (l.length / 2) el_49 rfl rfl (by omega) (by omega) (Z.rdS 3 rfl (ZC he)).1 rfl rfl, RQ.ldC rfl rfl [.int .i64 e.1, .int .i64 e.2] Zp rfl (Z.rdS 3 rfl (ZC he)).2 rfl rfl⟩, ?_⟩
  refine WQ.nil ?_
  intro m2
  replace Z := Z.drewN m2; generalize hwm2 : World.drewN _ _ = w at *; clear hwm2
  refine WL.call rfl rfl (Z_ (R := R) (l := i1) (r := i2) (k := e.1) (z := e.2) (tl := Tr.bld (l.take ((List.length l) / 2))) (tr := Tr.bld (l.drop ((List.length l) / 2 + 1))) (hA := f2.ref.sw) (hl := (TOp.after0 f1 f2).2) (hr := f2.is) (hf := (by have := f1.fr; have := f2.fr; omega)) (hz := (by rw [Tr.bld_n, Tr.bld_n]; omega)) (Z := Z)) rfl ?_
  clear Z; rintro _ w ⟨A3, i3, rfl, Z, f3⟩
  replace Z := Z.n4 L (a0 := Zs a A3) rfl
  refine WL.nil ?_
  refine ⟨by exact trivial, ?_⟩
  refine WQ.r 1 rfl <| WQ.nil ?_
  intro m3
  replace Z := Z.drewN m3; generalize hwm3 : World.drewN _ _ = w at *; clear hwm3
  as_aux_lemma =>
  refine WC.ret ?_
  refine ⟨[.int .u32 i3], rfl, ?_⟩
  replace Z := (Z.sel 3 [0] rfl)
  exact ⟨_, _, rfl, Z, by rw [Tr.bld_go he]; exact ⟨f3.ref, f3.is, (f1.kp.trans f2.kp.cons).trans f3.kp, by have := f1.fr; have := f2.fr; have := f3.fr; omega, f3.cap.trans (f2.cap.trans f1.cap)⟩⟩
theorem Zet (nM : Nat) : ∀ (g w : World) (L : List HP) (a : Nat) (A : AM) (R : List Int) (l : Z2) (u : Option Addr) (d : Nat), (ARf A R) → ((l.length : Int) ≤ A.s.free) → (l.length ≤ 65536) → (R.length + l.length ≤ 500000000) → l.length = nM → St g (Zs a A :: Sh 121 2 (Zq l) u d :: L) w → Sp Tryz.prog 132 [.pointer (some ⟨a, 0, none⟩), .slice u (Zq l).length d] w (fun v w' => ∃ (A2 : AM) (i : Int), v = .int .u32 i ∧ St g (Zs a A2 :: Sh 121 2 (Zq l) u d :: L) w' ∧ (TOp A A2 R i (Tr.bld l) l.length)) := by
 induction nM using Nat.strongRecOn with
 | _ nM ih => intro g w L a A R l u d hA hf hl hz hM Z; exact Zd2 nM ih a A R l u d hA hf hl hz hM Z
theorem Zoo {g w : World} {L : List HP} (a : Nat) (A : AM) (R : List Int) (l : Z2) (u : Option Addr) (d : Nat) (hA : ARf A R) (hf : (l.length : Int) ≤ A.s.free) (hl : l.length ≤ 65536) (hz : R.length + l.length ≤ 500000000) (Z : St g (Zs a A :: Sh 121 2 (Zq l) u d :: L) w) :
  Sp Tryz.prog 132 [.pointer (some ⟨a, 0, none⟩), .slice u (Zq l).length d] w (fun v w' => ∃ (A2 : AM) (i : Int), v = .int .u32 i ∧ St g (Zs a A2 :: Sh 121 2 (Zq l) u d :: L) w' ∧ (TOp A A2 R i (Tr.bld l) l.length)) := Zet _ g w L a A R l u d hA hf hl hz rfl Z
theorem Zi6 {g w : World} {L : List HP} (a : Nat) (A : AM) (R : List Int) (l : Z2) (u : Option Addr) (d : Nat) (hA : ARf A R) (hs : Srt l) (hf : (l.length : Int) ≤ A.s.free) (hl : l.length ≤ 65536) (hz : R.length + l.length ≤ 500000000) (Z : St g (Zs a A :: Sh 121 2 (Zq l) u d :: L) w) :
  Sp Tryz.prog 66 [.pointer (some ⟨a, 0, none⟩), .slice u (Zq l).length d] w (fun v w' => ∃ (A2 : AM) (i : Int), v = .tuple #[.int .u32 i, .int .i64 0] ∧ St g (Zs a A2 :: Sh 121 2 (Zq l) u d :: L) w' ∧ (TOp A A2 R i (Tr.bld l) l.length)) := by
 refine Sp.enter Tryz.func66 rfl (by kernel_rfl) (by kernel_rfl) ?_
 refine WC.seq <| WC.region <| WL.r 2 rfl <| WL.nil <| WC.seq <| WC.seq <| WC.region ?_
 have hll := Ym l
 refine WL.r 1 rfl <| WL.nil <| WC.block <| WC.loop [0, 1, 6] (fun kM vs w => ∃ (k : Nat), vs = [.pointer (some ⟨a, 0, none⟩), .slice u (Zq l).length d, .int .i64 ((k : Int) + 1)] ∧ St g (Zs a A :: Sh 121 2 (Zq l) u d :: L) w ∧ (l.length - k) = kM) ((List.length l) - 0) ⟨0, rfl, Z, rfl⟩ ?_
 clear Z; rintro _ _ w j ⟨k, rfl, Z, rfl⟩
 refine WC.seq <| WC.seq <| WC.region ?_
 have hll := Ym l
 refine WL.r 4 rfl <| WL.nil <| WC.ifP rfl (fun cd1 => ?_) (fun cd1 => ?_)
 ·refine WC.skip <| WC.seq <| WC.block <| WC.seq <| WC.plan [([0, 1, 5, 6, 2, 7, 3, 8, 4, 9, 10, 11], none)] (by kernel_rfl) (by kernel_rfl) ?_
  obtain ⟨x, hx⟩ : ∃ e, l[k + 1]? = some e := ⟨_, List.getElem?_eq_getElem (by omega)⟩; obtain ⟨y, hy⟩ : ∃ e, l[k]? = some e := ⟨_, List.getElem?_eq_getElem (by omega)⟩; have hxy := Zou hs hy hx (by omega)
  refine WQ.r 4 rfl <| WQ.ix rfl rfl (i := (k : Int) + 1) (k + 1) el_49 rfl rfl (by omega) (by omega) (Z.rdS 1 rfl (ZC hx)).1 ?_
  refine WQ.r 1 rfl <| WQ.nw 20 rfl (Zr (by omega)) ?_
  refine WQ.r 1 rfl <| WQ.ix rfl rfl (i := ((k : Int) + 1) - 1) (k) el_49 rfl rfl (by omega) (by omega) (Z.rdS 1 rfl (ZC hy)).1 ?_
  refine WQ.run 4 [.int .i64 x.1, .int .i64 y.1] rfl (by exact ⟨(Z.rdS 1 rfl (ZC hx)).2 0 _ rfl, (Z.rdS 1 rfl (ZC hy)).2 0 _ rfl⟩) ?_
  refine WQ.nil ?_
  intro m1
  replace Z := Z.drewN m1; generalize hwm1 : World.drewN _ _ = w at *; clear hwm1
  as_aux_lemma =>
  refine WC.ifF rfl (decide_eq_false ((by omega))) ?_
  refine WC.skip <| WC.region <| WL.r 2 rfl <| WL.nw 12 rfl (Zr (by omega)) ?_
  refine WL.r 1 rfl <| WL.nil ?_
  exact ⟨_, by omega, k + 1, rfl, Z, rfl⟩
 ·refine WC.exit <| WC.seq <| WC.seq <| WC.region <| WL.r 1 rfl <| WL.call rfl rfl (Zga  (hA := hA.toAWf) (Z := Z)) rfl ?_
  clear Z; rintro _ w ⟨rfl, Z⟩
  replace Z := Z.n2 L rfl
  refine WL.r 3 rfl <| WL.nil ?_
  as_aux_lemma =>
  refine WC.ifF rfl (decide_eq_false ((by omega))) ?_
  refine WC.skip <| WC.seq <| WC.region <| WL.r 2 rfl <| WL.call rfl rfl (Zoo  (hA := hA) (hf := hf) (hl := hl) (hz := hz) (Z := Z)) rfl ?_
  clear Z; rintro _ w ⟨A1, i1, rfl, Z, f1⟩
  replace Z := Z.n2 L (a0 := Zs a A1) rfl
  refine WL.r 2 rfl <| WL.nil <| WC.ret ?_
  refine ⟨[.int .u32 i1, .int .i64 0], ⟨rfl, rfl⟩, ?_⟩
  exact ⟨_, _, rfl, Z, f1⟩
end Go.Proofs.YtbeacjcmdijdmaaGreat
