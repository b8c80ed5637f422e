/-
  What the proof of Jva stands on, part 3.
  Conditions: none.
-/
import Derived.Test.YtbeacjcmdijdmaaGreatZvaB
set_option maxRecDepth 8192
namespace Go.Proofs.YtbeacjcmdijdmaaGreat
open Go Go.V
theorem Zb5 {g w : World} {L : List HP} (s : Nat) (ua ga ra : Option Addr) (n ng nr uc gc rc : Nat) (fr : Int) (hn : n ≤ 65537) (Z : St g (Ze s #[.slice ua n uc, .slice ga ng gc, .slice ra nr rc, .int .u32 fr] 243 :: L) w) :
  Sp Tryz.prog 71 [.pointer (some ⟨s, 0, none⟩)] w (fun v w' => v = .int .i64 (n - 1) ∧ St g (Ze s #[.slice ua n uc, .slice ga ng gc, .slice ra nr rc, .int .u32 fr] 243 :: L) w') := by
 refine Sp.enter Tryz.func71 rfl (by kernel_rfl) (by kernel_rfl) ?_
 have _ := hn
 refine WC.seq <| WC.region <| WL.r 1 rfl <| WL.nil <| WC.seq <| WC.region <| WL.run 6 [.slice ua n uc] rfl (by exact Z.ld 0 rfl rfl) ?_
 refine WL.nw 8 rfl (Zr (by omega)) ?_
 refine WL.r 1 rfl <| WL.nil <| WC.ret ?_
 refine ⟨[.int .i64 ((n : Int) - 1)], rfl, ?_⟩
 exact ⟨rfl, Z⟩
theorem Zko {g w : World} {L : List HP} (s : Nat) (ua ga ra : Option Addr) (n ng nr uc gc rc : Nat) (fr : Int) (hn : n ≤ 65537 ∧ nr ≤ 65537 ∧ 0 ≤ fr ∧ fr ≤ 65537) (Z : St g (Ze s #[.slice ua n uc, .slice ga ng gc, .slice ra nr rc, .int .u32 fr] 243 :: L) w) :
  Sp Tryz.prog 72 [.pointer (some ⟨s, 0, none⟩)] w (fun v w' => v = .int .i64 (nr + (n - 1) - fr) ∧ St g (Ze s #[.slice ua n uc, .slice ga ng gc, .slice ra nr rc, .int .u32 fr] 243 :: L) w') := by
 refine Sp.enter Tryz.func72 rfl (by kernel_rfl) (by kernel_rfl) ?_
 have _ := hn
 refine WC.seq <| WC.region <| WL.r 1 rfl <| WL.nil <| WC.seq <| WC.plan [([0, 5, 8, 1, 9, 2, 10, 3, 11, 4, 12], some (6, [0, 1, 2, 3, 4, 8, 9, 10, 11, 12])), ([7, 13, 14], none)] (by kernel_rfl) (by kernel_rfl) ?_
 refine WQ.run 11 [.slice ra nr rc, .int .u32 fr] rfl (by exact ⟨Z.ld 0 rfl rfl, Z.ld 0 rfl rfl⟩) ?_
 refine WQ.nw 15 rfl (Zr (by omega)) ?_
 refine WQ.nil ?_
 intro m1
 replace Z := Z.drewN m1; generalize hwm1 : World.drewN _ _ = w at *; clear hwm1
 refine WL.call rfl rfl (Zb5 (ua := ua) (ga := ga) (ra := ra) (n := n) (ng := ng) (nr := nr) (uc := uc) (gc := gc) (rc := rc) (fr := fr) (hn := (by omega)) (Z := Z)) rfl ?_
 clear Z; rintro _ w ⟨rfl, Z⟩
 replace Z := Z.n1 L rfl
 refine WL.nil ?_
 refine ⟨by exact ⟨RQ.pure rfl rfl rfl rfl, RQ.pure rfl rfl rfl rfl, RQ.pure rfl rfl rfl rfl, RQ.load rfl rfl rfl rfl (Z.ld 0 rfl rfl), RQ.pure rfl rfl rfl rfl, RQ.pure rfl rfl rfl rfl, RQ.pure rfl rfl rfl rfl, RQ.pure rfl rfl rfl rfl, RQ.load rfl rfl rfl rfl (Z.ld 0 rfl rfl), RQ.pure rfl rfl rfl (congrArg (Value.int .i64) (Eq.symm (Zr (by omega))))⟩, ?_⟩
 refine WQ.r 1 rfl <| WQ.nw 10 rfl (Zr (by omega)) ?_
 refine WQ.r 1 rfl <| WQ.nw 16 rfl (Zr (by omega)) ?_
 refine WQ.r 1 rfl <| WQ.nil ?_
 intro m2
 replace Z := Z.drewN m2; generalize hwm2 : World.drewN _ _ = w at *; clear hwm2
 as_aux_lemma =>
 refine WC.ret ?_
 refine ⟨[.int .i64 (((nr : Int) + (n - 1)) - fr)], rfl, ?_⟩
 exact ⟨rfl, Z⟩
theorem Zek {g w : World} {L : List HP} (s : Nat) (S : SM) (hl : S.used.length ≤ 65537) (Z : St g (Yp s S :: L) w) :
  Sp Tryz.prog 71 [.pointer (some ⟨s, 0, none⟩)] w (fun v w' => v = .int .i64 S.cap ∧ St g (Yp s S :: L) w') := by
 refine Sp.enter Tryz.func71 rfl (by kernel_rfl) (by kernel_rfl) ?_
 have _ := hl
 refine WC.seq <| WC.region ?_
 obtain ⟨⟨ua, uc, ga, gc, ra, rc⟩, Z⟩ := St.exOpen (f := YT s S) Z; have hbu := Zv S.used; have hbg := Zk S.gen; have hbr := Zk S.rel
 replace Z : St g (Ze s #[.slice ua (Zc S.used).length uc, .slice ga (Za S.gen).length gc, .slice ra (Za S.rel).length rc, .int .u32 S.fresh] 243 :: Zf 4 1 (Zc S.used) ua uc :: Zf 64 1 (Za S.gen) ga gc :: Zf 64 1 (Za S.rel) ra rc :: L) w := Z
 refine WL.r 1 rfl <| WL.nil <| WC.seq <| WC.region <| WL.run 6 [.slice ua (Zc S.used).length uc] rfl (by exact Z.ld 0 rfl rfl) ?_
 refine WL.nw 8 rfl (Zr (by omega)) ?_
 refine WL.r 1 rfl <| WL.nil <| WC.ret ?_
 replace Z := St.exClose (f := YT s S) ⟨ua, uc, ga, gc, ra, rc⟩ Z
 replace Z : St g (Yp s S :: L) w := Z
 refine ⟨[.int .i64 ((List.length (Zc S.used) : Int) - 1)], rfl, ?_⟩
 exact ⟨congrArg (Value.int .i64) (by rw [Zv]; rfl), Z⟩
theorem Zco {g w : World} {L : List HP} (s : Nat) (S : SM) (hO : SOk S) (Z : St g (Yp s S :: L) w) :
  Sp Tryz.prog 72 [.pointer (some ⟨s, 0, none⟩)] w (fun v w' => v = .int .i64 S.free ∧ St g (Yp s S :: L) w') := by
 refine Sp.enter Tryz.func72 rfl (by kernel_rfl) (by kernel_rfl) ?_
 refine WC.seq <| WC.region ?_
 have hfr := hO.fr; have hcp : S.cap = (S.used.length : Int) - 1 := rfl; have hle := hO.le; have hrl := hO.rle
 obtain ⟨⟨ua, uc, ga, gc, ra, rc⟩, Z⟩ := St.exOpen (f := YT s S) Z; have hbu := Zv S.used; have hbg := Zk S.gen; have hbr := Zk S.rel
 replace Z : St g (Ze s #[.slice ua (Zc S.used).length uc, .slice ga (Za S.gen).length gc, .slice ra (Za S.rel).length rc, .int .u32 S.fresh] 243 :: Zf 4 1 (Zc S.used) ua uc :: Zf 64 1 (Za S.gen) ga gc :: Zf 64 1 (Za S.rel) ra rc :: L) w := Z
 refine WL.r 1 rfl <| WL.nil <| WC.seq <| WC.plan [([0, 5, 8, 1, 9, 2, 10, 3, 11, 4, 12], some (6, [0, 1, 2, 3, 4, 8, 9, 10, 11, 12])), ([7, 13, 14], none)] (by kernel_rfl) (by kernel_rfl) ?_
 refine WQ.run 11 [.slice ra (Za S.rel).length rc, .int .u32 S.fresh] rfl (by exact ⟨Z.ld 0 rfl rfl, Z.ld 0 rfl rfl⟩) ?_
 refine WQ.nw 15 rfl (Zr (by omega)) ?_
 refine WQ.nil ?_
 intro m1
 replace Z := Z.drewN m1; generalize hwm1 : World.drewN _ _ = w at *; clear hwm1
 refine WL.call rfl rfl (Zb5 (ua := ua) (ga := ga) (ra := ra) (n := List.length (Zc S.used)) (ng := List.length (Za S.gen)) (nr := List.length (Za S.rel)) (uc := uc) (gc := gc) (rc := rc) (fr := S.fresh) (hn := (by omega)) (Z := Z)) rfl ?_
 clear Z; rintro _ w ⟨rfl, Z⟩
 replace Z := Z.n4 L rfl
 refine WL.nil ?_
 refine ⟨by exact ⟨RQ.pure rfl rfl rfl rfl, RQ.pure rfl rfl rfl rfl, RQ.pure rfl rfl rfl rfl, RQ.load rfl rfl rfl rfl (Z.ld 0 rfl rfl), RQ.pure rfl rfl rfl rfl, RQ.pure rfl rfl rfl rfl, RQ.pure rfl rfl rfl rfl, RQ.pure rfl rfl rfl rfl, RQ.load rfl rfl rfl rfl (Z.ld 0 rfl rfl), RQ.pure rfl rfl rfl (congrArg (Value.int .i64) (Eq.symm (Zr (by omega))))⟩, ?_⟩
 refine WQ.r 1 rfl <| WQ.nw 10 rfl (Zr (by omega)) ?_
 refine WQ.r 1 rfl <| WQ.nw 16 rfl (Zr (by omega)) ?_
 refine WQ.r 1 rfl <| WQ.nil ?_
 intro m2
 replace Z := Z.drewN m2; generalize hwm2 : World.drewN _ _ = w at *; clear hwm2
 as_aux_lemma =>
 refine WC.ret ?_
 replace Z := St.exClose (f := YT s S) ⟨ua, uc, ga, gc, ra, rc⟩ Z
 replace Z : St g (Yp s S :: L) w := Z
 refine ⟨[.int .i64 (((List.length (Za S.rel) : Int) + ((Zc S.used).length - 1)) - S.fresh)], rfl, ?_⟩
 exact ⟨congrArg (Value.int .i64) (by unfold SM.free; omega), Z⟩
theorem Jb {g w : World} {L : List HP} (s : Nat) (S : SM) (i : Int) (hl : S.used.length ≤ 65537) (hi : 0 ≤ i ∧ i < 4294967296) (Z : St g (Yp s S :: L) w) :
  Sp Tryz.prog 80 [.pointer (some ⟨s, 0, none⟩), .int .u32 i] w (fun v w' => v = .bool (S.ok i) ∧ St g (Yp s S :: L) w') := by
 refine Sp.enter Tryz.func80 rfl (by kernel_rfl) (by kernel_rfl) ?_
 have _ := hi
 have _ := hl
 refine WC.seq <| WC.region ?_
 obtain ⟨⟨ua, uc, ga, gc, ra, rc⟩, Z⟩ := St.exOpen (f := YT s S) Z; have hbu := Zv S.used; have hbg := Zk S.gen; have hbr := Zk S.rel
 replace Z : St g (Ze s #[.slice ua (Zc S.used).length uc, .slice ga (Za S.gen).length gc, .slice ra (Za S.rel).length rc, .int .u32 S.fresh] 243 :: Zf 4 1 (Zc S.used) ua uc :: Zf 64 1 (Za S.gen) ga gc :: Zf 64 1 (Za S.rel) ra rc :: L) w := Z
 refine WL.r 1 rfl <| WL.nil <| WC.seq <| WC.region <| WL.r 2 rfl <| WL.nw 6 rfl (Zr (by omega)) ?_
 refine WL.run 7 [.slice ua (Zc S.used).length uc] rfl (by exact Z.ld 0 rfl rfl) ?_
 by_cases cg1 : i < (List.length (Zc S.used) : Int)
 ·refine WL.reb 13 (.bool true) (congrArg Value.bool (decide_eq_true cg1)) <| WL.ung rfl rfl rfl <| WL.r 1 rfl <| WL.ung rfl rfl rfl <| WL.r 1 rfl <| WL.ung rfl rfl rfl <| WL.r 1 rfl <| WL.ung rfl rfl rfl <| WL.run 1 [.slice ua (Zc S.used).length uc] rfl (by exact Z.ld 0 rfl rfl) ?_
  refine WL.ung rfl rfl rfl <| WL.r 1 rfl <| WL.ung rfl rfl rfl ?_
  obtain ⟨x, hx⟩ : ∃ x, S.used[i.toNat]? = some x := ⟨_, List.getElem?_eq_getElem (by omega)⟩
  refine WL.ix rfl rfl (i := i) (i.toNat) el_33 rfl rfl (by omega) (by omega) (Z.rdO 1 rfl (Zu hx)).1 ?_
  refine WL.ung rfl rfl rfl <| WL.run 3 [.bool x] rfl (by exact (Z.rdO 1 rfl (Zu hx)).2 0 _ rfl) ?_
  refine WL.nil ?_
  as_aux_lemma =>
  refine WC.ret ?_
  replace Z := St.exClose (f := YT s S) ⟨ua, uc, ga, gc, ra, rc⟩ Z
  replace Z : St g (Yp s S :: L) w := Z
  refine ⟨[.bool x], rfl, ?_⟩
  first | exact ⟨congrArg Value.bool (by unfold SM.ok; rw [hx]; rfl), Z⟩ | exact ⟨congrArg Value.bool (by unfold SM.ok; rw [List.getElem?_eq_none (by omega)]; rfl), Z⟩
 ·refine WL.reb 13 (.bool false) (congrArg Value.bool (decide_eq_false cg1)) <| WL.skp rfl rfl rfl rfl <| WL.skp rfl rfl rfl rfl <| WL.skp rfl rfl rfl rfl <| WL.skp rfl rfl rfl rfl <| WL.skp rfl rfl rfl rfl <| WL.skp rfl rfl rfl rfl <| WL.skp rfl rfl rfl rfl <| WL.r 2 rfl <| WL.nil <| WC.ret ?_
  replace Z := St.exClose (f := YT s S) ⟨ua, uc, ga, gc, ra, rc⟩ Z
  replace Z : St g (Yp s S :: L) w := Z
  refine ⟨[.bool false], rfl, ?_⟩
  first | exact ⟨congrArg Value.bool (by unfold SM.ok; rw [hx]; rfl), Z⟩ | exact ⟨congrArg Value.bool (by unfold SM.ok; rw [List.getElem?_eq_none (by omega)]; rfl), Z⟩
theorem Zh3 {g w : World} {L : List HP} (s : Nat) (S : SM) (i : Int) (hl : S.gen.length ≤ 65537) (hi : 0 ≤ i ∧ i < 4294967296) (Z : St g (Yp s S :: L) w) :
  Sp Tryz.prog 148 [.pointer (some ⟨s, 0, none⟩), .int .u32 i] w (fun v w' => v = .int .u32 (S.genOf i) ∧ St g (Yp s S :: L) w') := by
 refine Sp.enter Tryz.func148 rfl (by kernel_rfl) (by kernel_rfl) ?_
 have _ := hi
 have _ := hl
 refine WC.seq <| WC.region <| WL.r 1 rfl <| WL.nil <| WC.seq <| WC.seq <| WC.region ?_
 obtain ⟨⟨ua, uc, ga, gc, ra, rc⟩, Z⟩ := St.exOpen (f := YT s S) Z; have hbu := Zv S.used; have hbg := Zk S.gen; have hbr := Zk S.rel
 replace Z : St g (Ze s #[.slice ua (Zc S.used).length uc, .slice ga (Za S.gen).length gc, .slice ra (Za S.rel).length rc, .int .u32 S.fresh] 243 :: Zf 4 1 (Zc S.used) ua uc :: Zf 64 1 (Za S.gen) ga gc :: Zf 64 1 (Za S.rel) ra rc :: L) w := Z
 refine WL.r 2 rfl <| WL.nw 6 rfl (Zr (by omega)) ?_
 refine WL.run 6 [.slice ga (Za S.gen).length gc] rfl (by exact Z.ld 0 rfl rfl) ?_
 refine WL.nil <| WC.ifP rfl (fun cd1 => ?_) (fun cd1 => ?_)
 ·refine WC.seq <| WC.region <| WL.r 1 rfl <| WL.nil <| WC.ret ?_
  replace Z := St.exClose (f := YT s S) ⟨ua, uc, ga, gc, ra, rc⟩ Z
  replace Z : St g (Yp s S :: L) w := Z
  refine ⟨[.int .u32 0], rfl, ?_⟩
  exact ⟨congrArg (Value.int .u32) (by unfold SM.genOf; rw [List.getElem?_eq_none (by omega)]; rfl), Z⟩
 ·refine WC.skip <| WC.seq <| WC.region <| WL.run 5 [.slice ga (Za S.gen).length gc] rfl (by exact Z.ld 0 rfl rfl) ?_
  obtain ⟨x, hx⟩ : ∃ x, S.gen[i.toNat]? = some x := ⟨_, List.getElem?_eq_getElem (by omega)⟩
  refine WL.ix rfl rfl (i := i) (i.toNat) el_32 rfl rfl (by omega) (by omega) (Z.rdO 2 rfl (Zl hx)).1 ?_
  refine WL.run 2 [.int .u32 x] rfl (by exact (Z.rdO 2 rfl (Zl hx)).2 0 _ rfl) ?_
  refine WL.nil <| WC.ret ?_
  replace Z := St.exClose (f := YT s S) ⟨ua, uc, ga, gc, ra, rc⟩ Z
  replace Z : St g (Yp s S :: L) w := Z
  refine ⟨[.int .u32 x], rfl, ?_⟩
  exact ⟨congrArg (Value.int .u32) (by unfold SM.genOf; rw [hx]; rfl), Z⟩
end Go.Proofs.YtbeacjcmdijdmaaGreat
namespace Go.Proofs.YtbeacjcmdijdmaaGreat
open Go Go.V
theorem Zcf {S : SM} (h : ¬ 0 ≤ (List.length (Za S.rel) : Int) - 1) : S.rel = [] := by
 rw [Zk] at h
 exact List.length_eq_zero_iff.1 (by omega)
theorem Y2 {g w : World} {L : List HP} {n s : Nat} {ua ga : Option Addr} {uc gc : Nat} (Z : St g (Ze s #[.slice ua (n + 1) uc, .slice ga (n + 1) gc, .slice none 0 0, .int .u32 0] 243 :: Zf 4 1 (Zc (List.replicate (n + 1) false)) ua uc :: Zf 64 1 (Za (List.replicate (n + 1) 0)) ga gc :: Zf 64 1 [] none 0 :: L) w) : St g (YT s (SM.new n) ⟨ua, uc, ga, gc, none, 0⟩ ++ L) w := by
 have e1 : (Zc (SM.new n).used).length = n + 1 := by simp [SM.new]
 have e2 : (Za (SM.new n).gen).length = n + 1 := by simp [SM.new]
 unfold YT
 rw [e1, e2]
 exact Z
theorem Zax {g w : World} {L : List HP} (cap : Int) (hc : 1 ≤ cap ∧ cap ≤ 65536) (Z : St g (L) w) :
  Sp Tryz.prog 129 [.int .i64 cap] w (fun v w' => ∃ (s : Nat), v = .tuple #[.pointer (some ⟨s, 0, none⟩), .int .i64 0] ∧ St g (Yp s (SM.new cap.toNat) :: L) w') := by
 refine Sp.enter Tryz.func129 rfl (by kernel_rfl) (by kernel_rfl) ?_
 have _ := hc
 refine WC.seq <| WC.region <| WL.r 2 rfl <| WL.nil <| WC.seq <| WC.seq <| WC.region <| WL.r 2 rfl <| WL.rG 4 rfl (fun j => ?_)
 refine WL.prop 9 rfl (bor (dd _) (dd _)) <| WL.nil <| WC.ifF rfl (decide_eq_false ((by omega))) ?_
 refine WC.skip <| WC.seq <| WC.tree (.two [0, 3, 1, 4] 2 [3, 4] (.one [] 5 [0, 1] (.one [6] 7 [] (.seg [8, 9] .nil))) 5 [0, 1] (.one [] 2 [3, 4] (.one [6] 7 [] (.seg [8, 9] .nil)))) (by kernel_rfl) (by kernel_rfl) ?_
 refine WQ.r 3 rfl <| WQ.nw 11 rfl (Zr (by omega)) ?_
 refine WQ.r 1 rfl <| WQ.nw 14 rfl (Zr (by omega)) ?_
 refine WQ.nil ?_
 intro m1
 replace Z := Z.drewN m1; generalize hwm1 : World.drewN _ _ = w at *; clear hwm1
 refine ⟨?_, ?_⟩
 ·refine WL.make rfl rfl (v := cap + 1) (v' := cap + 1) (cap.toNat + 1) (cap.toNat + 1) el_33 Z rfl (by omega) rfl (by omega) (by omega) (Rm.of (by omega) (by decide)) (fun b1 w Z => ?_)
  replace Z : St g (Zf 4 1 (List.replicate (cap.toNat + 1) [.bool false]) (some ⟨b1, 0, none⟩) (cap.toNat + 1) :: L) w := Z
  refine WL.nil ?_
  refine ⟨by exact ⟨RQ.pure rfl rfl rfl rfl, RQ.pure rfl rfl rfl (congrArg (Value.int .i64) (Eq.symm (Zr (by omega))))⟩, ?_⟩
  refine WQ.nil ?_
  intro m2
  replace Z := Z.drewN m2; generalize hwm2 : World.drewN _ _ = w at *; clear hwm2
  refine WL.make rfl rfl (v := cap + 1) (v' := cap + 1) (cap.toNat + 1) (cap.toNat + 1) el_32 Z rfl (by omega) rfl (by omega) (by omega) (Rm.of (by omega) (by decide)) (fun b2 w Z => ?_)
  replace Z := Z.n2 L (a0 := Zf 64 1 (List.replicate (cap.toNat + 1) [.int .u32 0]) (some ⟨b2, 0, none⟩) (cap.toNat + 1)) rfl
  refine WL.nil ?_
  refine ⟨by exact ⟨RQ.pure rfl rfl rfl rfl, RQ.pure rfl rfl rfl (congrArg (Value.int .i64) (Eq.symm (Zr (by omega))))⟩, ?_⟩
  refine WQ.build rfl rfl (cs := [.slice (some ⟨b1, 0, none⟩) (cap.toNat + 1) (cap.toNat + 1), .slice (some ⟨b2, 0, none⟩) (cap.toNat + 1) (cap.toNat + 1), .slice none 0 0, .int .u32 0]) Zit rfl rfl <| WQ.nil ?_
  intro m3
  replace Z := Z.drewN m3; generalize hwm3 : World.drewN _ _ = w at *; clear hwm3
  refine WL.box rfl rfl #[.slice (some ⟨b1, 0, none⟩) (cap.toNat + 1) (cap.toNat + 1), .slice (some ⟨b2, 0, none⟩) (cap.toNat + 1) (cap.toNat + 1), .slice none 0 0, .int .u32 0] Z rfl rfl (fun b3 w Z => ?_)
  refine WL.nil ?_
  refine ⟨by exact trivial, ?_⟩
  refine WQ.r 2 rfl <| WQ.nil ?_
  intro m4
  replace Z := Z.drewN m4; generalize hwm4 : World.drewN _ _ = w at *; clear hwm4
  as_aux_lemma =>
  refine WC.ret ?_
  rw [X_, Xb] at Z
  first
  | (replace Z : St g (Ze b3 #[.slice (some ⟨b1, 0, none⟩) (cap.toNat + 1) (cap.toNat + 1), .slice (some ⟨b2, 0, none⟩) (cap.toNat + 1) (cap.toNat + 1), .slice none 0 0, .int .u32 0] 243 :: Zf 4 1 (Zc (List.replicate (cap.toNat + 1) false)) (some ⟨b1, 0, none⟩) (cap.toNat + 1) :: Zf 64 1 (Za (List.replicate (cap.toNat + 1) 0)) (some ⟨b2, 0, none⟩) (cap.toNat + 1) :: Zf 64 1 [] none 0 :: L) w := (Z.nil_ 64 1).sel 4 [1, 2, 1, 0] rfl; replace Z := St.exClose (f := YT b3 (SM.new cap.toNat)) ⟨some ⟨b1, 0, none⟩, cap.toNat + 1, some ⟨b2, 0, none⟩, cap.toNat + 1, none, 0⟩ (Y2 Z))
  | (replace Z : St g (Ze b3 #[.slice (some ⟨b2, 0, none⟩) (cap.toNat + 1) (cap.toNat + 1), .slice (some ⟨b1, 0, none⟩) (cap.toNat + 1) (cap.toNat + 1), .slice none 0 0, .int .u32 0] 243 :: Zf 4 1 (Zc (List.replicate (cap.toNat + 1) false)) (some ⟨b2, 0, none⟩) (cap.toNat + 1) :: Zf 64 1 (Za (List.replicate (cap.toNat + 1) 0)) (some ⟨b1, 0, none⟩) (cap.toNat + 1) :: Zf 64 1 [] none 0 :: L) w := (Z.nil_ 64 1).sel 4 [1, 1, 1, 0] rfl; replace Z := St.exClose (f := YT b3 (SM.new cap.toNat)) ⟨some ⟨b2, 0, none⟩, cap.toNat + 1, some ⟨b1, 0, none⟩, cap.toNat + 1, none, 0⟩ (Y2 Z))
  replace Z : St g (Yp b3 (SM.new cap.toNat) :: L) w := Z
  refine ⟨[.pointer (some ⟨b3, 0, none⟩), .int .i64 0], ⟨rfl, rfl⟩, ?_⟩
  exact ⟨_, rfl, Z⟩
 ·refine WL.make rfl rfl (v := cap + 1) (v' := cap + 1) (cap.toNat + 1) (cap.toNat + 1) el_32 Z rfl (by omega) rfl (by omega) (by omega) (Rm.of (by omega) (by decide)) (fun b1 w Z => ?_)
  replace Z : St g (Zf 64 1 (List.replicate (cap.toNat + 1) [.int .u32 0]) (some ⟨b1, 0, none⟩) (cap.toNat + 1) :: L) w := Z
  refine WL.nil ?_
  refine ⟨by exact ⟨RQ.pure rfl rfl rfl rfl, RQ.pure rfl rfl rfl (congrArg (Value.int .i64) (Eq.symm (Zr (by omega))))⟩, ?_⟩
  refine WQ.nil ?_
  intro m2
  replace Z := Z.drewN m2; generalize hwm2 : World.drewN _ _ = w at *; clear hwm2
  refine WL.make rfl rfl (v := cap + 1) (v' := cap + 1) (cap.toNat + 1) (cap.toNat + 1) el_33 Z rfl (by omega) rfl (by omega) (by omega) (Rm.of (by omega) (by decide)) (fun b2 w Z => ?_)
  replace Z := Z.n2 L (a0 := Zf 4 1 (List.replicate (cap.toNat + 1) [.bool false]) (some ⟨b2, 0, none⟩) (cap.toNat + 1)) rfl
  refine WL.nil ?_
  refine ⟨by exact ⟨RQ.pure rfl rfl rfl rfl, RQ.pure rfl rfl rfl (congrArg (Value.int .i64) (Eq.symm (Zr (by omega))))⟩, ?_⟩
  refine WQ.build rfl rfl (cs := [.slice (some ⟨b2, 0, none⟩) (cap.toNat + 1) (cap.toNat + 1), .slice (some ⟨b1, 0, none⟩) (cap.toNat + 1) (cap.toNat + 1), .slice none 0 0, .int .u32 0]) Zit rfl rfl <| WQ.nil ?_
  intro m3
  replace Z := Z.drewN m3; generalize hwm3 : World.drewN _ _ = w at *; clear hwm3
  refine WL.box rfl rfl #[.slice (some ⟨b2, 0, none⟩) (cap.toNat + 1) (cap.toNat + 1), .slice (some ⟨b1, 0, none⟩) (cap.toNat + 1) (cap.toNat + 1), .slice none 0 0, .int .u32 0] Z rfl rfl (fun b3 w Z => ?_)
  refine WL.nil ?_
  refine ⟨by exact trivial, ?_⟩
  refine WQ.r 2 rfl <| WQ.nil ?_
  intro m4
  replace Z := Z.drewN m4; generalize hwm4 : World.drewN _ _ = w at *; clear hwm4
  as_aux_lemma =>
  refine WC.ret ?_
  rw [X_, Xb] at Z
  first
  | (replace Z : St g (Ze b3 #[.slice (some ⟨b1, 0, none⟩) (cap.toNat + 1) (cap.toNat + 1), .slice (some ⟨b2, 0, none⟩) (cap.toNat + 1) (cap.toNat + 1), .slice none 0 0, .int .u32 0] 243 :: Zf 4 1 (Zc (List.replicate (cap.toNat + 1) false)) (some ⟨b1, 0, none⟩) (cap.toNat + 1) :: Zf 64 1 (Za (List.replicate (cap.toNat + 1) 0)) (some ⟨b2, 0, none⟩) (cap.toNat + 1) :: Zf 64 1 [] none 0 :: L) w := (Z.nil_ 64 1).sel 4 [1, 2, 1, 0] rfl; replace Z := St.exClose (f := YT b3 (SM.new cap.toNat)) ⟨some ⟨b1, 0, none⟩, cap.toNat + 1, some ⟨b2, 0, none⟩, cap.toNat + 1, none, 0⟩ (Y2 Z))
  | (replace Z : St g (Ze b3 #[.slice (some ⟨b2, 0, none⟩) (cap.toNat + 1) (cap.toNat + 1), .slice (some ⟨b1, 0, none⟩) (cap.toNat + 1) (cap.toNat + 1), .slice none 0 0, .int .u32 0] 243 :: Zf 4 1 (Zc (List.replicate (cap.toNat + 1) false)) (some ⟨b2, 0, none⟩) (cap.toNat + 1) :: Zf 64 1 (Za (List.replicate (cap.toNat + 1) 0)) (some ⟨b1, 0, none⟩) (cap.toNat + 1) :: Zf 64 1 [] none 0 :: L) w := (Z.nil_ 64 1).sel 4 [1, 1, 1, 0] rfl; replace Z := St.exClose (f := YT b3 (SM.new cap.toNat)) ⟨some ⟨b2, 0, none⟩, cap.toNat + 1, some ⟨b1, 0, none⟩, cap.toNat + 1, none, 0⟩ (Y2 Z))
  replace Z : St g (Yp b3 (SM.new cap.toNat) :: L) w := Z
  refine ⟨[.pointer (some ⟨b3, 0, none⟩), .int .i64 0], ⟨rfl, rfl⟩, ?_⟩
  exact ⟨_, rfl, Z⟩
theorem J8 {g w : World} {L : List HP} (s : Nat) (S : SM) (hO : SOk S) (hf : 0 < S.free) (Z : St g (Yp s S :: L) w) :
  Sp Tryz.prog 202 [.pointer (some ⟨s, 0, none⟩)] w (fun v w' => v = .tuple #[.int .u32 S.next, .int .i64 0] ∧ St g (Yp s S.alloc :: L) w') := by
 refine Sp.enter Tryz.func202 rfl (by kernel_rfl) (by kernel_rfl) ?_
 refine WC.seq <| WC.region <| WL.r 2 rfl <| WL.nil <| WC.seq <| WC.seq <| WC.region <| WL.r 1 rfl <| WL.call rfl rfl (Zco  (hO := (by assumption)) (Z := Z)) rfl ?_
 clear Z; rintro _ w ⟨rfl, Z⟩
 replace Z := Z.n1 L rfl
 refine WL.r 1 rfl <| WL.nil <| WC.ifF rfl (decide_eq_false ((by omega))) ?_
 refine WC.skip <| WC.seq <| WC.region <| WL.r 1 rfl <| WL.nil <| WC.seq <| WC.seq <| WC.region ?_
 have hfr := hO.fr; have hcp : S.cap = (S.used.length : Int) - 1 := rfl; have hle := hO.cap; have hrl := hO.rle; have hnx := S.next_rng hO hf; have hgl := hO.gl
 obtain ⟨⟨ua, uc, ga, gc, ra, rc⟩, Z⟩ := St.exOpen (f := YT s S) Z; have hbu := Zv S.used; have hbg := Zk S.gen; have hbr := Zk S.rel
 replace Z : St g (Ze s #[.slice ua (Zc S.used).length uc, .slice ga (Za S.gen).length gc, .slice ra (Za S.rel).length rc, .int .u32 S.fresh] 243 :: Zf 4 1 (Zc S.used) ua uc :: Zf 64 1 (Za S.gen) ga gc :: Zf 64 1 (Za S.rel) ra rc :: L) w := Z
 refine WL.run 6 [.slice ra (Za S.rel).length rc] rfl (by exact Z.ld 0 rfl rfl) ?_
 refine WL.nw 14 rfl (Zr (by omega)) ?_
 refine WL.r 1 rfl <| WL.nil ?_
 as_aux_lemma =>
 refine WC.seq <| WC.region <| WL.r 2 rfl <| WL.nil <| WC.cut [0, 2, 3, 4] (fun vs w => ∃ (nx : Int) (rl : List Int) (fr : Int) (ra2 : Option Addr) (rc2 : Nat), vs = [.pointer (some ⟨s, 0, none⟩), .int .u32 0, .int .i64 0, .int .u32 nx] ∧ St g (Ze s #[.slice ua (Zc S.used).length uc, .slice ga (Za S.gen).length gc, .slice ra2 (Za rl).length rc2, .int .u32 fr] 243 :: Zf 4 1 (Zc S.used) ua uc :: Zf 64 1 (Za S.gen) ga gc :: Zf 64 1 (Za rl) ra2 rc2 :: L) w ∧ (nx = S.next) ∧ (rl = S.alloc.rel) ∧ (fr = S.alloc.fresh)) ?_ ?_
 ·refine WC.ifP rfl (fun cd1 => ?_) (fun cd1 => ?_)
  ·refine WC.seq <| WC.region <| WL.run 5 [.slice ra (Za S.rel).length rc] rfl (by exact Z.ld 0 rfl rfl) ?_
   have hne : S.rel ≠ [] := (fun e => by have h9 := congrArg List.length e; rw [List.length_nil] at h9; omega); have hx : S.rel[S.rel.length - 1]? = some S.next := by rw [Xn hne]; simp
   refine WL.ix rfl rfl (i := (List.length (Za S.rel) : Int) - 1) (S.rel.length - 1) el_32 rfl rfl (by omega) (by omega) (Z.rdO 3 rfl (Zl hx)).1 ?_
   refine WL.run 2 [.int .u32 S.next] rfl (by exact (Z.rdO 3 rfl (Zl hx)).2 0 _ rfl) ?_
   refine WL.nil <| WC.region <| WL.run 6 [.slice ra (Za S.rel).length rc] rfl (by exact Z.ld 0 rfl rfl) ?_
   refine WL.slOwn rfl rfl (v := (List.length (Za S.rel) : Int) - 1) 3 (S.rel.length - 1) (Za (S.rel.take (S.rel.length - 1))) el_32 Z rfl rfl rfl (by omega) (by omega) (XZ _ _) (fun Z => ?_)
   replace Z := Z.n4 L (a3 := Zf 64 1 (Za (S.rel.take ((List.length S.rel) - 1))) ra rc) rfl
   refine WL.r 2 rfl <| WL.st rfl rfl rfl 0 Z rfl rfl rfl rfl rfl rfl (fun w Z => ?_)
   replace Z := Z.n4 L (a0 := Ze s #[.slice ua (Zc S.used).length uc, .slice ga (Za S.gen).length gc, .slice ra (List.length (Za (S.rel.take ((List.length S.rel) - 1)))) rc, .int .u32 S.fresh] 243) rfl
   refine WL.nil ?_
   exact ⟨S.next, S.rel.take (S.rel.length - 1), S.fresh, ra, rc, rfl, Z, (rfl), (List.dropLast_eq_take (l := S.rel)).symm, (if_neg hne).symm⟩
  ·refine WC.seq <| WC.region <| WL.run 5 [.int .u32 S.fresh] rfl (by exact Z.ld 0 rfl rfl) ?_
   refine WL.nw 37 rfl (Yq (by omega)) ?_
   refine WL.r 2 rfl <| WL.st rfl rfl rfl 0 Z rfl rfl rfl rfl rfl rfl (fun w Z => ?_)
   replace Z := Z.n4 L (a0 := Ze s #[.slice ua (Zc S.used).length uc, .slice ga (Za S.gen).length gc, .slice ra (Za S.rel).length rc, .int .u32 (S.fresh + 1)] 243) rfl
   refine WL.nil <| WC.region <| WL.run 5 [.int .u32 (S.fresh + 1)] rfl (by exact Z.ld 0 rfl rfl) ?_
   refine WL.nil ?_
   exact ⟨S.fresh + 1, S.rel, S.fresh + 1, ra, rc, rfl, Z, (SM.next_nil (Zcf cd1)).symm, (by show S.rel = S.rel.dropLast; rw [Zcf cd1]; rfl), (if_pos (Zcf cd1)).symm⟩
 clear Z; rintro _ w j ⟨nx, rl, fr, ra2, rc2, rfl, Z, hnx, hrl, hfr⟩
 refine WC.seq <| WC.region <| WL.run 5 [.slice ua (Zc S.used).length uc] rfl (by exact Z.ld 0 rfl rfl) ?_
 obtain ⟨u, hu⟩ : ∃ u, S.used[nx.toNat]? = some u := ⟨_, List.getElem?_eq_getElem (by omega)⟩
 refine WL.ix rfl rfl (i := nx) (nx.toNat) el_33 rfl rfl (by omega) (by omega) (Z.rdO 1 rfl (Zu hu)).1 ?_
 refine WL.stE rfl rfl rfl 1 (nx.toNat) 0 [.bool u] (Zc (S.used.set nx.toNat true)) Z rfl (Zu hu) rfl rfl rfl rfl rfl (YL _ _ _) (fun w Z => ?_)
 replace Z := Z.n4 L (a1 := Zf 4 1 (Zc (S.used.set nx.toNat true)) ua uc) rfl
 refine WL.nil <| WC.seq <| WC.region <| WL.run 5 [.slice ga (Za S.gen).length gc] rfl (by exact Z.ld 0 rfl rfl) ?_
 obtain ⟨v, hv⟩ : ∃ v, S.gen[nx.toNat]? = some v := ⟨_, List.getElem?_eq_getElem (by omega)⟩
 refine WL.ix rfl rfl (i := nx) (nx.toNat) el_32 rfl rfl (by omega) (by omega) (Z.rdO 2 rfl (Zl hv)).1 ?_
 refine WL.run 2 [.int .u32 v] rfl (by exact (Z.rdO 2 rfl (Zl hv)).2 0 _ rfl) ?_
 refine WL.reb 57 (.int .u32 ((v + 1) % 4294967296)) (congrArg (Value.int .u32) (by rfl)) ?_
 refine WL.ix rfl rfl (i := nx) (nx.toNat) el_32 rfl rfl (by omega) (by omega) (Z.rdO 2 rfl (Zl hv)).1 ?_
 refine WL.stE rfl rfl rfl 2 (nx.toNat) 0 [.int .u32 v] (Za (S.gen.set nx.toNat ((v + 1) % 4294967296))) Z rfl (Zl hv) rfl rfl rfl rfl rfl (XR _ _ _) (fun w Z => ?_)
 replace Z := Z.n4 L (a2 := Zf 64 1 (Za (S.gen.set nx.toNat ((v + 1) % 4294967296))) ga gc) rfl
 refine WL.nil ?_
 as_aux_lemma =>
 refine WC.seq <| WC.region <| WL.r 3 rfl <| WL.nil <| WC.ret ?_
 replace Z := St.exClose (f := YT s S.alloc) ⟨ua, uc, ga, gc, ra2, rc2⟩ (by
  subst hnx; subst hrl; subst hfr
  have hge : S.genOf S.next = v := by unfold SM.genOf; rw [hv]; rfl
  have e1 : (Zc S.alloc.used).length = (Zc S.used).length := by simp [SM.alloc]
  have e2 : (Za S.alloc.gen).length = (Za S.gen).length := by simp [SM.alloc]
  have e3 : S.alloc.gen = S.gen.set S.next.toNat ((v + 1) % 4294967296) := by rw [← hge]; rfl
  unfold YT
  rw [e1, e2, e3]
  exact Z)
 replace Z : St g (Yp s S.alloc :: L) w := Z
 refine ⟨[.int .u32 nx, .int .i64 0], ⟨rfl, rfl⟩, ?_⟩
 exact ⟨by rw [hnx]; rfl, Z⟩
theorem Jd {g w : World} {L : List HP} (s : Nat) (S : SM) (i : Int) (hO : SOk S) (hi : 0 ≤ i ∧ i < 4294967296) (hn : S.ok i = true) (Z : St g (Yp s S :: L) w) :
  Sp Tryz.prog 111 [.pointer (some ⟨s, 0, none⟩), .int .u32 i] w (fun v w' => v = .int .i64 0 ∧ St g (Yp s (S.release i) :: L) w') := by
 refine Sp.enter Tryz.func111 rfl (by kernel_rfl) (by kernel_rfl) ?_
 refine WC.seq <| WC.region <| WL.r 1 rfl <| WL.nil <| WC.seq <| WC.seq <| WC.region <| WL.r 2 rfl <| WL.call rfl rfl (Jb (i := i) (hl := (by first | assumption | exact SOk.le (by assumption))) (hi := (by omega)) (Z := Z)) rfl ?_
 clear Z; rintro _ w ⟨rfl, Z⟩
 replace Z := Z.n1 L rfl
 refine WL.r 1 rfl <| WL.nil <| WC.ifF rfl (by rw [hn]; decide) ?_
 refine WC.skip <| WC.seq <| WC.region ?_
 have hrg := SM.ok_rng hO hi.1 hn; have hrl := hO.rle
 obtain ⟨⟨ua, uc, ga, gc, ra, rc⟩, Z⟩ := St.exOpen (f := YT s S) Z; have hbu := Zv S.used; have hbg := Zk S.gen; have hbr := Zk S.rel
 replace Z : St g (Ze s #[.slice ua (Zc S.used).length uc, .slice ga (Za S.gen).length gc, .slice ra (Za S.rel).length rc, .int .u32 S.fresh] 243 :: Zf 4 1 (Zc S.used) ua uc :: Zf 64 1 (Za S.gen) ga gc :: Zf 64 1 (Za S.rel) ra rc :: L) w := Z
 refine WL.run 5 [.slice ua (Zc S.used).length uc] rfl (by exact Z.ld 0 rfl rfl) ?_
 obtain ⟨u, hu⟩ : ∃ u, S.used[i.toNat]? = some u := ⟨_, List.getElem?_eq_getElem (by omega)⟩
 refine WL.ix rfl rfl (i := i) (i.toNat) el_33 rfl rfl (by omega) (by omega) (Z.rdO 1 rfl (Zu hu)).1 ?_
 refine WL.stE rfl rfl rfl 1 (i.toNat) 0 [.bool u] (Zc (S.used.set i.toNat false)) Z rfl (Zu hu) rfl rfl rfl rfl rfl (YL _ _ _) (fun w Z => ?_)
 replace Z := Z.n4 L (a1 := Zf 4 1 (Zc (S.used.set i.toNat false)) ua uc) rfl
 refine WL.nil ?_
 as_aux_lemma =>
 refine WC.seq <| WC.region <| WL.run 6 [.slice ra (Za S.rel).length rc] rfl (by exact Z.ld 0 rfl rfl) ?_
 refine WL.lit rfl rfl (Za [i]) el_32 Z (by exact ⟨rfl, rfl⟩) (Yn _) rfl (Nat.le_of_ble_eq_true rfl) (fun b1 w Z => ?_)
 refine WL.app rfl rfl 4 (Za (S.rel ++ [i])) el_32 Z rfl (Z.srcO 0 rfl) (Yg _ _).symm (Rm.of (by first | omega | (simp <;> omega)) (by decide)) rfl rfl (fun a1 c1 w Z => ?_)
 replace Z := Z.n5 L (a0 := Zf 64 1 (Za [i]) (some ⟨b1, 0, none⟩) (Za [i]).length) (a4 := Zf 64 1 (Za (S.rel ++ [i])) a1 c1) rfl
 refine WL.r 2 rfl <| WL.st rfl rfl rfl 1 Z rfl rfl rfl rfl rfl rfl (fun w Z => ?_)
 replace Z := Z.n5 L (a1 := Ze s #[.slice ua (Zc S.used).length uc, .slice ga (Za S.gen).length gc, .slice a1 (Za (S.rel ++ [i])).length c1, .int .u32 S.fresh] 243) rfl
 refine WL.nil <| WC.seq <| WC.region <| WL.r 1 rfl <| WL.nil <| WC.ret ?_
 replace Z := St.exClose (f := YT s (S.release i)) ⟨ua, uc, ga, gc, a1, c1⟩ (by
  have e1 : (Zc (S.release i).used).length = (Zc S.used).length := by simp [SM.release]
  unfold YT
  rw [e1]
  exact Z.sel 5 [1, 1, 1, 1] rfl)
 replace Z : St g (Yp s (S.release i) :: L) w := Z
 refine ⟨[.int .i64 0], rfl, ?_⟩
 exact ⟨rfl, Z⟩
end Go.Proofs.YtbeacjcmdijdmaaGreat
namespace Go.Proofs.YtbeacjcmdijdmaaGreat
open Go Go.V
theorem Zhl {g w : World} {L : List HP} (i n : Int) (hi : 0 ≤ i ∧ i < 4294967296) (hn : 0 ≤ n ∧ n < 4294967296) (Z : St g (L) w) :
  Sp Tryz.prog 192 [.int .u32 i, .int .u32 n] w (fun v w' => v = .int .u64 (n * 4294967296 + i) ∧ St g (L) w') := by
 refine Sp.enter Tryz.func192 rfl (by kernel_rfl) (by kernel_rfl) ?_
 refine WC.seq <| WC.region <| WL.r 1 rfl <| WL.nil <| WC.seq <| WC.region <| WL.r 2 rfl <| WL.nw 6 rfl (Xg (by omega)) ?_
 refine WL.r 1 rfl <| WL.r 2 rfl <| WL.nw 9 rfl (Xg (by omega)) ?_
 refine WL.r 1 rfl <| WL.reb 10 (.int .u64 (n * 4294967296 + i)) (congrArg (Value.int .u64) (by exact Zmj hi hn)) ?_
 refine WL.r 1 rfl <| WL.nil <| WC.ret ?_
 refine ⟨[.int .u64 (n * 4294967296 + i)], rfl, ?_⟩
 exact ⟨rfl, Z⟩
theorem Zdv {g w : World} {L : List HP} (h : Int) (hh : 0 ≤ h ∧ h ≤ 18446744073709551615) (Z : St g (L) w) :
  Sp Tryz.prog 193 [.int .u64 h] w (fun v w' => v = .tuple #[.int .u32 (h % 4294967296), .int .u32 (h / 4294967296)] ∧ St g (L) w') := by
 refine Sp.enter Tryz.func193 rfl (by kernel_rfl) (by kernel_rfl) ?_
 have _ := hh
 refine WC.seq <| WC.region <| WL.r 2 rfl <| WL.nil <| WC.seq <| WC.region <| WL.r 2 rfl <| WL.reb 5 (.int .u32 (h % 4294967296)) (congrArg (Value.int .u32) (by rfl)) ?_
 refine WL.r 2 rfl <| WL.reb 7 (.int .u64 (h / 4294967296)) (congrArg (Value.int .u64) (by rfl)) ?_
 refine WL.r 1 rfl <| WL.reb 8 (.int .u32 (h / 4294967296)) (congrArg (Value.int .u32) (by show (h / 4294967296) % 4294967296 = h / 4294967296; omega)) ?_
 refine WL.r 2 rfl <| WL.nil <| WC.ret ?_
 refine ⟨[.int .u32 (h % 4294967296), .int .u32 (h / 4294967296)], ⟨rfl, rfl⟩, ?_⟩
 exact ⟨rfl, Z⟩
theorem hd0 {g w : World} {L : List HP} (t p : Nat) (S : SM) (va : Option Addr) (n vc : Nat) (i : Int) (hO : SOk S) (hi : 0 ≤ i ∧ i < 4294967296) (Z : St g (Ze t #[.pointer (some ⟨p, 0, none⟩), .slice va n vc] 228 :: Yp p S :: L) w) :
  Sp Tryz.prog 137 [.pointer (some ⟨t, 0, none⟩), .int .u32 i] w (fun v w' => v = .int .u64 (S.hd i) ∧ St g (Ze t #[.pointer (some ⟨p, 0, none⟩), .slice va n vc] 228 :: Yp p S :: L) w') := by
 refine Sp.enter Tryz.func137 rfl (by kernel_rfl) (by kernel_rfl) ?_
 have _ := hi
 refine WC.seq <| WC.region ?_
 have hg := hO.gen_rng i
 refine WL.r 1 rfl <| WL.nil <| WC.seq <| WC.region <| WL.run 6 [.pointer (some ⟨p, 0, none⟩)] rfl (by exact Z.ld 0 rfl rfl) ?_
 refine WL.call rfl rfl (Zh3 (i := i) (hl := (by first | assumption | exact SOk.gle (by assumption))) (hi := (by omega)) (Z := (Z.sel 2 [1, 0] rfl))) rfl ?_
 clear Z; rintro _ w ⟨rfl, Z⟩
 replace Z := Z.n2 L rfl
 refine WL.call rfl rfl (Zhl (i := i) (n := S.genOf i) (hi := (by omega)) (hn := (by first | omega | exact SOk.gen_rng (by assumption) _)) (Z := Z)) rfl ?_
 clear Z; rintro _ w ⟨rfl, Z⟩
 replace Z := Z.n2 L rfl
 refine WL.r 1 rfl <| WL.nil <| WC.ret ?_
 refine ⟨[.int .u64 ((S.genOf i) * 4294967296 + i)], rfl, ?_⟩
 replace Z := (Z.sel 2 [1, 0] rfl)
 exact ⟨rfl, Z⟩
theorem Zmz {g w : World} {L : List HP} (t p : Nat) (S : SM) (va : Option Addr) (n vc : Nat) (h : Int) (hO : SOk S) (hh : 0 ≤ h ∧ h ≤ 18446744073709551615) (Z : St g (Ze t #[.pointer (some ⟨p, 0, none⟩), .slice va n vc] 228 :: Yp p S :: L) w) :
  Sp Tryz.prog 138 [.pointer (some ⟨t, 0, none⟩), .int .u64 h] w (fun v w' => v = .tuple #[.int .u32 (h % 4294967296), .bool (S.opn h)] ∧ St g (Ze t #[.pointer (some ⟨p, 0, none⟩), .slice va n vc] 228 :: Yp p S :: L) w') := by
 refine Sp.enter Tryz.func138 rfl (by kernel_rfl) (by kernel_rfl) ?_
 have _ := hh
 have _ := hO
 refine WC.seq <| WC.region <| WL.r 2 rfl <| WL.nil <| WC.seq <| WC.region <| WL.r 1 rfl <| WL.call rfl rfl (Zdv (h := h) (hh := (by omega)) (Z := Z)) rfl ?_
 clear Z; rintro _ w ⟨rfl, Z⟩
 replace Z := Z.n2 L rfl
 refine WL.r 5 rfl <| WL.nil <| WC.seq <| WC.region <| WL.run 6 [.pointer (some ⟨p, 0, none⟩)] rfl (by exact Z.ld 0 rfl rfl) ?_
 refine WL.call rfl rfl (Jb (i := h % 4294967296) (hl := (by first | assumption | exact SOk.le (by assumption))) (hi := (by omega)) (Z := (Z.sel 2 [1, 0] rfl))) rfl ?_
 clear Z; rintro _ w ⟨rfl, Z⟩
 replace Z := Z.n2 L rfl
 refine WL.r 1 rfl ?_
 by_cases cg1 : (S.ok (h % 4294967296)) = true
 ·refine WL.reb 20 (.bool true) (congrArg Value.bool cg1) <| WL.ung rfl rfl rfl <| WL.r 1 rfl <| WL.ung rfl rfl rfl <| WL.r 1 rfl <| WL.ung rfl rfl rfl <| WL.call rfl rfl (hd0 (va := va) (n := n) (vc := vc) (i := h % 4294967296) (hO := (by assumption)) (hi := (by omega)) (Z := (Z.sel 2 [1, 0] rfl))) rfl ?_
  clear Z; rintro _ w ⟨rfl, Z⟩
  replace Z := Z.n2 L rfl
  refine WL.ung rfl rfl rfl <| WL.r 1 rfl <| WL.ung rfl rfl rfl <| WL.r 4 rfl <| WL.nil ?_
  as_aux_lemma =>
  refine WC.ret ?_
  refine ⟨[.int .u32 (h % 4294967296), .bool (decide ((S.hd (h % 4294967296)) = h))], ⟨rfl, rfl⟩, ?_⟩
  first | exact ⟨congrArg (fun b => Value.tuple #[.int .u32 (h % 4294967296), .bool b]) (by unfold SM.opn; rw [show S.ok (h % 4294967296) = true from cg1]; rfl), Z⟩ | exact ⟨congrArg (fun b => Value.tuple #[.int .u32 (h % 4294967296), .bool b]) (by unfold SM.opn; rw [Bool.eq_false_iff.2 cg1]; rfl), Z⟩
 ·refine WL.reb 20 (.bool false) (congrArg Value.bool (Bool.eq_false_iff.2 cg1)) <| WL.skp rfl rfl rfl rfl <| WL.skp rfl rfl rfl rfl <| WL.skp rfl rfl rfl rfl <| WL.skp rfl rfl rfl rfl <| WL.skp rfl rfl rfl rfl <| WL.r 3 rfl <| WL.nil ?_
  as_aux_lemma =>
  refine WC.ret ?_
  refine ⟨[.int .u32 (h % 4294967296), .bool false], ⟨rfl, rfl⟩, ?_⟩
  replace Z := (Z.sel 2 [1, 0] rfl)
  first | exact ⟨congrArg (fun b => Value.tuple #[.int .u32 (h % 4294967296), .bool b]) (by unfold SM.opn; rw [show S.ok (h % 4294967296) = true from cg1]; rfl), Z⟩ | exact ⟨congrArg (fun b => Value.tuple #[.int .u32 (h % 4294967296), .bool b]) (by unfold SM.opn; rw [Bool.eq_false_iff.2 cg1]; rfl), Z⟩
theorem Q5 {g w : World} {L : List HP} (t : Nat) (T : TM) (h : Int) (hT : TOk T) (hh : 0 ≤ h ∧ h ≤ 18446744073709551615) (hn : T.s.opn h = false) (Z : St g (Xw t T :: L) w) :
  Sp Tryz.prog 128 [.pointer (some ⟨t, 0, none⟩), .int .u64 h] w (fun v w' => v = .tuple #[.int .u32 0, .int .i64 5] ∧ St g (Xw t T :: L) w') := by
 refine Sp.enter Tryz.func128 rfl (by kernel_rfl) (by kernel_rfl) ?_
 refine WC.seq <| WC.region <| WL.r 2 rfl <| WL.nil <| WC.seq <| WC.region ?_
 obtain ⟨⟨p, va, vc⟩, Z⟩ := St.exOpen (f := XH t T) Z; have hbv := Zk T.vals; have hTs := hT.s; have hvl := hT.vl; have hcp := hTs.cap
 replace Z : St g (Ze t #[.pointer (some ⟨p, 0, none⟩), .slice va (Za T.vals).length vc] 228 :: Yp p T.s :: Zf 64 1 (Za T.vals) va vc :: L) w := Z
 refine WL.r 2 rfl <| WL.call rfl rfl (Zmz (S := T.s) (va := va) (n := List.length (Za T.vals)) (vc := vc) (h := h) (hO := (by assumption)) (hh := hh) (Z := Z)) rfl ?_
 clear Z; rintro _ w ⟨rfl, Z⟩
 replace Z := Z.n3 L rfl
 refine WL.r 5 rfl <| WL.nil <| WC.seq <| WC.seq <| WC.region <| WL.r 2 rfl <| WL.nil <| WC.ifT rfl (by rw [hn]; rfl) ?_
 refine WC.seq <| WC.region <| WL.r 2 rfl <| WL.nil ?_
 as_aux_lemma =>
 refine WC.ret ?_
 replace Z := St.exClose (f := XH t T) ⟨p, va, vc⟩ Z
 replace Z : St g (Xw t T :: L) w := Z
 refine ⟨[.int .u32 0, .int .i64 5], ⟨rfl, rfl⟩, ?_⟩
 exact ⟨rfl, Z⟩
theorem Zbo {g w : World} {L : List HP} (t : Nat) (T : TM) (h : Int) (hT : TOk T) (hh : 0 ≤ h ∧ h ≤ 18446744073709551615) (hn : T.s.opn h = true) (Z : St g (Xw t T :: L) w) :
  Sp Tryz.prog 128 [.pointer (some ⟨t, 0, none⟩), .int .u64 h] w (fun v w' => v = .tuple #[.int .u32 (T.val h), .int .i64 0] ∧ St g (Xw t T :: L) w') := by
 refine Sp.enter Tryz.func128 rfl (by kernel_rfl) (by kernel_rfl) ?_
 refine WC.seq <| WC.region <| WL.r 2 rfl <| WL.nil <| WC.seq <| WC.region ?_
 obtain ⟨⟨p, va, vc⟩, Z⟩ := St.exOpen (f := XH t T) Z; have hbv := Zk T.vals; have hTs := hT.s; have hvl := hT.vl; have hcp := hTs.cap
 replace Z : St g (Ze t #[.pointer (some ⟨p, 0, none⟩), .slice va (Za T.vals).length vc] 228 :: Yp p T.s :: Zf 64 1 (Za T.vals) va vc :: L) w := Z
 refine WL.r 2 rfl <| WL.call rfl rfl (Zmz (S := T.s) (va := va) (n := List.length (Za T.vals)) (vc := vc) (h := h) (hO := (by assumption)) (hh := hh) (Z := Z)) rfl ?_
 clear Z; rintro _ w ⟨rfl, Z⟩
 replace Z := Z.n3 L rfl
 refine WL.r 5 rfl <| WL.nil <| WC.seq <| WC.seq <| WC.region <| WL.r 2 rfl <| WL.nil <| WC.ifF rfl (by rw [hn]; decide) ?_
 refine WC.skip <| WC.seq <| WC.region ?_
 have hrg := SM.ok_rng hTs (by omega) (SM.opn_ok hn).1
 refine WL.run 5 [.slice va (Za T.vals).length vc] rfl (by exact Z.ld 0 rfl rfl) ?_
 obtain ⟨v, hv⟩ : ∃ v, T.vals[(h % 4294967296).toNat]? = some v := ⟨_, List.getElem?_eq_getElem (by omega)⟩
 refine WL.ix rfl rfl (i := h % 4294967296) ((h % 4294967296).toNat) el_32 rfl rfl (by omega) (by omega) (Z.rdO 2 rfl (Zl hv)).1 ?_
 refine WL.run 3 [.int .u32 v] rfl (by exact (Z.rdO 2 rfl (Zl hv)).2 0 _ rfl) ?_
 refine WL.nil ?_
 as_aux_lemma =>
 refine WC.ret ?_
 replace Z := St.exClose (f := XH t T) ⟨p, va, vc⟩ Z
 replace Z : St g (Xw t T :: L) w := Z
 refine ⟨[.int .u32 v, .int .i64 0], ⟨rfl, rfl⟩, ?_⟩
 exact ⟨by rw [TM.val, hv]; rfl, Z⟩
theorem Zbu {g w : World} {L : List HP} (t : Nat) (T : TM) (h : Int) (hT : TOk T) (hh : 0 ≤ h ∧ h ≤ 18446744073709551615) (hn : T.s.opn h = false) (Z : St g (Xw t T :: L) w) :
  Sp Tryz.prog 74 [.pointer (some ⟨t, 0, none⟩), .int .u64 h] w (fun v w' => v = .tuple #[.int .u32 0, .int .i64 5] ∧ St g (Xw t T :: L) w') := by
 refine Sp.enter Tryz.func74 rfl (by kernel_rfl) (by kernel_rfl) ?_
 refine WC.seq <| WC.region <| WL.r 2 rfl <| WL.nil <| WC.seq <| WC.region ?_
 obtain ⟨⟨p, va, vc⟩, Z⟩ := St.exOpen (f := XH t T) Z; have hbv := Zk T.vals; have hTs := hT.s; have hvl := hT.vl; have hcp := hTs.cap
 replace Z : St g (Ze t #[.pointer (some ⟨p, 0, none⟩), .slice va (Za T.vals).length vc] 228 :: Yp p T.s :: Zf 64 1 (Za T.vals) va vc :: L) w := Z
 refine WL.r 2 rfl <| WL.call rfl rfl (Zmz (S := T.s) (va := va) (n := List.length (Za T.vals)) (vc := vc) (h := h) (hO := (by assumption)) (hh := hh) (Z := Z)) rfl ?_
 clear Z; rintro _ w ⟨rfl, Z⟩
 replace Z := Z.n3 L rfl
 refine WL.r 5 rfl <| WL.nil <| WC.seq <| WC.seq <| WC.region <| WL.r 2 rfl <| WL.nil <| WC.ifT rfl (by rw [hn]; rfl) ?_
 refine WC.seq <| WC.region <| WL.r 2 rfl <| WL.nil ?_
 as_aux_lemma =>
 refine WC.ret ?_
 replace Z := St.exClose (f := XH t T) ⟨p, va, vc⟩ Z
 replace Z : St g (Xw t T :: L) w := Z
 refine ⟨[.int .u32 0, .int .i64 5], ⟨rfl, rfl⟩, ?_⟩
 exact ⟨rfl, Z⟩
theorem Zc5 {g w : World} {L : List HP} (t : Nat) (T : TM) (h : Int) (hT : TOk T) (hh : 0 ≤ h ∧ h ≤ 18446744073709551615) (hn : T.s.opn h = true) (Z : St g (Xw t T :: L) w) :
  Sp Tryz.prog 74 [.pointer (some ⟨t, 0, none⟩), .int .u64 h] w (fun v w' => v = .tuple #[.int .u32 (T.val h), .int .i64 0] ∧ St g (Xw t (T.close h) :: L) w') := by
 refine Sp.enter Tryz.func74 rfl (by kernel_rfl) (by kernel_rfl) ?_
 refine WC.seq <| WC.region <| WL.r 2 rfl <| WL.nil <| WC.seq <| WC.region ?_
 obtain ⟨⟨p, va, vc⟩, Z⟩ := St.exOpen (f := XH t T) Z; have hbv := Zk T.vals; have hTs := hT.s; have hvl := hT.vl; have hcp := hTs.cap
 replace Z : St g (Ze t #[.pointer (some ⟨p, 0, none⟩), .slice va (Za T.vals).length vc] 228 :: Yp p T.s :: Zf 64 1 (Za T.vals) va vc :: L) w := Z
 refine WL.r 2 rfl <| WL.call rfl rfl (Zmz (S := T.s) (va := va) (n := List.length (Za T.vals)) (vc := vc) (h := h) (hO := (by assumption)) (hh := hh) (Z := Z)) rfl ?_
 clear Z; rintro _ w ⟨rfl, Z⟩
 replace Z := Z.n3 L rfl
 refine WL.r 5 rfl <| WL.nil <| WC.seq <| WC.seq <| WC.region <| WL.r 2 rfl <| WL.nil <| WC.ifF rfl (by rw [hn]; decide) ?_
 refine WC.skip <| WC.seq <| WC.region ?_
 have hrg := SM.ok_rng hTs (by omega) (SM.opn_ok hn).1
 refine WL.run 5 [.pointer (some ⟨p, 0, none⟩)] rfl (by exact Z.ld 0 rfl rfl) ?_
 refine WL.call rfl rfl (Jd (S := T.s) (i := h % 4294967296) (hO := (by assumption)) (hi := (by omega)) (hn := (SM.opn_ok hn).1) (Z := (Z.sel 2 [1, 0] rfl))) rfl ?_
 clear Z; rintro _ w ⟨rfl, Z⟩
 replace Z := Z.n3 L (a0 := Yp p (T.s.release (h % 4294967296))) rfl
 refine WL.nil ?_
 as_aux_lemma =>
 refine WC.seq <| WC.region <| WL.run 5 [.slice va (Za T.vals).length vc] rfl (by exact Z.ld 1 rfl rfl) ?_
 obtain ⟨v, hv⟩ : ∃ v, T.vals[(h % 4294967296).toNat]? = some v := ⟨_, List.getElem?_eq_getElem (by omega)⟩
 refine WL.ix rfl rfl (i := h % 4294967296) ((h % 4294967296).toNat) el_32 rfl rfl (by omega) (by omega) (Z.rdO 2 rfl (Zl hv)).1 ?_
 refine WL.run 3 [.int .u32 v] rfl (by exact (Z.rdO 2 rfl (Zl hv)).2 0 _ rfl) ?_
 refine WL.nil <| WC.ret ?_
 replace Z := St.exClose (f := XH t (T.close h)) ⟨p, va, vc⟩ (by first | exact Z | exact Z.sel 3 [1, 0, 0] rfl)
 replace Z : St g (Xw t (T.close h) :: L) w := Z
 refine ⟨[.int .u32 v, .int .i64 0], ⟨rfl, rfl⟩, ?_⟩
 exact ⟨by rw [TM.val, hv]; rfl, Z⟩
theorem Zqh {g w : World} {L : List HP} (t : Nat) (T : TM) (hT : TOk T) (Z : St g (Xw t T :: L) w) :
  Sp Tryz.prog 159 [.pointer (some ⟨t, 0, none⟩)] w (fun v w' => v = .int .i64 (T.s.cap - T.s.free) ∧ St g (Xw t T :: L) w') := by
 refine Sp.enter Tryz.func159 rfl (by kernel_rfl) (by kernel_rfl) ?_
 refine WC.seq <| WC.region ?_
 have hfr := hT.s.fr; have hrl := hT.s.rle; have hcp0 := hT.s.cap; have e1 : T.s.cap = (T.s.used.length : Int) - 1 := rfl; have e2 : T.s.free = (T.s.rel.length : Int) + T.s.cap - T.s.fresh := rfl
 obtain ⟨⟨p, va, vc⟩, Z⟩ := St.exOpen (f := XH t T) Z; have hbv := Zk T.vals; have hTs := hT.s; have hvl := hT.vl; have hcp := hTs.cap
 replace Z : St g (Ze t #[.pointer (some ⟨p, 0, none⟩), .slice va (Za T.vals).length vc] 228 :: Yp p T.s :: Zf 64 1 (Za T.vals) va vc :: L) w := Z
 refine WL.r 1 rfl <| WL.nil <| WC.seq <| WC.plan [([0, 5, 1, 6, 2, 7, 3, 8], some (4, [5, 6, 7, 8])), ([], some (9, [])), ([10, 11], none)] (by kernel_rfl) (by kernel_rfl) ?_
 refine WQ.run 8 [.pointer (some ⟨p, 0, none⟩), .pointer (some ⟨p, 0, none⟩)] rfl (by exact ⟨Z.ld 0 rfl rfl, Z.ld 0 rfl rfl⟩) ?_
 refine WQ.nil ?_
 intro m1
 replace Z := Z.drewN m1; generalize hwm1 : World.drewN _ _ = w at *; clear hwm1
 refine WL.call rfl rfl (Zek (S := T.s) (hl := (by first | assumption | exact SOk.le (by assumption))) (Z := (Z.sel 2 [1, 0] rfl))) rfl ?_
 clear Z; rintro _ w ⟨rfl, Z⟩
 replace Z := Z.n3 L rfl
 refine WL.nil ?_
 refine ⟨by exact ⟨RQ.pure rfl rfl rfl rfl, RQ.pure rfl rfl rfl rfl, RQ.pure rfl rfl rfl rfl, RQ.load rfl rfl rfl rfl (Z.ld 1 rfl rfl)⟩, ?_⟩
 refine WQ.nil ?_
 intro m2
 replace Z := Z.drewN m2; generalize hwm2 : World.drewN _ _ = w at *; clear hwm2
 refine WL.call rfl rfl (Zco (S := T.s) (hO := (by assumption)) (Z := Z)) rfl ?_
 clear Z; rintro _ w ⟨rfl, Z⟩
 replace Z := Z.n3 L rfl
 refine WL.nil ?_
 refine ⟨by exact trivial, ?_⟩
 refine WQ.r 1 rfl <| WQ.nw 13 rfl (Zr (by omega)) ?_
 refine WQ.r 1 rfl <| WQ.nil ?_
 intro m3
 replace Z := Z.drewN m3; generalize hwm3 : World.drewN _ _ = w at *; clear hwm3
 as_aux_lemma =>
 refine WC.ret ?_
 replace Z := St.exClose (f := XH t T) ⟨p, va, vc⟩ (by first | exact Z | exact Z.sel 3 [1, 0, 0] rfl)
 replace Z : St g (Xw t T :: L) w := Z
 refine ⟨[.int .i64 (T.s.cap - T.s.free)], rfl, ?_⟩
 exact ⟨rfl, Z⟩
theorem Zei {g w : World} {L : List HP} (t : Nat) (T : TM) (y : Int) (hT : TOk T) (hf : 0 < T.s.free) (Z : St g (Xw t T :: L) w) :
  Sp Tryz.prog 187 [.pointer (some ⟨t, 0, none⟩), .int .u32 y] w (fun v w' => v = .tuple #[.int .u64 T.newH, .int .i64 0] ∧ St g (Xw t (T.open y) :: L) w') := by
 refine Sp.enter Tryz.func187 rfl (by kernel_rfl) (by kernel_rfl) ?_
 refine WC.seq <| WC.region <| WL.r 2 rfl <| WL.nil <| WC.seq <| WC.region ?_
 obtain ⟨⟨p, va, vc⟩, Z⟩ := St.exOpen (f := XH t T) Z; have hbv := Zk T.vals; have hTs := hT.s; have hvl := hT.vl; have hcp := hTs.cap
 replace Z : St g (Ze t #[.pointer (some ⟨p, 0, none⟩), .slice va (Za T.vals).length vc] 228 :: Yp p T.s :: Zf 64 1 (Za T.vals) va vc :: L) w := Z
 refine WL.run 4 [.pointer (some ⟨p, 0, none⟩)] rfl (by exact Z.ld 0 rfl rfl) ?_
 refine WL.call rfl rfl (J8 (S := T.s) (hO := (by assumption)) (hf := hf) (Z := (Z.sel 2 [1, 0] rfl))) rfl ?_
 clear Z; rintro _ w ⟨rfl, Z⟩
 replace Z := Z.n3 L (a0 := Yp p T.s.alloc) rfl
 refine WL.r 5 rfl <| WL.nil <| WC.seq <| WC.seq <| WC.region <| WL.r 2 rfl <| WL.nil <| WC.ifF rfl (decide_eq_false ((by decide))) ?_
 refine WC.skip <| WC.seq <| WC.region ?_
 have hnx := T.s.next_rng hTs hf; have hO2 := SM.alloc_sok hTs hf
 refine WL.run 6 [.slice va (Za T.vals).length vc] rfl (by exact Z.ld 1 rfl rfl) ?_
 obtain ⟨u, hv⟩ : ∃ u, T.vals[T.s.next.toNat]? = some u := ⟨_, List.getElem?_eq_getElem (by omega)⟩
 refine WL.ix rfl rfl (i := T.s.next) (T.s.next.toNat) el_32 rfl rfl (by omega) (by omega) (Z.rdO 2 rfl (Zl hv)).1 ?_
 refine WL.stE rfl rfl rfl 2 (T.s.next.toNat) 0 [.int .u32 u] (Za (T.vals.set T.s.next.toNat y)) Z rfl (Zl hv) rfl rfl rfl rfl rfl (XR _ _ _) (fun w Z => ?_)
 replace Z := Z.n3 L (a2 := Zf 64 1 (Za (T.vals.set T.s.next.toNat y)) va vc) rfl
 refine WL.nil ?_
 as_aux_lemma =>
 refine WC.seq <| WC.region <| WL.r 2 rfl <| WL.call rfl rfl (hd0 (S := T.s.alloc) (va := va) (n := List.length (Za T.vals)) (vc := vc) (i := T.s.next) (hO := (by assumption)) (hi := (by omega)) (Z := (Z.sel 2 [1, 0] rfl))) rfl ?_
 clear Z; rintro _ w ⟨rfl, Z⟩
 replace Z := Z.n3 L rfl
 refine WL.r 2 rfl <| WL.nil <| WC.ret ?_
 replace Z := St.exClose (f := XH t (T.open y)) ⟨p, va, vc⟩ (by
  have e1 : (Za (T.open y).vals).length = (Za T.vals).length := by simp [TM.open]
  unfold XH
  rw [e1]
  first | exact Z | exact Z.sel 3 [1, 0, 0] rfl)
 replace Z : St g (Xw t (T.open y) :: L) w := Z
 refine ⟨[.int .u64 (T.s.alloc.hd T.s.next), .int .i64 0], ⟨rfl, rfl⟩, ?_⟩
 exact ⟨rfl, Z⟩
theorem Zhj {g w : World} {L : List HP} (cap : Int) (hc : 1 ≤ cap ∧ cap ≤ 4096) (Z : St g (L) w) :
  Sp Tryz.prog 58 [.int .i64 cap] w (fun v w' => ∃ (t : Nat), v = .tuple #[.pointer (some ⟨t, 0, none⟩), .int .i64 0] ∧ St g (Xw t (TM.new cap.toNat) :: L) w') := by
 refine Sp.enter Tryz.func58 rfl (by kernel_rfl) (by kernel_rfl) ?_
 have _ := hc
 refine WC.seq <| WC.region <| WL.r 2 rfl <| WL.nil <| WC.seq <| WC.seq <| WC.region <| WL.r 2 rfl <| WL.rG 4 rfl (fun j => ?_)
 refine WL.prop 11 rfl (bor (dd _) (dd _)) <| WL.nil <| WC.ifF rfl (decide_eq_false ((by omega))) ?_
 refine WC.skip <| WC.seq <| WC.region <| WL.r 1 rfl <| WL.call rfl rfl (Zax (cap := cap) (hc := (by omega)) (Z := Z)) rfl ?_
 clear Z; rintro _ w ⟨s1, rfl, Z⟩
 replace Z : St g (Yp s1 (SM.new cap.toNat) :: L) w := Z
 refine WL.r 5 rfl <| WL.nil <| WC.seq <| WC.seq <| WC.region <| WL.r 2 rfl <| WL.nil ?_
 as_aux_lemma =>
 refine WC.ifF rfl (decide_eq_false ((by decide))) ?_
 refine WC.skip <| WC.seq <| WC.region <| WL.r 3 rfl <| WL.nw 22 rfl (Zr (by omega)) ?_
 refine WL.make rfl rfl (v := cap + 1) (v' := cap + 1) (cap.toNat + 1) (cap.toNat + 1) el_32 Z rfl (by omega) rfl (by omega) (by omega) (Rm.of (by omega) (by decide)) (fun b1 w Z => ?_)
 replace Z := Z.n2 L (a0 := Zf 64 1 (List.replicate (cap.toNat + 1) [.int .u32 0]) (some ⟨b1, 0, none⟩) (cap.toNat + 1)) rfl
 refine WL.build rfl rfl (cs := [.pointer (some ⟨s1, 0, none⟩), .slice (some ⟨b1, 0, none⟩) (cap.toNat + 1) (cap.toNat + 1)]) Zp5 rfl rfl <| WL.box rfl rfl #[.pointer (some ⟨s1, 0, none⟩), .slice (some ⟨b1, 0, none⟩) (cap.toNat + 1) (cap.toNat + 1)] Z rfl rfl (fun b2 w Z => ?_)
 refine WL.r 2 rfl <| WL.nil <| WC.ret ?_
 rw [Xb] at Z
 replace Z := St.exClose (f := XH b2 (TM.new cap.toNat)) ⟨s1, some ⟨b1, 0, none⟩, cap.toNat + 1⟩ (by
  have e1 : (Za (TM.new cap.toNat).vals).length = cap.toNat + 1 := by simp [TM.new]
  unfold XH
  rw [e1]
  exact Z.sel 3 [0, 1, 0] rfl)
 replace Z : St g (Xw b2 (TM.new cap.toNat) :: L) w := Z
 refine ⟨[.pointer (some ⟨b2, 0, none⟩), .int .i64 0], ⟨rfl, rfl⟩, ?_⟩
 exact ⟨_, rfl, Z⟩
end Go.Proofs.YtbeacjcmdijdmaaGreat
namespace Go.Proofs.YtbeacjcmdijdmaaGreat
open Go Go.V
theorem JL {n : Nat} : (Yr (AM.new n).nodes).length = n + 1 := by simp [AM.new]
theorem Jy {n : Nat} : (Zb (AM.new n).cnt).length = n + 1 := by simp [AM.new]
theorem Zg0 {g w : World} {L : List HP} (cap : Int) (hc : 1 ≤ cap ∧ cap ≤ 65536) (Z : St g (L) w) :
  Sp Tryz.prog 57 [.int .i64 cap] w (fun v w' => ∃ (a : Nat), v = .tuple #[.pointer (some ⟨a, 0, none⟩), .int .i64 0] ∧ St g (Zs a (AM.new cap.toNat) :: L) w') := by
 refine Sp.enter Tryz.func57 rfl (by kernel_rfl) (by kernel_rfl) ?_
 refine WC.seq <| WC.region <| WL.r 2 rfl <| WL.nil <| WC.seq <| WC.region <| WL.r 1 rfl <| WL.call rfl rfl (Zax (cap := cap) (hc := hc) (Z := Z)) rfl ?_
 clear Z; rintro _ w ⟨s1, rfl, Z⟩
 replace Z : St g (Yp s1 (SM.new cap.toNat) :: L) w := Z
 refine WL.r 5 rfl <| WL.nil <| WC.seq <| WC.seq <| WC.region <| WL.r 2 rfl <| WL.nil <| WC.ifF rfl (decide_eq_false ((by decide))) ?_
 refine WC.skip <| WC.seq <| WC.tree (.two [0, 1, 4, 2, 5] 3 [0, 4, 5] (.one [] 6 [0, 1, 2] (.one [7] 8 [] (.seg [9, 10] .nil))) 6 [0, 1, 2] (.one [] 3 [0, 4, 5] (.one [7] 8 [] (.seg [9, 10] .nil)))) (by kernel_rfl) (by kernel_rfl) ?_
 refine WQ.r 4 rfl <| WQ.nw 16 rfl (Zr (by omega)) ?_
 refine WQ.r 1 rfl <| WQ.nw 19 rfl (Zr (by omega)) ?_
 refine WQ.nil ?_
 intro m1
 replace Z := Z.drewN m1; generalize hwm1 : World.drewN _ _ = w at *; clear hwm1
 refine ⟨?_, ?_⟩
 ·refine WL.make rfl rfl (v := cap + 1) (v' := cap + 1) (cap.toNat + 1) (cap.toNat + 1) el_159 Z rfl (by omega) rfl (by omega) (by omega) (Rm.of (by omega) (by decide)) (fun b1 w Z => ?_)
  replace Z := Z.n2 L (a0 := Zf 172 8 (List.replicate (cap.toNat + 1) [.int .i64 0, .int .i64 0, .int .u32 0, .int .u32 0, .int .i64 0, .int .i64 0, .int .i64 0, .int .i64 0]) (some ⟨b1, 0, none⟩) (cap.toNat + 1)) rfl
  refine WL.nil ?_
  refine ⟨by exact ⟨RQ.pure rfl rfl rfl rfl, RQ.pure rfl rfl rfl rfl, RQ.pure rfl rfl rfl (congrArg (Value.int .i64) (Eq.symm (Zr (by omega))))⟩, ?_⟩
  refine WQ.nil ?_
  intro m2
  replace Z := Z.drewN m2; generalize hwm2 : World.drewN _ _ = w at *; clear hwm2
  refine WL.make rfl rfl (v := cap + 1) (v' := cap + 1) (cap.toNat + 1) (cap.toNat + 1) el_56 Z rfl (by omega) rfl (by omega) (by omega) (Rm.of (by omega) (by decide)) (fun b2 w Z => ?_)
  replace Z := Z.n3 L (a0 := Zf 3 1 (List.replicate (cap.toNat + 1) [.int .i64 0]) (some ⟨b2, 0, none⟩) (cap.toNat + 1)) rfl
  refine WL.nil ?_
  refine ⟨by exact ⟨RQ.pure rfl rfl rfl rfl, RQ.pure rfl rfl rfl rfl, RQ.pure rfl rfl rfl (congrArg (Value.int .i64) (Eq.symm (Zr (by omega))))⟩, ?_⟩
  refine WQ.build rfl rfl (cs := [.pointer (some ⟨s1, 0, none⟩), .slice (some ⟨b1, 0, none⟩) (cap.toNat + 1) (cap.toNat + 1), .slice (some ⟨b2, 0, none⟩) (cap.toNat + 1) (cap.toNat + 1), .int .u64 0]) Zib rfl rfl <| WQ.nil ?_
  intro m3
  replace Z := Z.drewN m3; generalize hwm3 : World.drewN _ _ = w at *; clear hwm3
  refine WL.box rfl rfl #[.pointer (some ⟨s1, 0, none⟩), .slice (some ⟨b1, 0, none⟩) (cap.toNat + 1) (cap.toNat + 1), .slice (some ⟨b2, 0, none⟩) (cap.toNat + 1) (cap.toNat + 1), .int .u64 0] Z rfl rfl (fun b3 w Z => ?_)
  refine WL.nil ?_
  refine ⟨by exact trivial, ?_⟩
  refine WQ.r 2 rfl <| WQ.nil ?_
  intro m4
  replace Z := Z.drewN m4; generalize hwm4 : World.drewN _ _ = w at *; clear hwm4
  as_aux_lemma =>
  refine WC.ret ?_
  rw [Zgu, Zd8] at Z
  first
  | (replace Z := St.exClose (f := Yz b3 (AM.new cap.toNat)) ⟨s1, some ⟨b1, 0, none⟩, cap.toNat + 1, some ⟨b2, 0, none⟩, cap.toNat + 1, 0⟩ (by
    unfold Yz
    rw [JL, Jy]
    exact Z.sel 4 [0, 2, 1, 0] rfl))
  | (replace Z := St.exClose (f := Yz b3 (AM.new cap.toNat)) ⟨s1, some ⟨b2, 0, none⟩, cap.toNat + 1, some ⟨b1, 0, none⟩, cap.toNat + 1, 0⟩ (by
    unfold Yz
    rw [JL, Jy]
    exact Z.sel 4 [0, 2, 0, 0] rfl))
  replace Z : St g (Zs b3 (AM.new cap.toNat) :: L) w := Z
  refine ⟨[.pointer (some ⟨b3, 0, none⟩), .int .i64 0], ⟨rfl, rfl⟩, ?_⟩
  exact ⟨_, rfl, Z⟩
 ·refine WL.make rfl rfl (v := cap + 1) (v' := cap + 1) (cap.toNat + 1) (cap.toNat + 1) el_56 Z rfl (by omega) rfl (by omega) (by omega) (Rm.of (by omega) (by decide)) (fun b1 w Z => ?_)
  replace Z := Z.n2 L (a0 := Zf 3 1 (List.replicate (cap.toNat + 1) [.int .i64 0]) (some ⟨b1, 0, none⟩) (cap.toNat + 1)) rfl
  refine WL.nil ?_
  refine ⟨by exact ⟨RQ.pure rfl rfl rfl rfl, RQ.pure rfl rfl rfl rfl, RQ.pure rfl rfl rfl (congrArg (Value.int .i64) (Eq.symm (Zr (by omega))))⟩, ?_⟩
  refine WQ.nil ?_
  intro m2
  replace Z := Z.drewN m2; generalize hwm2 : World.drewN _ _ = w at *; clear hwm2
  refine WL.make rfl rfl (v := cap + 1) (v' := cap + 1) (cap.toNat + 1) (cap.toNat + 1) el_159 Z rfl (by omega) rfl (by omega) (by omega) (Rm.of (by omega) (by decide)) (fun b2 w Z => ?_)
  replace Z := Z.n3 L (a0 := Zf 172 8 (List.replicate (cap.toNat + 1) [.int .i64 0, .int .i64 0, .int .u32 0, .int .u32 0, .int .i64 0, .int .i64 0, .int .i64 0, .int .i64 0]) (some ⟨b2, 0, none⟩) (cap.toNat + 1)) rfl
  refine WL.nil ?_
  refine ⟨by exact ⟨RQ.pure rfl rfl rfl rfl, RQ.pure rfl rfl rfl rfl, RQ.pure rfl rfl rfl (congrArg (Value.int .i64) (Eq.symm (Zr (by omega))))⟩, ?_⟩
  refine WQ.build rfl rfl (cs := [.pointer (some ⟨s1, 0, none⟩), .slice (some ⟨b2, 0, none⟩) (cap.toNat + 1) (cap.toNat + 1), .slice (some ⟨b1, 0, none⟩) (cap.toNat + 1) (cap.toNat + 1), .int .u64 0]) Zib rfl rfl <| WQ.nil ?_
  intro m3
  replace Z := Z.drewN m3; generalize hwm3 : World.drewN _ _ = w at *; clear hwm3
  refine WL.box rfl rfl #[.pointer (some ⟨s1, 0, none⟩), .slice (some ⟨b2, 0, none⟩) (cap.toNat + 1) (cap.toNat + 1), .slice (some ⟨b1, 0, none⟩) (cap.toNat + 1) (cap.toNat + 1), .int .u64 0] Z rfl rfl (fun b3 w Z => ?_)
  refine WL.nil ?_
  refine ⟨by exact trivial, ?_⟩
  refine WQ.r 2 rfl <| WQ.nil ?_
  intro m4
  replace Z := Z.drewN m4; generalize hwm4 : World.drewN _ _ = w at *; clear hwm4
  as_aux_lemma =>
  refine WC.ret ?_
  rw [Zgu, Zd8] at Z
  first
  | (replace Z := St.exClose (f := Yz b3 (AM.new cap.toNat)) ⟨s1, some ⟨b1, 0, none⟩, cap.toNat + 1, some ⟨b2, 0, none⟩, cap.toNat + 1, 0⟩ (by
    unfold Yz
    rw [JL, Jy]
    exact Z.sel 4 [0, 2, 1, 0] rfl))
  | (replace Z := St.exClose (f := Yz b3 (AM.new cap.toNat)) ⟨s1, some ⟨b2, 0, none⟩, cap.toNat + 1, some ⟨b1, 0, none⟩, cap.toNat + 1, 0⟩ (by
    unfold Yz
    rw [JL, Jy]
    exact Z.sel 4 [0, 2, 0, 0] rfl))
  replace Z : St g (Zs b3 (AM.new cap.toNat) :: L) w := Z
  refine ⟨[.pointer (some ⟨b3, 0, none⟩), .int .i64 0], ⟨rfl, rfl⟩, ?_⟩
  exact ⟨_, rfl, Z⟩
theorem Zga {g w : World} {L : List HP} (a : Nat) (A : AM) (hA : AWf A) (Z : St g (Zs a A :: L) w) :
  Sp Tryz.prog 15 [.pointer (some ⟨a, 0, none⟩)] w (fun v w' => v = .int .i64 A.s.free ∧ St g (Zs a A :: L) w') := by
 refine Sp.enter Tryz.func15 rfl (by kernel_rfl) (by kernel_rfl) ?_
 refine WC.seq <| WC.region ?_
 obtain ⟨⟨p, na, nc, ca, cc, rd⟩, Z⟩ := St.exOpen (f := Yz a A) Z; have hAs := hA.s; have hcp := hAs.cap; have hnl := hA.nl; have hcl := hA.cl; have hbn := YM A.nodes; have hbc := Zh A.cnt
 replace Z : St g (Ze a #[.pointer (some ⟨p, 0, none⟩), .slice na (Yr A.nodes).length nc, .slice ca (Zb A.cnt).length cc, .int .u64 rd] 161 :: Yp p A.s :: Zf 172 8 (Yr A.nodes) na nc :: Zf 3 1 (Zb A.cnt) ca cc :: L) w := Z
 refine WL.r 1 rfl <| WL.nil <| WC.seq <| WC.region <| WL.run 4 [.pointer (some ⟨p, 0, none⟩)] rfl (by exact Z.ld 0 rfl rfl) ?_
 refine WL.call rfl rfl (Zco (S := A.s) (hO := (by assumption)) (Z := (Z.sel 2 [1, 0] rfl))) rfl ?_
 clear Z; rintro _ w ⟨rfl, Z⟩
 replace Z := Z.n4 L rfl
 refine WL.r 1 rfl <| WL.nil <| WC.ret ?_
 replace Z := St.exClose (f := Yz a A) ⟨p, na, nc, ca, cc, rd⟩ (by first | exact Z | exact Z.sel 4 [1, 0, 0, 0] rfl)
 replace Z : St g (Zs a A :: L) w := Z
 refine ⟨[.int .i64 A.s.free], rfl, ?_⟩
 exact ⟨rfl, Z⟩
theorem Xp {g w : World} {L : List HP} (a : Nat) (A : AM) (i : Int) (hA : AWf A) (hi : 0 ≤ i ∧ i < 4294967296) (Z : St g (Zs a A :: L) w) :
  Sp Tryz.prog 70 [.pointer (some ⟨a, 0, none⟩), .int .u32 i] w (fun v w' => v = .int .i64 (A.retE i) ∧ St g (Zs a (A.ret i) :: L) w') := by
 refine Sp.enter Tryz.func70 rfl (by kernel_rfl) (by kernel_rfl) ?_
 refine WC.seq <| WC.region ?_
 obtain ⟨⟨p, na, nc, ca, cc, rd⟩, Z⟩ := St.exOpen (f := Yz a A) Z; have hAs := hA.s; have hcp := hAs.cap; have hnl := hA.nl; have hcl := hA.cl; have hbn := YM A.nodes; have hbc := Zh A.cnt
 replace Z : St g (Ze a #[.pointer (some ⟨p, 0, none⟩), .slice na (Yr A.nodes).length nc, .slice ca (Zb A.cnt).length cc, .int .u64 rd] 161 :: Yp p A.s :: Zf 172 8 (Yr A.nodes) na nc :: Zf 3 1 (Zb A.cnt) ca cc :: L) w := Z
 refine WL.r 1 rfl <| WL.nil <| WC.seq <| WC.seq <| WC.region <| WL.r 2 rfl <| WL.nil <| WC.ifP rfl (fun cd1 => ?_) (fun cd1 => ?_)
 ·refine WC.seq <| WC.region <| WL.r 1 rfl <| WL.nil <| WC.ret ?_
  replace Z := St.exClose (f := Yz a A) ⟨p, na, nc, ca, cc, rd⟩ Z; replace Z : St g (Zs a (A.ret i) :: L) w := by rw [AM.ret, if_neg (fun h => h.1 cd1)]; exact Z
  replace Z : St g (Zs a (A.ret i) :: L) w := Z
  refine ⟨[.int .i64 0], rfl, ?_⟩
  exact ⟨congrArg (Value.int .i64) (if_pos (.inl cd1)).symm, Z⟩
 ·refine WC.skip <| WC.seq <| WC.seq <| WC.region <| WL.run 5 [.pointer (some ⟨p, 0, none⟩)] rfl (by exact Z.ld 0 rfl rfl) ?_
  refine WL.call rfl rfl (Jb (S := A.s) (i := i) (hl := (by first | assumption | exact SOk.le (by assumption))) (hi := (by omega)) (Z := (Z.sel 2 [1, 0] rfl))) rfl ?_
  clear Z; rintro _ w ⟨rfl, Z⟩
  replace Z := Z.n4 L rfl
  refine WL.r 1 rfl <| WL.nil <| WC.if_ rfl (fun cd2 => ?_) (fun cd2 => ?_)
  ·refine WC.seq <| WC.region <| WL.r 1 rfl <| WL.nil ?_
   as_aux_lemma =>
   refine WC.ret ?_
   replace Z := St.exClose (f := Yz a A) ⟨p, na, nc, ca, cc, rd⟩ (by first | exact Z | exact Z.sel 4 [1, 0, 0, 0] rfl); replace Z : St g (Zs a (A.ret i) :: L) w := by rw [AM.ret, if_neg (fun h => by rw [h.2] at cd2; cases cd2)]; exact Z
   replace Z : St g (Zs a (A.ret i) :: L) w := Z
   refine ⟨[.int .i64 3], rfl, ?_⟩
   exact ⟨congrArg (Value.int .i64) (if_neg (fun h => h.elim cd1 (fun k => by rw [k] at cd2; cases cd2))).symm, Z⟩
  ·refine WC.skip ?_
   as_aux_lemma =>
   refine WC.seq <| WC.region ?_
   have hik := SM.ok_rng hAs hi.1 (by simpa using cd2)
   refine WL.run 5 [.slice ca (Zb A.cnt).length cc] rfl (by exact Z.ld 1 rfl rfl) ?_
   obtain ⟨x, hx⟩ : ∃ x, A.cnt[i.toNat]? = some x := ⟨_, List.getElem?_eq_getElem (by omega)⟩
   refine WL.ix rfl rfl (i := i) (i.toNat) el_56 rfl rfl (by omega) (by omega) (Z.rdO 3 rfl (Zd hx)).1 ?_
   refine WL.run 2 [.int .i64 x] rfl (by exact (Z.rdO 3 rfl (Zd hx)).2 0 _ rfl) ?_
   refine WL.ix rfl rfl (i := i) (i.toNat) el_56 rfl rfl (by omega) (by omega) (Z.rdO 3 rfl (Zd hx)).1 ?_
   refine WL.stE rfl rfl rfl 3 (i.toNat) 0 [.int .i64 x] (Zb (A.cnt.set i.toNat (IntKind.i64.wrap (x + 1)))) Z rfl (Zd hx) rfl rfl rfl rfl rfl (Xf _ _ _) (fun w Z => ?_)
   replace Z := Z.n4 L (a3 := Zf 3 1 (Zb (A.cnt.set i.toNat (IntKind.i64.wrap (x + 1)))) ca cc) rfl
   refine WL.nil <| WC.seq <| WC.region <| WL.r 1 rfl <| WL.nil <| WC.ret ?_
   replace Z := St.exClose (f := Yz a (A.inc i)) ⟨p, na, nc, ca, cc, rd⟩ (by
    have e1 : (Zb (A.inc i).cnt).length = (Zb A.cnt).length := by simp [AM.inc]
    have e2 : (A.inc i).cnt = A.cnt.set i.toNat (IntKind.i64.wrap (x + 1)) := by unfold AM.inc AM.cntOf; rw [hx]; rfl
    unfold Yz
    rw [e1, e2]
    first | exact Z | exact Z.sel 4 [1, 0, 0, 0] rfl)
   replace Z : St g (Zs a (A.ret i) :: L) w := by rw [AM.ret, if_pos ⟨cd1, by simpa using cd2⟩]; exact Z
   replace Z : St g (Zs a (A.ret i) :: L) w := Z
   refine ⟨[.int .i64 0], rfl, ?_⟩
   exact ⟨congrArg (Value.int .i64) (if_pos (.inr (by simpa using cd2))).symm, Z⟩
theorem Zcy {g w : World} {L : List HP} (a : Nat) (A : AM) (Z : St g (Zs a A :: L) w) :
  Sp Tryz.prog 34 [.pointer (some ⟨a, 0, none⟩), .int .u32 0] w (fun v w' => v = .tuple #[.int .i64 0, .int .i64 0] ∧ St g (Zs a A :: L) w') := by
 refine Sp.enter Tryz.func34 rfl (by kernel_rfl) (by kernel_rfl) ?_
 refine WC.seq <| WC.region <| WL.r 2 rfl <| WL.nil <| WC.seq <| WC.seq <| WC.region <| WL.r 2 rfl <| WL.nil <| WC.ifT rfl (decide_eq_true ((by decide))) ?_
 refine WC.seq <| WC.region <| WL.r 2 rfl <| WL.nil <| WC.ret ?_
 refine ⟨[.int .i64 0, .int .i64 0], ⟨rfl, rfl⟩, ?_⟩
 exact ⟨rfl, Z⟩
end Go.Proofs.YtbeacjcmdijdmaaGreat
namespace Go.Proofs.YtbeacjcmdijdmaaGreat
open Go Go.V
structure Shr (A B : AM) : Prop where
 ok : ∀ j, 0 ≤ j → B.s.ok j = true → A.s.ok j = true ∧ B.nd j = A.nd j
 cap : B.s.used.length = A.s.used.length
 gen : B.s.gen = A.s.gen
theorem Shr.refl (A : AM) : Shr A A := ⟨fun _ _ h => ⟨h, rfl⟩, rfl, rfl⟩
theorem Shr.dec {A B : AM} (h : Shr A B) (k : Int) : Shr A (B.dec k) := ⟨h.ok, h.cap, h.gen⟩
theorem Shr.free {A B : AM} {k : Int} (h : Shr A B) (hB : AWf B) (hk : B.s.ok k = true) (h0 : 0 ≤ k) : Shr A (B.freed k) := ⟨fun j hj hjk => by
 rw [AM.freed_ok hB.s hk h0 j hj] at hjk
 split at hjk
 ·cases hjk
 ·rename_i e
  have h1 := h.ok j hj hjk
  refine ⟨h1.1, ?_⟩
  unfold AM.freed
  rw [AM.nd_set (by rw [hB.nl]; exact (SM.ok_rng hB.s h0 hk).2.2.2) h0 hj, if_neg e]
  exact h1.2, by rw [← h.cap]; exact List.length_set, h.gen⟩
theorem Zfs {W : List Int} {k : Int} (h : W[W.length - 1]? = some k) : W = W.take (W.length - 1) ++ [k] := by
 have hl := (List.getElem?_eq_some_iff.1 h).1
 have h1 := List.take_append_drop (W.length - 1) W
 rw [List.drop_eq_getElem_cons hl, (List.getElem?_eq_some_iff.1 h).2, List.drop_of_length_le (by omega)] at h1
 exact h1.symm
theorem Znp {B : AM} {R T : List Int} {l r : Int} (h : ARf B (l :: r :: (T ++ R))) : ARf B ((T ++ (if r ≠ 0 then [r] else []) ++ (if l ≠ 0 then [l] else [])) ++ R) := by
 have pr : (r :: (T ++ R)).Perm ((T ++ [r]) ++ R) := by simpa using (List.perm_middle (a := r) (l₁ := T) (l₂ := R)).symm
 have pl : (l :: (T ++ R)).Perm ((T ++ [l]) ++ R) := by simpa using (List.perm_middle (a := l) (l₁ := T) (l₂ := R)).symm
 by_cases hl : l = 0
 ·by_cases hr : r = 0
  ·subst hl; subst hr; simpa using h.tail0.tail0
  ·subst hl
   have h1 := h.tail0.perm pr
   simpa [hr] using h1
 ·by_cases hr : r = 0
  ·subst hr
   have h0 : ARf B (0 :: l :: (T ++ R)) := h.perm (List.Perm.swap _ _ _)
   have h1 := h0.tail0.perm pl
   simpa [hl] using h1
  ·have p2 : (l :: ((T ++ [r]) ++ R)).Perm (((T ++ [r]) ++ [l]) ++ R) := by simpa using (List.perm_middle (a := l) (l₁ := T ++ [r]) (l₂ := R)).symm
   have h1 := h.perm ((List.Perm.cons l pr).trans p2)
   simpa [hl, hr] using h1
theorem Qe {p : Int → Prop} {T : List Int} {r : Int} (h : ∀ x ∈ T, p x) (hr : p r) : ∀ x ∈ T ++ [r], p x := fun x hx => by
 rcases List.mem_append.1 hx with hx | hx
 ·exact h x hx
 ·rw [List.mem_singleton.1 hx]; exact hr
set_option maxHeartbeats 2000000 in
theorem Q4 {g w : World} {L : List HP} (a : Nat) (A : AM) (R : List Int) (i : Int) (hA : ARf A (i :: R)) (hi : 1 ≤ i ∧ i < 4294967296) (hR : R.length ≤ 900000000) (Z : St g (Zs a A :: L) w) :
  Sp Tryz.prog 34 [.pointer (some ⟨a, 0, none⟩), .int .u32 i] w (fun v w' => ∃ (A2 : AM) (f : Int), v = .tuple #[.int .i64 f, .int .i64 0] ∧ St g (Zs a A2 :: L) w' ∧ (ARf A2 R) ∧ (Shr A A2) ∧ (f = A2.s.free - A.s.free)) := by
 refine Sp.enter Tryz.func34 rfl (by kernel_rfl) (by kernel_rfl) ?_
 have _ := hR
 have _ := hi
 refine WC.seq <| WC.region ?_
 have hir := (hA.ref i (List.mem_cons_self ..)).resolve_left (by omega)
 refine WL.r 2 rfl <| WL.nil <| WC.seq <| WC.seq <| WC.region <| WL.r 2 rfl <| WL.nil <| WC.ifF rfl (decide_eq_false ((by omega))) ?_
 refine WC.skip <| WC.seq <| WC.seq <| WC.region ?_
 obtain ⟨⟨p, na, nc, ca, cc, rd⟩, Z⟩ := St.exOpen (f := Yz a A) Z; have hAs := hA.s; have hcp := hAs.cap; have hnl := hA.nl; have hcl := hA.cl; have hbn := YM A.nodes; have hbc := Zh A.cnt
 replace Z : St g (Ze a #[.pointer (some ⟨p, 0, none⟩), .slice na (Yr A.nodes).length nc, .slice ca (Zb A.cnt).length cc, .int .u64 rd] 161 :: Yp p A.s :: Zf 172 8 (Yr A.nodes) na nc :: Zf 3 1 (Zb A.cnt) ca cc :: L) w := Z
 refine WL.run 5 [.pointer (some ⟨p, 0, none⟩)] rfl (by exact Z.ld 0 rfl rfl) ?_
 refine WL.call rfl rfl (Jb (S := A.s) (i := i) (hl := (by first | assumption | exact SOk.le (by assumption))) (hi := (by omega)) (Z := (Z.sel 2 [1, 0] rfl))) rfl ?_
 clear Z; rintro _ w ⟨rfl, Z⟩
 replace Z := Z.n4 L rfl
 refine WL.r 1 rfl <| WL.nil <| WC.ifF rfl (by rw [hir.2]; decide) ?_
 refine WC.skip ?_
 as_aux_lemma =>
 refine WC.seq <| WC.region <| WL.r 1 rfl <| WL.nil <| WC.seq <| WC.region <| WL.r 1 rfl <| WL.lit rfl rfl (Za [i]) el_32 Z (by exact ⟨rfl, rfl⟩) (Yn _) rfl (Nat.le_of_ble_eq_true rfl) (fun b1 w Z => ?_)
 refine WL.r 1 rfl <| WL.nil <| WC.seq <| WC.block <| WC.loop [0, 4, 5, 6, 7] (fun kM vs w => ∃ (W : List Int) (B : AM) (fr : Int) (u : Option Addr) (d : Nat), vs = [.pointer (some ⟨a, 0, none⟩), .int .i64 0, .int .i64 0, .int .i64 fr, .slice u (Za W).length d] ∧ St g (Zf 64 1 (Za W) u d :: Yp p B.s :: Ze a #[.pointer (some ⟨p, 0, none⟩), .slice na (Yr A.nodes).length nc, .slice ca (Zb A.cnt).length cc, .int .u64 rd] 161 :: Zf 172 8 (Yr B.nodes) na nc :: Zf 3 1 (Zb B.cnt) ca cc :: L) w ∧ (∀ x ∈ W, 1 ≤ x ∧ x < 4294967296) ∧ (ARf B (W ++ R)) ∧ (Shr A B) ∧ (fr = B.s.free - A.s.free) ∧ (W.length + B.live.length ≤ 65600) ∧ (2 * B.live.length + W.length) = kM) (2 * (List.length A.live) + (List.length [i])) ⟨[i], A, 0, some ⟨b1, 0, none⟩, 1, rfl, Z, (by simp; omega), (by exact hA), (Shr.refl A), (by omega), (by have := A.live_len; simp; omega), rfl⟩ ?_
 clear Z; rintro _ _ w j ⟨W, B, fr, u, d, rfl, Z, hW, hB, hSh, hf, hlen, rfl⟩
 refine WC.seq <| WC.seq <| WC.region <| WL.r 3 rfl <| WL.nil <| WC.ifP rfl (fun cd1 => ?_) (fun cd1 => ?_)
 ·refine WC.skip <| WC.block <| WC.seq <| WC.region ?_
  have hfB := hB.s.free_rng; have hfA := hA.s.free_rng; have hWl := Zk W; obtain ⟨k, hk⟩ : ∃ k, W[W.length - 1]? = some k := ⟨_, List.getElem?_eq_getElem (by omega)⟩; have hk1 := hW k (List.mem_of_getElem? hk); have hsp := Zfs hk; have hkR := (hB.ref k (List.mem_append_left _ (List.mem_of_getElem? hk))).resolve_left (by omega); have hkr := SM.ok_rng hB.s (by omega) hkR.2; have hle := hB.cnt_le hkR.2 (by omega); obtain ⟨c, hc⟩ : ∃ c, B.cnt[k.toNat]? = some c := ⟨_, List.getElem?_eq_getElem (by rw [hB.cl]; omega)⟩; obtain ⟨nd, hnd⟩ : ∃ nd, B.nodes[k.toNat]? = some nd := ⟨_, List.getElem?_eq_getElem (by rw [hB.nl]; omega)⟩; have hbc2 := Zh B.cnt; have hbn2 := YM B.nodes; have e1 := hB.cl; have e2 := hB.nl; have e3 := hSh.cap; have hce : B.cntOf k = c := by unfold AM.cntOf; rw [hc]; rfl
  have hpk : ARf B (k :: (W.take (W.length - 1) ++ R)) := hB.perm (by rw [hsp]; simp); have hTl : ∀ x ∈ W.take (W.length - 1), 1 ≤ x ∧ x < 4294967296 := (fun x hx => hW x (List.mem_of_mem_take hx)); have hTn : (W.take (W.length - 1)).length = W.length - 1 := by simp
  refine WL.r 4 rfl <| WL.nw 27 rfl (Zr (by omega)) ?_
  refine WL.ix rfl rfl (i := (List.length (Za W) : Int) - 1) (W.length - 1) el_32 rfl rfl (by omega) (by omega) (Z.rdO 0 rfl (Zl hk)).1 ?_
  refine WL.run 2 [.int .u32 k] rfl (by exact (Z.rdO 0 rfl (Zl hk)).2 0 _ rfl) ?_
  refine WL.nil ?_
  as_aux_lemma =>
  refine WC.seq <| WC.region <| WL.r 4 rfl <| WL.nw 33 rfl (Zr (by omega)) ?_
  refine WL.slOwn rfl rfl (v := (List.length (Za W) : Int) - 1) 0 (W.length - 1) (Za (W.take (W.length - 1))) el_32 Z rfl rfl rfl (by omega) (by omega) (XZ _ _) (fun Z => ?_)
  replace Z := Z.n5 L (a0 := Zf 64 1 (Za (W.take ((List.length W) - 1))) u d) rfl
  refine WL.r 1 rfl <| WL.nil <| WC.seq <| WC.region <| WL.run 5 [.slice ca (Zb A.cnt).length cc] rfl (by exact Z.ld 2 rfl rfl) ?_
  refine WL.ix rfl rfl (i := k) (k.toNat) el_56 rfl rfl (by omega) (by omega) (Z.rdO 4 rfl (Zd hc)).1 ?_
  refine WL.run 2 [.int .i64 c] rfl (by exact (Z.rdO 4 rfl (Zd hc)).2 0 _ rfl) ?_
  refine WL.nw 42 rfl (Zr (by omega)) ?_
  refine WL.ix rfl rfl (i := k) (k.toNat) el_56 rfl rfl (by omega) (by omega) (Z.rdO 4 rfl (Zd hc)).1 ?_
  refine WL.stE rfl rfl rfl 4 (k.toNat) 0 [.int .i64 c] (Zb (B.cnt.set k.toNat (c - 1))) Z rfl (Zd hc) rfl rfl rfl rfl rfl (Xf _ _ _) (fun w Z => ?_)
  replace Z := Z.n5 L (a4 := Zf 3 1 (Zb (B.cnt.set k.toNat (c - 1))) ca cc) rfl
  refine WL.nil <| WC.seq <| WC.seq <| WC.region ?_
  have hdk : B.dec k = AM.mk B.s B.nodes (B.cnt.set k.toNat (c - 1)) := (by unfold AM.dec; rw [hce, Zr (by omega)])
  refine WL.run 5 [.slice ca (Zb A.cnt).length cc] rfl (by exact Z.ld 2 rfl rfl) ?_
  have hc2 : (B.cnt.set k.toNat (c - 1))[k.toNat]? = some (c - 1) := by rw [List.getElem?_set, if_pos rfl, if_pos (by omega)]
  refine WL.ix rfl rfl (i := k) (k.toNat) el_56 rfl rfl (by omega) (by omega) (Z.rdO 4 rfl (Zd hc2)).1 ?_
  refine WL.run 2 [.int .i64 (c - 1)] rfl (by exact (Z.rdO 4 rfl (Zd hc2)).2 0 _ rfl) ?_
  refine WL.nil ?_
  as_aux_lemma =>
  refine WC.ifP rfl (fun cd2 => ?_) (fun cd2 => ?_)
  ·refine WC.exit ?_
   exact ⟨_, (by first | (simp only [List.length_append, List.length_singleton]; omega) | omega | (show 2 * B.live.length + _ < _; omega)), W.take (W.length - 1), AM.mk B.s B.nodes (B.cnt.set k.toNat (c - 1)), fr, u, d, rfl, Z, (hTl), (by rw [← hdk]; exact hpk.dec hkR.2 (by omega) (by omega)), (by rw [← hdk]; exact hSh.dec k), (hf), (by show (W.take (W.length - 1)).length + B.live.length ≤ 65600; omega), rfl⟩
  ·refine WC.skip <| WC.seq <| WC.region <| WL.run 5 [.slice na (Yr A.nodes).length nc] rfl (by exact Z.ld 2 rfl rfl) ?_
   refine WL.ix rfl rfl (i := k) (k.toNat) el_159 rfl rfl (by omega) (by omega) (Z.rdO 3 rfl (ZW hnd)).1 ?_
   refine WL.ldC rfl rfl [.int .i64 nd.key, .int .i64 nd.val, .int .u32 nd.lf, .int .u32 nd.rg, .int .i64 nd.size, .int .i64 nd.sum, .int .i64 nd.mn, .int .i64 nd.mx] ZY rfl (Z.rdO 3 rfl (ZW hnd)).2 <| WL.new rfl rfl YS Z (fun b2 w Z => ?_)
   refine WL.stF rfl rfl rfl 0 Z rfl rfl rfl rfl rfl ZY (fun w Z => ?_)
   replace Z := Z.n6 L (a0 := Ze b2 #[.int .i64 nd.key, .int .i64 nd.val, .int .u32 nd.lf, .int .u32 nd.rg, .int .i64 nd.size, .int .i64 nd.sum, .int .i64 nd.mn, .int .i64 nd.mx] 172) rfl
   refine WL.nil <| WC.seq <| WC.region <| WL.run 5 [.slice na (Yr A.nodes).length nc] rfl (by exact Z.ld 3 rfl rfl) ?_
   refine WL.build rfl rfl (cs := [.int .i64 0, .int .i64 0, .int .u32 0, .int .u32 0, .int .i64 0, .int .i64 0, .int .i64 0, .int .i64 0]) YS rfl rfl <| WL.ix rfl rfl (i := k) (k.toNat) el_159 rfl rfl (by omega) (by omega) (Z.rdO 4 rfl (ZW hnd)).1 ?_
   refine WL.stS rfl rfl rfl 4 (k.toNat) [.int .i64 nd.key, .int .i64 nd.val, .int .u32 nd.lf, .int .u32 nd.rg, .int .i64 nd.size, .int .i64 nd.sum, .int .i64 nd.mn, .int .i64 nd.mx] (Yr (B.nodes.set k.toNat Nd.zero)) Z rfl (ZW hnd) rfl rfl rfl rfl ZY (Zfy _ _ Nd.zero) (fun w Z => ?_)
   replace Z := Z.n6 L (a4 := Zf 172 8 (Yr (B.nodes.set k.toNat Nd.zero)) na nc) rfl
   refine WL.nil <| WC.seq <| WC.region <| WL.run 5 [.pointer (some ⟨p, 0, none⟩)] rfl (by exact Z.ld 3 rfl rfl) ?_
   refine WL.call rfl rfl (Jd (S := B.s) (i := k) (hO := hB.s) (hi := (by omega)) (hn := hkR.2) (Z := (Z.sel 3 [2, 0, 0] rfl))) rfl ?_
   clear Z; rintro _ w ⟨rfl, Z⟩
   replace Z := Z.n6 L (a0 := Yp p (B.s.release k)) rfl
   refine WL.nil ?_
   as_aux_lemma =>
   refine WC.seq <| WC.region <| WL.r 2 rfl <| WL.nw 73 rfl (Zr (by omega)) ?_
   refine WL.r 1 rfl <| WL.nil <| WC.seq <| WC.seq <| WC.region ?_
   have hfk : B.freed k = AM.mk (B.s.release k) (B.nodes.set k.toNat Nd.zero) (B.cnt.set k.toNat (c - 1)) := (by unfold AM.freed; rw [hce, Zr (by omega)]); have hne : B.nd k = nd := (by unfold AM.nd; rw [hnd]; rfl); have hB2 := hpk.free hkR.2 (by omega) (by omega) (by rw [List.length_append, hTn]; omega); have hS2 := hSh.free hB.toAWf hkR.2 (by omega); have hlv := (Zaa hkR.2 (by omega) (AM.freed_ok hB.s hkR.2 (by omega))).length_eq; rw [List.length_cons] at hlv; have hfe : (B.freed k).s.free = B.s.free + 1 := SM.release_free k; rw [hne] at hB2; rw [hfk] at hB2 hS2 hlv hfe; have hrr := hB2.rng (r := nd.rg) (by simp); have hll := hB2.rng (r := nd.lf) (by simp); have hpp := Znp hB2
   refine WL.run 3 [.int .u32 nd.rg] rfl (by exact Z.ld 1 rfl rfl) ?_
   refine WL.nil <| WC.ifP rfl (fun cd3 => ?_) (fun cd3 => ?_)
   ·refine WC.region <| WL.run 3 [.int .u32 nd.rg] rfl (by exact Z.ld 1 rfl rfl) ?_
    refine WL.lit rfl rfl (Za [nd.rg]) el_32 Z (by exact ⟨rfl, rfl⟩) (Yn _) rfl (Nat.le_of_ble_eq_true rfl) (fun b3 w Z => ?_)
    refine WL.app rfl rfl 3 (Za ((W.take ((List.length W) - 1)) ++ [nd.rg])) el_32 Z rfl (Z.srcO 0 rfl) (Yg _ _).symm (Rm.of (by first | omega | (simp <;> omega)) (by decide)) rfl rfl (fun a2 c1 w Z => ?_)
    replace Z := Z.n7 L (a0 := Zf 64 1 (Za [nd.rg]) (some ⟨b3, 0, none⟩) (Za [nd.rg]).length) (a3 := Zf 64 1 (Za ((W.take ((List.length W) - 1)) ++ [nd.rg])) a2 c1) rfl
    refine WL.r 1 rfl <| WL.nil <| WC.seq <| WC.region <| WL.run 3 [.int .u32 nd.lf] rfl (by exact Z.ld 2 rfl rfl) ?_
    refine WL.nil <| WC.ifP rfl (fun cd4 => ?_) (fun cd4 => ?_)
    ·refine WC.region <| WL.run 3 [.int .u32 nd.lf] rfl (by exact Z.ld 2 rfl rfl) ?_
     refine WL.lit rfl rfl (Za [nd.lf]) el_32 Z (by exact ⟨rfl, rfl⟩) (Yn _) rfl (Nat.le_of_ble_eq_true rfl) (fun b4 w Z => ?_)
     refine WL.app rfl rfl 4 (Za (((W.take ((List.length W) - 1)) ++ [nd.rg]) ++ [nd.lf])) el_32 Z rfl (Z.srcO 0 rfl) (Yg _ _).symm (Rm.of (by first | omega | (simp <;> omega)) (by decide)) rfl rfl (fun a3 c2 w Z => ?_)
     replace Z := Z.n8 L (a0 := Zf 64 1 (Za [nd.lf]) (some ⟨b4, 0, none⟩) (Za [nd.lf]).length) (a4 := Zf 64 1 (Za (((W.take ((List.length W) - 1)) ++ [nd.rg]) ++ [nd.lf])) a3 c2) rfl
     refine WL.r 1 rfl <| WL.nil ?_
     exact ⟨_, (by first | (simp only [List.length_append, List.length_singleton]; omega) | omega | (show 2 * B.live.length + _ < _; omega)), W.take (W.length - 1) ++ [nd.rg] ++ [nd.lf], AM.mk (B.s.release k) (B.nodes.set k.toNat Nd.zero) (B.cnt.set k.toNat (c - 1)), fr + 1, a3, c2, rfl, (Z.sel 5 [4, 2] rfl), (Qe (Qe hTl (by omega)) (by omega)), (by simpa [cd3, cd4] using hpp), (hS2), (by rw [hfe]; omega), (by simp only [List.length_append, List.length_singleton]; omega), rfl⟩
    ·refine WC.skip ?_
     exact ⟨_, (by first | (simp only [List.length_append, List.length_singleton]; omega) | omega | (show 2 * B.live.length + _ < _; omega)), W.take (W.length - 1) ++ [nd.rg], AM.mk (B.s.release k) (B.nodes.set k.toNat Nd.zero) (B.cnt.set k.toNat (c - 1)), fr + 1, a2, c1, rfl, (Z.sel 4 [3, 1] rfl), (Qe hTl (by omega)), (by simpa [cd3, cd4] using hpp), (hS2), (by rw [hfe]; omega), (by simp only [List.length_append, List.length_singleton]; omega), rfl⟩
   ·refine WC.skip <| WC.seq <| WC.region <| WL.run 3 [.int .u32 nd.lf] rfl (by exact Z.ld 1 rfl rfl) ?_
    refine WL.nil <| WC.ifP rfl (fun cd4 => ?_) (fun cd4 => ?_)
    ·refine WC.region <| WL.run 3 [.int .u32 nd.lf] rfl (by exact Z.ld 1 rfl rfl) ?_
     refine WL.lit rfl rfl (Za [nd.lf]) el_32 Z (by exact ⟨rfl, rfl⟩) (Yn _) rfl (Nat.le_of_ble_eq_true rfl) (fun b3 w Z => ?_)
     refine WL.app rfl rfl 3 (Za ((W.take ((List.length W) - 1)) ++ [nd.lf])) el_32 Z rfl (Z.srcO 0 rfl) (Yg _ _).symm (Rm.of (by first | omega | (simp <;> omega)) (by decide)) rfl rfl (fun a2 c1 w Z => ?_)
     replace Z := Z.n7 L (a0 := Zf 64 1 (Za [nd.lf]) (some ⟨b3, 0, none⟩) (Za [nd.lf]).length) (a3 := Zf 64 1 (Za ((W.take ((List.length W) - 1)) ++ [nd.lf])) a2 c1) rfl
     refine WL.r 1 rfl <| WL.nil ?_
     exact ⟨_, (by first | (simp only [List.length_append, List.length_singleton]; omega) | omega | (show 2 * B.live.length + _ < _; omega)), W.take (W.length - 1) ++ [nd.lf], AM.mk (B.s.release k) (B.nodes.set k.toNat Nd.zero) (B.cnt.set k.toNat (c - 1)), fr + 1, a2, c1, rfl, (Z.sel 4 [3, 1] rfl), (Qe hTl (by omega)), (by simpa [cd3, cd4] using hpp), (hS2), (by rw [hfe]; omega), (by simp only [List.length_append, List.length_singleton]; omega), rfl⟩
    ·refine WC.skip ?_
     exact ⟨_, (by first | (simp only [List.length_append, List.length_singleton]; omega) | omega | (show 2 * B.live.length + _ < _; omega)), W.take (W.length - 1), AM.mk (B.s.release k) (B.nodes.set k.toNat Nd.zero) (B.cnt.set k.toNat (c - 1)), fr + 1, u, d, rfl, (Z.sel 3 [2, 0] rfl), (hTl), (by simpa [cd3, cd4] using hpp), (hS2), (by rw [hfe]; omega), (by omega), rfl⟩
 ·refine WC.exit <| WC.seq <| WC.region <| WL.r 3 rfl <| WL.nil ?_
  as_aux_lemma =>
  refine WC.ret ?_
  have hWn : W = [] := List.length_eq_zero_iff.1 (by rw [Zk] at cd1; omega)
  subst hWn
  have eN : (Yr B.nodes).length = (Yr A.nodes).length := by rw [YM, YM, hB.nl, hnl, hSh.cap]
  have eC : (Zb B.cnt).length = (Zb A.cnt).length := by rw [Zh, Zh, hB.cl, hcl, hSh.cap]
  replace Z := St.exClose (f := Yz a B) ⟨p, na, nc, ca, cc, rd⟩ (by unfold Yz; rw [eN, eC]; exact Z.sel 5 [2, 1, 1, 1] rfl)
  replace Z : St g (Zs a B :: L) w := Z
  refine ⟨[.int .i64 fr, .int .i64 0], ⟨rfl, rfl⟩, ?_⟩
  exact ⟨B, _, rfl, Z, hB, hSh, hf⟩
end Go.Proofs.YtbeacjcmdijdmaaGreat
namespace Go.Proofs.YtbeacjcmdijdmaaGreat
open Go Go.V
set_option maxHeartbeats 2000000 in
theorem Znb {g w : World} {L : List HP} (a : Nat) (A : AM) (key val l r : Int) (hA : AWf A) (hK : Kd A l r) (hf : 0 < A.s.free) (Z : St g (Zs a A :: L) w) :
  Sp Tryz.prog 162 [.pointer (some ⟨a, 0, none⟩), .int .i64 key, .int .i64 val, .int .u32 l, .int .u32 r] w (fun v w' => v = .tuple #[.int .u32 A.s.next, .int .i64 0] ∧ St g (Zs a (A.make (A.nodeOf key val l r)) :: L) w') := by
 refine Sp.enter Tryz.func162 rfl (by kernel_rfl) (by kernel_rfl) ?_
 refine WC.seq <| WC.region <| WL.r 2 rfl <| WL.nil <| WC.seq <| WC.region ?_
 obtain ⟨⟨p, na, nc, ca, cc, rd⟩, Z⟩ := St.exOpen (f := Yz a A) Z; have hAs := hA.s; have hcp := hAs.cap; have hnl := hA.nl; have hcl := hA.cl; have hbn := YM A.nodes; have hbc := Zh A.cnt
 replace Z : St g (Ze a #[.pointer (some ⟨p, 0, none⟩), .slice na (Yr A.nodes).length nc, .slice ca (Zb A.cnt).length cc, .int .u64 rd] 161 :: Yp p A.s :: Zf 172 8 (Yr A.nodes) na nc :: Zf 3 1 (Zb A.cnt) ca cc :: L) w := Z
 refine WL.r 7 rfl <| WL.build rfl rfl (cs := [.int .i64 key, .int .i64 val, .int .u32 l, .int .u32 r, .int .i64 1, .int .i64 val, .int .i64 val, .int .i64 val]) YS rfl rfl <| WL.new rfl rfl YS Z (fun b1 w Z => ?_)
 refine WL.stF rfl rfl rfl 0 Z rfl rfl rfl rfl rfl ZY (fun w Z => ?_)
 replace Z := Z.n5 L (a0 := Ze b1 #[.int .i64 key, .int .i64 val, .int .u32 l, .int .u32 r, .int .i64 1, .int .i64 val, .int .i64 val, .int .i64 val] 172) rfl
 refine WL.nil <| WC.seq <| WC.seq <| WC.region <| WL.r 2 rfl <| WL.buildA rfl rfl (cs := [.int .u32 l, .int .u32 r]) Zfr JX rfl <| WL.r 1 rfl <| WL.nil <| WC.block <| WC.loop [0, 3, 4, 12, 28, 29] (fun kM vs w => ∃ (k : Nat) (n1 : Nd), vs = [.pointer (some ⟨a, 0, none⟩), .int .u32 l, .int .u32 r, .pointer (some ⟨b1, 0, none⟩), .agg #[.int .u32 l, .int .u32 r], .int .i64 k] ∧ St g (Ze b1 #[.int .i64 n1.key, .int .i64 n1.val, .int .u32 n1.lf, .int .u32 n1.rg, .int .i64 n1.size, .int .i64 n1.sum, .int .i64 n1.mn, .int .i64 n1.mx] 172 :: Ze a #[.pointer (some ⟨p, 0, none⟩), .slice na (Yr A.nodes).length nc, .slice ca (Zb A.cnt).length cc, .int .u64 rd] 161 :: Yp p A.s :: Zf 172 8 (Yr A.nodes) na nc :: Zf 3 1 (Zb A.cnt) ca cc :: L) w ∧ (k ≤ 2) ∧ (n1 = XP A l r (Jl key val l r) k) ∧ (2 - k) = kM) (2 - 0) ⟨0, Jl key val l r, rfl, Z, (by omega), (rfl), rfl⟩ ?_
 clear Z; rintro _ _ w j ⟨k, n1, rfl, Z, hk, hn, rfl⟩
 refine WC.seq <| WC.region <| WL.r 1 rfl <| WL.nil ?_
 as_aux_lemma =>
 refine WC.seq <| WC.ifP rfl (fun cd1 => ?_) (fun cd1 => ?_)
 ·refine WC.skip <| WC.seq <| WC.block <| WC.seq <| WC.region ?_
  have hk1 : k < 2 := (by omega); have hkk := hK.at_ k; have hcz := Zlw hA hK (key := key) (val := val) (k := k) (by omega); rw [← hn] at hcz; have hce : A.s.cap = (A.s.used.length : Int) - 1 := rfl
  refine WL.ixA rfl rfl (v := k) (k) Zfr rfl rfl (by omega) (by omega) (lr_at (l := l) (r := r) (k := k) hk1) ?_
  refine WL.r 1 rfl <| WL.nil <| WC.seq <| WC.seq <| WC.region <| WL.r 2 rfl <| WL.nil <| WC.ifP rfl (fun cd2 => ?_) (fun cd2 => ?_)
  ·refine WC.exit <| WC.region <| WL.r 1 rfl <| WL.nw 79 rfl (Zr (by omega)) ?_
   refine WL.r 1 rfl <| WL.nil ?_
   exact ⟨_, by omega, k + 1, n1, rfl, Z, (by omega), (by rw [XP, if_pos cd2]; exact hn), rfl⟩
  ·refine WC.skip <| WC.seq <| WC.seq <| WC.region <| WL.run 5 [.pointer (some ⟨p, 0, none⟩)] rfl (by exact Z.ld 1 rfl rfl) ?_
   refine WL.call rfl rfl (Jb (S := A.s) (i := XF l r k) (hl := (by first | assumption | exact SOk.le (by assumption))) (hi := (by have := SM.ok_rng hAs (i := XF l r k) (by omega) (hkk.1.resolve_left cd2).2; omega)) (Z := (Z.sel 3 [2, 0, 0] rfl))) rfl ?_
   clear Z; rintro _ w ⟨rfl, Z⟩
   replace Z := Z.n5 L rfl
   refine WL.r 1 rfl <| WL.nil ?_
   as_aux_lemma =>
   refine WC.ifF rfl (by rw [(hkk.1.resolve_left cd2).2]; rfl) ?_
   refine WC.skip <| WC.seq <| WC.region ?_
   have hcr := SM.ok_rng hAs (i := XF l r k) (by omega) (hkk.1.resolve_left cd2).2; obtain ⟨x, hx⟩ : ∃ x, A.nodes[(XF l r k).toNat]? = some x := ⟨_, List.getElem?_eq_getElem (by omega)⟩; have hxe : A.nd (XF l r k) = x := (by unfold AM.nd; rw [hx]; rfl); have hxz : A.sz (XF l r k) = x.size := (by rw [Zc1 (hkk.1.resolve_left cd2).2, hxe])
   refine WL.run 5 [.slice na (Yr A.nodes).length nc] rfl (by exact Z.ld 2 rfl rfl) ?_
   refine WL.ix rfl rfl (i := XF l r k) ((XF l r k).toNat) el_159 rfl rfl (by omega) (by omega) (Z.rdO 3 rfl (ZW hx)).1 ?_
   refine WL.r 1 rfl <| WL.nil <| WC.seq <| WC.plan [([0, 2, 1, 3, 4, 5, 6, 7], some (8, []))] (by kernel_rfl) (by kernel_rfl) ?_
   refine WQ.run 7 [.int .i64 n1.size, .int .i64 x.size] rfl (by exact ⟨Z.ld 1 rfl rfl, (Z.rdO 3 rfl (ZW hx)).2 4 _ rfl⟩) ?_
   refine WQ.nw 53 rfl (Zr (by omega)) ?_
   refine WQ.r 1 rfl <| WQ.nil ?_
   intro m1
   replace Z := Z.drewN m1; generalize hwm1 : World.drewN _ _ = w at *; clear hwm1
   refine WL.st rfl rfl rfl 1 Z rfl rfl rfl rfl rfl rfl (fun w Z => ?_)
   replace Z := Z.n5 L (a1 := Ze b1 #[.int .i64 n1.key, .int .i64 n1.val, .int .u32 n1.lf, .int .u32 n1.rg, .int .i64 (n1.size + x.size), .int .i64 n1.sum, .int .i64 n1.mn, .int .i64 n1.mx] 172) rfl
   refine WL.nil ?_
   refine ⟨by exact trivial, ?_⟩
   intro m2
   replace Z := Z.drewN m2; generalize hwm2 : World.drewN _ _ = w at *; clear hwm2
   refine WC.seq <| WC.plan [([0, 2, 1, 3, 4, 5, 6, 7], some (8, []))] (by kernel_rfl) (by kernel_rfl) ?_
   refine WQ.run 7 [.int .i64 n1.sum, .int .i64 x.sum] rfl (by exact ⟨Z.ld 1 rfl rfl, (Z.rdO 3 rfl (ZW hx)).2 5 _ rfl⟩) ?_
   refine WQ.r 1 rfl <| WQ.nil ?_
   intro m3
   replace Z := Z.drewN m3; generalize hwm3 : World.drewN _ _ = w at *; clear hwm3
   refine WL.st rfl rfl rfl 1 Z rfl rfl rfl rfl rfl rfl (fun w Z => ?_)
   replace Z := Z.n5 L (a1 := Ze b1 #[.int .i64 n1.key, .int .i64 n1.val, .int .u32 n1.lf, .int .u32 n1.rg, .int .i64 (n1.size + x.size), .int .i64 (IntKind.i64.wrap (n1.sum + x.sum)), .int .i64 n1.mn, .int .i64 n1.mx] 172) rfl
   refine WL.nil ?_
   refine ⟨by exact trivial, ?_⟩
   intro m4
   replace Z := Z.drewN m4; generalize hwm4 : World.drewN _ _ = w at *; clear hwm4
   as_aux_lemma =>
   refine WC.seq <| WC.plan [([0, 2, 1, 3, 4, 5, 6, 7], some (8, []))] (by kernel_rfl) (by kernel_rfl) ?_
   refine WQ.run 8 [.int .i64 n1.mn, .int .i64 x.mn] rfl (by exact ⟨Z.ld 1 rfl rfl, (Z.rdO 3 rfl (ZW hx)).2 6 _ rfl⟩) ?_
   refine WQ.nil ?_
   intro m5
   replace Z := Z.drewN m5; generalize hwm5 : World.drewN _ _ = w at *; clear hwm5
   refine WL.st rfl rfl rfl 1 Z rfl rfl rfl rfl rfl rfl (fun w Z => ?_)
   replace Z := Z.n5 L (a1 := Ze b1 #[.int .i64 n1.key, .int .i64 n1.val, .int .u32 n1.lf, .int .u32 n1.rg, .int .i64 (n1.size + x.size), .int .i64 (IntKind.i64.wrap (n1.sum + x.sum)), .int .i64 (min n1.mn x.mn), .int .i64 n1.mx] 172) rfl
   refine WL.nil ?_
   refine ⟨by exact trivial, ?_⟩
   intro m6
   replace Z := Z.drewN m6; generalize hwm6 : World.drewN _ _ = w at *; clear hwm6
   refine WC.plan [([0, 2, 1, 3, 4, 5, 6, 7], some (8, []))] (by kernel_rfl) (by kernel_rfl) ?_
   refine WQ.run 8 [.int .i64 n1.mx, .int .i64 x.mx] rfl (by exact ⟨Z.ld 1 rfl rfl, (Z.rdO 3 rfl (ZW hx)).2 7 _ rfl⟩) ?_
   refine WQ.nil ?_
   intro m7
   replace Z := Z.drewN m7; generalize hwm7 : World.drewN _ _ = w at *; clear hwm7
   refine WL.st rfl rfl rfl 1 Z rfl rfl rfl rfl rfl rfl (fun w Z => ?_)
   replace Z := Z.n5 L (a1 := Ze b1 #[.int .i64 n1.key, .int .i64 n1.val, .int .u32 n1.lf, .int .u32 n1.rg, .int .i64 (n1.size + x.size), .int .i64 (IntKind.i64.wrap (n1.sum + x.sum)), .int .i64 (min n1.mn x.mn), .int .i64 (max n1.mx x.mx)] 172) rfl
   refine WL.nil ?_
   refine ⟨by exact trivial, ?_⟩
   intro m8
   replace Z := Z.drewN m8; generalize hwm8 : World.drewN _ _ = w at *; clear hwm8
   refine WC.region <| WL.r 1 rfl <| WL.nw 79 rfl (Zr (by omega)) ?_
   refine WL.r 1 rfl <| WL.nil ?_
   exact ⟨_, by omega, k + 1, Zob n1 x, rfl, (Z.sel 3 [1, 1, 0] rfl), (by omega), (by rw [XP, if_neg cd2, hxe, ← hn]), rfl⟩
 ·refine WC.exit <| WC.seq <| WC.seq <| WC.region ?_
  have hk2 : k = 2 := by omega
  have hnd : n1 = A.nodeOf key val l r := by rw [hn, hk2]; rfl
  have hnz := Zat hA (key := key) (val := val) hK; have hzz := hK.z; rw [← hnd] at hnz
  refine WL.run 3 [.int .i64 n1.size] rfl (by exact Z.ld 0 rfl rfl) ?_
  refine WL.nil <| WC.ifF rfl (decide_eq_false ((by omega))) ?_
  refine WC.skip <| WC.seq <| WC.region <| WL.run 4 [.pointer (some ⟨p, 0, none⟩)] rfl (by exact Z.ld 1 rfl rfl) ?_
  refine WL.call rfl rfl (J8 (S := A.s) (hO := (by assumption)) (hf := hf) (Z := (Z.sel 3 [2, 0, 0] rfl))) rfl ?_
  clear Z; rintro _ w ⟨rfl, Z⟩
  replace Z := Z.n5 L (a0 := Yp p A.s.alloc) rfl
  refine WL.r 5 rfl <| WL.nil <| WC.seq <| WC.seq <| WC.region <| WL.r 2 rfl <| WL.nil ?_
  as_aux_lemma =>
  refine WC.ifF rfl (decide_eq_false ((by decide))) ?_
  refine WC.skip <| WC.seq <| WC.plan [([0, 4, 1, 2, 3], some (5, [0, 1, 2, 3, 4])), ([], some (6, [])), ([], some (7, []))] (by kernel_rfl) (by kernel_rfl) ?_
  have hnx := A.s.next_rng hAs hf; obtain ⟨y, hy⟩ : ∃ y, A.nodes[A.s.next.toNat]? = some y := ⟨_, List.getElem?_eq_getElem (by omega)⟩
  refine WQ.run 5 [.slice na (Yr A.nodes).length nc] rfl (by exact Z.ld 2 rfl rfl) ?_
  refine WQ.nil ?_
  intro m1
  replace Z := Z.drewN m1; generalize hwm1 : World.drewN _ _ = w at *; clear hwm1
  refine WL.ldF rfl rfl 1 Z rfl rfl ZY <| WL.nil ?_
  refine ⟨by exact ⟨RQ.pure rfl rfl rfl rfl, RQ.pure rfl rfl rfl rfl, RQ.pure rfl rfl rfl rfl, RQ.load rfl rfl rfl rfl (Z.ld 2 rfl rfl), RQ.pure rfl rfl rfl rfl⟩, ?_⟩
  refine WQ.nil ?_
  intro m2
  replace Z := Z.drewN m2; generalize hwm2 : World.drewN _ _ = w at *; clear hwm2
  refine WL.ix rfl rfl (i := A.s.next) (A.s.next.toNat) el_159 rfl rfl (by omega) (by omega) (Z.rdO 3 rfl (ZW hy)).1 ?_
  refine WL.nil ?_
  refine ⟨by exact trivial, ?_⟩
  refine WQ.nil ?_
  intro m3
  replace Z := Z.drewN m3; generalize hwm3 : World.drewN _ _ = w at *; clear hwm3
  refine WL.stS rfl rfl rfl 3 (A.s.next.toNat) [.int .i64 y.key, .int .i64 y.val, .int .u32 y.lf, .int .u32 y.rg, .int .i64 y.size, .int .i64 y.sum, .int .i64 y.mn, .int .i64 y.mx] (Yr (A.nodes.set A.s.next.toNat n1)) Z rfl (ZW hy) rfl rfl rfl rfl ZY (Zfy _ _ n1) (fun w Z => ?_)
  replace Z := Z.n5 L (a3 := Zf 172 8 (Yr (A.nodes.set A.s.next.toNat n1)) na nc) rfl
  refine WL.nil ?_
  refine ⟨by exact trivial, ?_⟩
  intro m4
  replace Z := Z.drewN m4; generalize hwm4 : World.drewN _ _ = w at *; clear hwm4
  as_aux_lemma =>
  refine WC.seq <| WC.region <| WL.run 5 [.slice ca (Zb A.cnt).length cc] rfl (by exact Z.ld 2 rfl rfl) ?_
  obtain ⟨z, hz⟩ : ∃ z, A.cnt[A.s.next.toNat]? = some z := ⟨_, List.getElem?_eq_getElem (by omega)⟩
  refine WL.ix rfl rfl (i := A.s.next) (A.s.next.toNat) el_56 rfl rfl (by omega) (by omega) (Z.rdO 4 rfl (Zd hz)).1 ?_
  refine WL.stE rfl rfl rfl 4 (A.s.next.toNat) 0 [.int .i64 z] (Zb (A.cnt.set A.s.next.toNat 1)) Z rfl (Zd hz) rfl rfl rfl rfl rfl (Xf _ _ _) (fun w Z => ?_)
  replace Z := Z.n5 L (a4 := Zf 3 1 (Zb (A.cnt.set A.s.next.toNat 1)) ca cc) rfl
  refine WL.nil <| WC.seq <| WC.region <| WL.run 5 [.slice ca (Zb A.cnt).length cc] rfl (by exact Z.ld 2 rfl rfl) ?_
  have hlr2 := hK.at_ 0; have hrr2 := hK.at_ 1; have hlR := Zfe hA hK.cl; have hrR := Zfe hA hK.cr; obtain ⟨z2, hz2⟩ : ∃ z, (A.cnt.set A.s.next.toNat 1)[l.toNat]? = some z := ⟨_, List.getElem?_eq_getElem (by rw [List.length_set]; omega)⟩
  refine WL.ix rfl rfl (i := l) (l.toNat) el_56 rfl rfl (by omega) (by omega) (Z.rdO 4 rfl (Zd hz2)).1 ?_
  refine WL.run 2 [.int .i64 z2] rfl (by exact (Z.rdO 4 rfl (Zd hz2)).2 0 _ rfl) ?_
  refine WL.ix rfl rfl (i := l) (l.toNat) el_56 rfl rfl (by omega) (by omega) (Z.rdO 4 rfl (Zd hz2)).1 ?_
  refine WL.stE rfl rfl rfl 4 (l.toNat) 0 [.int .i64 z2] (Zb ((A.cnt.set A.s.next.toNat 1).set l.toNat (IntKind.i64.wrap (z2 + 1)))) Z rfl (Zd hz2) rfl rfl rfl rfl rfl (Xf _ _ _) (fun w Z => ?_)
  replace Z := Z.n5 L (a4 := Zf 3 1 (Zb ((A.cnt.set A.s.next.toNat 1).set l.toNat (IntKind.i64.wrap (z2 + 1)))) ca cc) rfl
  refine WL.nil <| WC.seq <| WC.region <| WL.run 5 [.slice ca (Zb A.cnt).length cc] rfl (by exact Z.ld 2 rfl rfl) ?_
  obtain ⟨z3, hz3⟩ : ∃ z, ((A.cnt.set A.s.next.toNat 1).set l.toNat (IntKind.i64.wrap (z2 + 1)))[r.toNat]? = some z := ⟨_, List.getElem?_eq_getElem (by rw [List.length_set, List.length_set]; omega)⟩
  refine WL.ix rfl rfl (i := r) (r.toNat) el_56 rfl rfl (by omega) (by omega) (Z.rdO 4 rfl (Zd hz3)).1 ?_
  refine WL.run 2 [.int .i64 z3] rfl (by exact (Z.rdO 4 rfl (Zd hz3)).2 0 _ rfl) ?_
  refine WL.ix rfl rfl (i := r) (r.toNat) el_56 rfl rfl (by omega) (by omega) (Z.rdO 4 rfl (Zd hz3)).1 ?_
  refine WL.stE rfl rfl rfl 4 (r.toNat) 0 [.int .i64 z3] (Zb (((A.cnt.set A.s.next.toNat 1).set l.toNat (IntKind.i64.wrap (z2 + 1))).set r.toNat (IntKind.i64.wrap (z3 + 1)))) Z rfl (Zd hz3) rfl rfl rfl rfl rfl (Xf _ _ _) (fun w Z => ?_)
  replace Z := Z.n5 L (a4 := Zf 3 1 (Zb (((A.cnt.set A.s.next.toNat 1).set l.toNat (IntKind.i64.wrap (z2 + 1))).set r.toNat (IntKind.i64.wrap (z3 + 1)))) ca cc) rfl
  refine WL.nil ?_
  as_aux_lemma =>
  refine WC.seq <| WC.region <| WL.r 3 rfl <| WL.nil <| WC.ret ?_
  have eM : A.make n1 = AM.mk A.s.alloc (A.nodes.set A.s.next.toNat n1) (((A.cnt.set A.s.next.toNat 1).set l.toNat (IntKind.i64.wrap (z2 + 1))).set r.toNat (IntKind.i64.wrap (z3 + 1))) := Znl hz2 hz3 (by rw [hnd]; exact (Jv ..).1) (by rw [hnd]; exact (Jv ..).2.1)
  rw [hnd] at eM Z
  have eN : (Yr (A.nodes.set A.s.next.toNat (A.nodeOf key val l r))).length = (Yr A.nodes).length := by simp
  have eC : (Zb (((A.cnt.set A.s.next.toNat 1).set l.toNat (IntKind.i64.wrap (z2 + 1))).set r.toNat (IntKind.i64.wrap (z3 + 1)))).length = (Zb A.cnt).length := by simp
  replace Z := St.exClose (f := Yz a (A.make (A.nodeOf key val l r))) ⟨p, na, nc, ca, cc, rd⟩ (by rw [eM]; unfold Yz; simp only [eN, eC]; exact Z.sel 5 [2, 0, 1, 1] rfl)
  replace Z : St g (Zs a (A.make (A.nodeOf key val l r)) :: L) w := Z
  refine ⟨[.int .u32 A.s.next, .int .i64 0], ⟨rfl, rfl⟩, ?_⟩
  exact ⟨rfl, Z⟩
theorem Zmf {g w : World} {L : List HP} (a : Nat) (A : AM) (i : Int) (hA : AWf A) (hi : 0 ≤ i ∧ i < 4294967296) (Z : St g (Zs a A :: L) w) :
  Sp Tryz.prog 103 [.pointer (some ⟨a, 0, none⟩), .int .u32 i] w (fun v w' => v = .int .i64 (A.sz i) ∧ St g (Zs a A :: L) w') := by
 refine Sp.enter Tryz.func103 rfl (by kernel_rfl) (by kernel_rfl) ?_
 refine WC.seq <| WC.region <| WL.r 1 rfl <| WL.nil <| WC.seq <| WC.seq <| WC.region ?_
 obtain ⟨⟨p, na, nc, ca, cc, rd⟩, Z⟩ := St.exOpen (f := Yz a A) Z; have hAs := hA.s; have hcp := hAs.cap; have hnl := hA.nl; have hcl := hA.cl; have hbn := YM A.nodes; have hbc := Zh A.cnt
 replace Z : St g (Ze a #[.pointer (some ⟨p, 0, none⟩), .slice na (Yr A.nodes).length nc, .slice ca (Zb A.cnt).length cc, .int .u64 rd] 161 :: Yp p A.s :: Zf 172 8 (Yr A.nodes) na nc :: Zf 3 1 (Zb A.cnt) ca cc :: L) w := Z
 refine WL.run 5 [.pointer (some ⟨p, 0, none⟩)] rfl (by exact Z.ld 0 rfl rfl) ?_
 refine WL.call rfl rfl (Jb (S := A.s) (i := i) (hl := (by first | assumption | exact SOk.le (by assumption))) (hi := hi) (Z := (Z.sel 2 [1, 0] rfl))) rfl ?_
 clear Z; rintro _ w ⟨rfl, Z⟩
 replace Z := Z.n4 L rfl
 refine WL.r 1 rfl <| WL.nil <| WC.if_ rfl (fun cd1 => ?_) (fun cd1 => ?_)
 ·refine WC.seq <| WC.region <| WL.r 1 rfl <| WL.nil <| WC.ret ?_
  replace Z := St.exClose (f := Yz a A) ⟨p, na, nc, ca, cc, rd⟩ (by first | exact Z | exact Z.sel 4 [1, 0, 0, 0] rfl)
  replace Z : St g (Zs a A :: L) w := Z
  refine ⟨[.int .i64 0], rfl, ?_⟩
  exact ⟨congrArg (Value.int .i64) (by unfold AM.sz; rw [if_neg (by simpa using cd1)]), Z⟩
 ·refine WC.skip <| WC.seq <| WC.region <| WL.run 5 [.int .u64 rd] rfl (by exact Z.ld 1 rfl rfl) ?_
  refine WL.r 2 rfl <| WL.st rfl rfl rfl 1 Z rfl rfl rfl rfl rfl rfl (fun w Z => ?_)
  replace Z := Z.n4 L (a1 := Ze a #[.pointer (some ⟨p, 0, none⟩), .slice na (Yr A.nodes).length nc, .slice ca (Zb A.cnt).length cc, .int .u64 (IntKind.u64.wrap (rd + 1))] 161) rfl
  refine WL.nil ?_
  as_aux_lemma =>
  refine WC.seq <| WC.region <| WL.run 5 [.slice na (Yr A.nodes).length nc] rfl (by exact Z.ld 1 rfl rfl) ?_
  have hio : A.s.ok i = true := (by simpa using cd1); have hir := SM.ok_rng hAs hi.1 hio; obtain ⟨x, hx⟩ : ∃ x, A.nodes[i.toNat]? = some x := ⟨_, List.getElem?_eq_getElem (by omega)⟩; have hxe : A.nd i = x := (by unfold AM.nd; rw [hx]; rfl)
  refine WL.ix rfl rfl (i := i) (i.toNat) el_159 rfl rfl (by omega) (by omega) (Z.rdO 2 rfl (ZW hx)).1 ?_
  refine WL.run 3 [.int .i64 x.size] rfl (by exact (Z.rdO 2 rfl (ZW hx)).2 4 _ rfl) ?_
  refine WL.nil <| WC.ret ?_
  replace Z := St.exClose (f := Yz a A) ⟨p, na, nc, ca, cc, IntKind.u64.wrap (rd + 1)⟩ (by first | exact Z | exact Z.sel 4 [1, 0, 0, 0] rfl)
  replace Z : St g (Zs a A :: L) w := Z
  refine ⟨[.int .i64 x.size], rfl, ?_⟩
  exact ⟨congrArg (Value.int .i64) (by rw [Zc1 hio, hxe]), Z⟩
theorem Zgp {g w : World} {L : List HP} (a : Nat) (A : AM) (i : Int) (hA : AWf A) (hi : 0 ≤ i ∧ i < 4294967296) (hio : A.s.ok i = true) (Z : St g (Zs a A :: L) w) :
  Sp Tryz.prog 165 [.pointer (some ⟨a, 0, none⟩), .int .u32 i] w (fun v w' => v = .tuple #[.agg #[.int .i64 (A.nd i).key, .int .i64 (A.nd i).val, .int .u32 (A.nd i).lf, .int .u32 (A.nd i).rg, .int .i64 (A.nd i).size, .int .i64 (A.nd i).sum, .int .i64 (A.nd i).mn, .int .i64 (A.nd i).mx], .bool true] ∧ St g (Zs a A :: L) w') := by
 refine Sp.enter Tryz.func165 rfl (by kernel_rfl) (by kernel_rfl) ?_
 refine WC.seq <| WC.region ?_
 obtain ⟨⟨p, na, nc, ca, cc, rd⟩, Z⟩ := St.exOpen (f := Yz a A) Z; have hAs := hA.s; have hcp := hAs.cap; have hnl := hA.nl; have hcl := hA.cl; have hbn := YM A.nodes; have hbc := Zh A.cnt
 replace Z : St g (Ze a #[.pointer (some ⟨p, 0, none⟩), .slice na (Yr A.nodes).length nc, .slice ca (Zb A.cnt).length cc, .int .u64 rd] 161 :: Yp p A.s :: Zf 172 8 (Yr A.nodes) na nc :: Zf 3 1 (Zb A.cnt) ca cc :: L) w := Z
 refine WL.new rfl rfl YS Z (fun b1 w Z => ?_)
 refine WL.r 1 rfl <| WL.nil <| WC.seq <| WC.seq <| WC.region <| WL.run 5 [.pointer (some ⟨p, 0, none⟩)] rfl (by exact Z.ld 1 rfl rfl) ?_
 refine WL.call rfl rfl (Jb (S := A.s) (i := i) (hl := (by first | assumption | exact SOk.le (by assumption))) (hi := hi) (Z := (Z.sel 3 [2, 0, 0] rfl))) rfl ?_
 clear Z; rintro _ w ⟨rfl, Z⟩
 replace Z := Z.n5 L (a1 := Ze b1 #[.int .i64 0, .int .i64 0, .int .u32 0, .int .u32 0, .int .i64 0, .int .i64 0, .int .i64 0, .int .i64 0] 172) rfl
 refine WL.r 1 rfl <| WL.nil <| WC.ifF rfl (by rw [hio]; rfl) ?_
 refine WC.skip <| WC.seq <| WC.region <| WL.run 5 [.int .u64 rd] rfl (by exact Z.ld 2 rfl rfl) ?_
 refine WL.r 2 rfl <| WL.st rfl rfl rfl 2 Z rfl rfl rfl rfl rfl rfl (fun w Z => ?_)
 replace Z := Z.n5 L (a2 := Ze a #[.pointer (some ⟨p, 0, none⟩), .slice na (Yr A.nodes).length nc, .slice ca (Zb A.cnt).length cc, .int .u64 (IntKind.u64.wrap (rd + 1))] 161) rfl
 refine WL.nil ?_
 as_aux_lemma =>
 refine WC.seq <| WC.region <| WL.run 5 [.slice na (Yr A.nodes).length nc] rfl (by exact Z.ld 2 rfl rfl) ?_
 have hir := SM.ok_rng hAs hi.1 hio; obtain ⟨x, hx⟩ : ∃ x, A.nodes[i.toNat]? = some x := ⟨_, List.getElem?_eq_getElem (by omega)⟩; have hxe : A.nd i = x := (by unfold AM.nd; rw [hx]; rfl)
 refine WL.ix rfl rfl (i := i) (i.toNat) el_159 rfl rfl (by omega) (by omega) (Z.rdO 3 rfl (ZW hx)).1 ?_
 refine WL.ldC rfl rfl [.int .i64 x.key, .int .i64 x.val, .int .u32 x.lf, .int .u32 x.rg, .int .i64 x.size, .int .i64 x.sum, .int .i64 x.mn, .int .i64 x.mx] ZY rfl (Z.rdO 3 rfl (ZW hx)).2 <| WL.stF rfl rfl rfl 1 Z rfl rfl rfl rfl rfl ZY (fun w Z => ?_)
 replace Z := Z.n5 L (a1 := Ze b1 #[.int .i64 x.key, .int .i64 x.val, .int .u32 x.lf, .int .u32 x.rg, .int .i64 x.size, .int .i64 x.sum, .int .i64 x.mn, .int .i64 x.mx] 172) rfl
 refine WL.r 1 rfl <| WL.nil <| WC.ret ?_
 replace Z := St.exClose (f := Yz a A) (L := Ze b1 #[.int .i64 x.key, .int .i64 x.val, .int .u32 x.lf, .int .u32 x.rg, .int .i64 x.size, .int .i64 x.sum, .int .i64 x.mn, .int .i64 x.mx] 172 :: L) ⟨p, na, nc, ca, cc, IntKind.u64.wrap (rd + 1)⟩ (Z.sel 5 [2, 0, 1, 1, 0] rfl)
 replace Z := Z.n2 L (a0 := Zs a A) rfl
 refine ⟨[.agg #[.int .i64 x.key, .int .i64 x.val, .int .u32 x.lf, .int .u32 x.rg, .int .i64 x.size, .int .i64 x.sum, .int .i64 x.mn, .int .i64 x.mx], .bool true], ⟨⟨_, rfl, Z.lvF 1 rfl ZY⟩, rfl⟩, ?_⟩
 replace Z := (Z.sel 2 [0] rfl)
 exact ⟨by rw [hxe]; rfl, Z⟩
theorem Zkm {g w : World} {L : List HP} (a : Nat) (A : AM) (R : List Int) (i : Int) (hA : ARf A (i :: R)) (hR : R.length ≤ 900000000) (Z : St g (Zs a A :: L) w) :
  Sp Tryz.prog 34 [.pointer (some ⟨a, 0, none⟩), .int .u32 i] w (fun v w' => ∃ (A2 : AM) (f : Int), v = .tuple #[.int .i64 f, .int .i64 0] ∧ St g (Zs a A2 :: L) w' ∧ (ARf A2 R) ∧ (Shr A A2) ∧ (f = A2.s.free - A.s.free ∧ 0 ≤ f)) := by
 rcases hA.ref i (List.mem_cons_self ..) with rfl | ⟨h1, h2⟩
 ·exact (Zcy a A Z).mono fun v w' ⟨hv, hS'⟩ => ⟨A, 0, hv, hS', hA.tail0, Shr.refl A, by omega, by omega⟩
 ·have hr := hA.rng (List.mem_cons_self ..)
  refine (Q4 a A R i hA ⟨h1, hr.2.1⟩ hR Z).mono fun v w' ⟨A2, f, hv, hS', h3, h4, h5⟩ => ⟨A2, f, hv, hS', h3, h4, h5, ?_⟩
  have e1 := AM.cnt_live hA.s
  have e2 := AM.cnt_live h3.s
  have e3 := Zio (A := A) (B := A2) fun j h0 hj => (h4.ok j h0 hj).1
  have e4 : A.s.cap = (A.s.used.length : Int) - 1 := rfl
  have e5 : A2.s.cap = (A2.s.used.length : Int) - 1 := rfl
  have e6 := h4.cap
  omega
theorem Shr.kp {A B : AM} {R : List Int} (h : Shr A B) (hB : ARf B R) : Kp A B R :=
 have h1 : ∀ r ∈ R, ∀ t, Is A t r → Is B t r := fun r hr t ht => Is.mono hB (fun j h0 hj => (h.ok j h0 hj).2) t r ht ((hB.ref r hr).imp id (·.2))
 ⟨h1, fun r hr t ht => (XJ (fun j h0 hj => ((h.ok j (by omega) hj).2).symm) t r (h1 r hr t ht)).symm⟩
end Go.Proofs.YtbeacjcmdijdmaaGreat
namespace Go.V
open Go Go.RowKit
structure RN where
 n : Int
 root : Int
 born : Nat
def rK (x : RN) : Value × Value × Nat := (.int .i64 x.n, .int .u32 x.root, x.born)
structure VM where
 T : TM
 xs : List VN
 q : Nat
 last : Int
 rs : List RN
 q2 : Nat
 cap : Int
structure VsA where
 t : Nat
 p : Nat
 m : Nat
 m2 : Nat
def YE (s a : Nat) (V : VM) (x : VsA) : List HP := [Ze s #[.pointer (some ⟨a, 0, none⟩), .pointer (some ⟨x.t, 0, none⟩), .pointer (some ⟨x.p, 0, none⟩), .map (some x.m2), .int .i64 V.cap] 144, Xw x.t V.T, Ze x.p #[.int .i64 V.cap, .int .i64 V.last, .map (some x.m)] 231, Zx x.m (.map (mE (List.map vK V.xs)) V.q), Zn vF V.xs, Zx x.m2 (.map (mE (List.map rK V.rs)) V.q2)]
def ZP (s a : Nat) (V : VM) : HP := ExB (YE s a V)
def TM.vl (T : TM) (i : Int) : Int := (T.vals[i.toNat]?).getD 0
structure VI (V : VM) (A : AM) (R : List Int) : Prop where
 t : TOk V.T
 g : GI V.xs V.q V.cap V.last
 k : KOk rK RN.n V.rs V.q2
 pre : ∀ z, (∃ r ∈ V.rs, r.n = z) ↔ ZF V.xs z = true
 lv : ∀ i : Int, 0 ≤ i → V.T.s.ok i = true → Zj V.xs (V.T.vl i) = true
 inj : ∀ i j : Int, 0 ≤ i → 0 ≤ j → V.T.s.ok i = true → V.T.s.ok j = true → V.T.vl i = V.T.vl j → i = j
 all : ∀ z, Zj V.xs z = true → ∃ i : Int, 0 ≤ i ∧ V.T.s.ok i = true ∧ V.T.vl i = z
 ref : ARf A (V.rs.map RN.root ++ R)
 cp : V.T.s.cap = V.cap
def VM.new (cap : Nat) : VM := ⟨TM.new cap, [], 0, 0, [], 0, cap⟩
theorem VM.open_val {V : VM} {A : AM} {R : List Int} (h : VI V A R) {x : Int} (ho : V.T.s.opn x = true) : Zj V.xs (V.T.val x) = true ∧ ∃ (k : Nat) (r : RN), V.rs[k]? = some r ∧ r.n = V.T.val x := by
 have h1 := h.lv (x % 4294967296) (by omega) (SM.opn_ok ho).1
 refine ⟨h1, ?_⟩
 obtain ⟨r, hr, hn⟩ := (h.pre _).2 (Ya h1)
 obtain ⟨k, hk⟩ := List.mem_iff_getElem?.1 hr
 exact ⟨k, r, hk, hn⟩
theorem SM.new_live (cap : Nat) (i : Int) : (SM.new cap).ok i = false := by
 unfold SM.ok SM.new
 simp only
 cases hx : (List.replicate (cap + 1) false)[i.toNat]? with
 | none => rfl
 | some b => rw [List.eq_of_mem_replicate (List.mem_of_getElem? hx)]; rfl
theorem AM.new_rf {cap : Nat} (h : 1 ≤ cap ∧ cap ≤ 65536) : ARf (AM.new cap) [] := by
 have hno := SM.new_live cap
 refine ⟨AM.new_wf h, fun i hi => ?_, fun i hi => ?_, fun i hi => ?_, fun _ hr => (by cases hr), fun i hi => ?_, fun i _ _ => ?_, by simp⟩
 ·have := hno i; rw [show (AM.new cap).s = SM.new cap from rfl, this] at hi; cases hi
 ·have := hno i; rw [show (AM.new cap).s = SM.new cap from rfl, this] at hi; cases hi
 ·have := hno i; rw [show (AM.new cap).s = SM.new cap from rfl, this] at hi; cases hi
 ·have := hno i; rw [show (AM.new cap).s = SM.new cap from rfl, this] at hi; cases hi
 ·unfold AM.nd AM.new
  simp only
  cases hx : (List.replicate (cap + 1) Nd.zero)[i.toNat]? with
  | none => rfl
  | some b => rw [List.eq_of_mem_replicate (List.mem_of_getElem? hx)]; rfl
theorem VI.new {slots cap : Nat} (h1 : 1 ≤ slots ∧ slots ≤ 65536) (h2 : 1 ≤ cap ∧ cap ≤ 4096) : VI (VM.new cap) (AM.new slots) [] := by
 have hno := SM.new_live cap
 refine ⟨TM.new_ok (by omega), ⟨GOk.nil, fun _ h => (by cases h), Int.le_refl _, by show 1 ≤ (cap : Int) ∧ (cap : Int) ≤ 4096; omega⟩, KOk.nil, fun z => ?_, fun i _ hi => ?_, fun i j _ _ hi => ?_, fun z hz => (by cases hz), AM.new_rf h1, ?_⟩
 ·exact ⟨fun ⟨_, h, _⟩ => (by cases h), fun h => (by cases h)⟩
 ·rw [show (VM.new cap).T.s = SM.new cap from rfl, hno i] at hi; cases hi
 ·rw [show (VM.new cap).T.s = SM.new cap from rfl, hno i] at hi; cases hi
 ·show (((List.replicate (cap + 1) false).length : Nat) : Int) - 1 = cap
  simp
def VM.room (V : VM) : Int := min (V.cap - V.xs.length) (V.cap - (V.T.s.cap - V.T.s.free))
def VM.rootOf (V : VM) (z : Int) : Int := ((V.rs.find? fun r => decide (r.n = z)).map RN.root).getD 0
theorem VM.rootOf_at {V : VM} (hu : V.rs.Pairwise fun x y => RN.n x ≠ RN.n y) {k : Nat} {r : RN} (hr : V.rs[k]? = some r) : V.rootOf r.n = r.root := by
 unfold VM.rootOf
 have : V.rs.find? (fun x => decide (x.n = r.n)) = some r := by
  cases hf : V.rs.find? (fun x => decide (x.n = r.n)) with
  | none => exact absurd (decide_eq_true rfl) (List.find?_eq_none.1 hf r (List.mem_of_getElem? hr))
  | some y =>
   have hn : y.n = r.n := of_decide_eq_true (List.find?_some (p := fun q : RN => decide (q.n = r.n)) hf)
   obtain ⟨j, hj⟩ := List.mem_iff_getElem?.1 (List.mem_of_find?_eq_some hf)
   have h1 := (List.getElem?_eq_some_iff.1 hj).1
   have h2 := (List.getElem?_eq_some_iff.1 hr).1
   have e1 : V.rs[j] = y := (List.getElem?_eq_some_iff.1 hj).2
   have e2 : V.rs[k] = r := (List.getElem?_eq_some_iff.1 hr).2
   rcases Nat.lt_trichotomy j k with hl | hl | hl
   ·exact absurd (by rw [e1, e2]; exact hn) (List.pairwise_iff_getElem.1 hu j k h1 h2 hl)
   ·subst hl; rw [hj] at hr; exact hr
   ·exact absurd (by rw [e1, e2]; exact hn.symm) (List.pairwise_iff_getElem.1 hu k j h2 h1 hl)
 rw [this]; rfl
end Go.V
namespace Go.V
open Go Go.RowKit
theorem TM.open_vl {T : TM} (h : TOk T) (hf : 0 < T.s.free) (v : Int) {i : Int} (hi : 0 ≤ i) : (T.open v).vl i = if i = T.s.next then v else T.vl i := by
 have hn := SM.next_rng h.s hf
 unfold TM.vl TM.open
 simp only
 rw [List.getElem?_set]
 by_cases e : i = T.s.next
 ·subst e; rw [if_pos rfl, if_pos (by rw [h.vl]; exact hn.2.2.1), if_pos rfl]; rfl
 ·rw [if_neg (by omega), if_neg e]
theorem TM.open_ok {T : TM} (h : TOk T) (hf : 0 < T.s.free) (v : Int) {i : Int} (hi : 0 ≤ i) : (T.open v).s.ok i = if i = T.s.next then true else T.s.ok i := SM.alloc_ok' h.s hf hi
theorem Zbx {V : VM} {A : AM} {R : List Int} (h : VI V A R) : V.rs.length ≤ V.xs.length := by
 have h1 := Zdi (l := V.rs.map RN.n) (m := V.xs.map VN.n) (List.pairwise_map.2 h.k.uniq) (fun z hz => by
  obtain ⟨r, hr, e⟩ := List.mem_map.1 hz
  obtain ⟨x, hx, e2⟩ := ZO.1 ((h.pre z).1 ⟨r, hr, e⟩)
  exact List.mem_map.2 ⟨x, hx, e2⟩)
 simpa using h1
def VM.add (V : VM) (xs2 : List VN) (q : Nat) (root : Int) : VM := ⟨V.T.open (V.last + 1), xs2, q, V.last + 1, V.rs ++ [⟨V.last + 1, root, V.q2⟩], V.q2 + 1, V.cap⟩
theorem VI.add {V : VM} {A : AM} {R : List Int} (h : VI V A R) {root : Int} (hr : root = 0 ∨ (1 ≤ root ∧ A.s.ok root = true)) {ps : List Int} {xs2 : List VN} {q : Nat} (h0 : YG V.xs V.cap ps = 0) (hA : AddP V.xs V.cap V.last ps xs2 (V.last + 1))
  (hG : GI xs2 q V.cap (V.last + 1)) (hf : 0 < V.T.s.free) (hla : V.last < 1000000000) (hlen : R.length ≤ 900000000) : VI (V.add xs2 q root) (A.ret root) R := by
 have hla0 := h.g.la
 have hle := Zbx h
 have hnum := hG.ok.num
 obtain ⟨_, _, hn, hlv, hpr, hxl⟩ := (AddP.facts h.g.le hA).resolve_left fun e => e.1 h0
 have hlast : ∀ z, ZF V.xs z = true → z ≤ V.last := fun z hz => by
  obtain ⟨x, hx, e⟩ := ZO.1 hz
  have := h.g.le x hx; omega
 have hnx := SM.next_rng h.t.s hf
 have hlvl : ∀ i : Int, 0 ≤ i → V.T.s.ok i = true → V.T.vl i ≤ V.last := fun i h0 hi => hlast _ (Ya (h.lv i h0 hi))
 refine ⟨h.t.open hf (by omega), hG, h.k.snoc rfl (fun y hy e => ?_) rfl (by show _ ≤ V.last + 1 ∧ V.last + 1 ≤ _; omega) (by omega), fun z => ?_, fun i hi ho => ?_, fun i j hi hj ho ho2 e => ?_, fun z hz => ?_, ?_, ?_⟩
 ·have := hlast _ ((h.pre y.n).1 ⟨y, hy, rfl⟩)
  have e2 : y.n = V.last + 1 := e
  omega
 ·show (∃ r ∈ V.rs ++ [_], r.n = z) ↔ ZF xs2 z = true
  rw [hpr z, Bool.or_eq_true, ← h.pre z]
  constructor
  ·rintro ⟨r, hr2, e⟩
   rcases List.mem_append.1 hr2 with hr2 | hr2
   ·exact .inl ⟨r, hr2, e⟩
   ·rw [List.mem_singleton.1 hr2] at e
    exact .inr (decide_eq_true e.symm)
  ·rintro (⟨r, hr2, e⟩ | e)
   ·exact ⟨r, List.mem_append_left _ hr2, e⟩
   ·exact ⟨_, List.mem_append_right _ (List.mem_singleton.2 rfl), (of_decide_eq_true e).symm⟩
 ·show Zj xs2 ((V.T.open (V.last + 1)).vl i) = true
  rw [TM.open_vl h.t hf _ hi, hlv]
  rw [show (V.add xs2 q root).T.s.ok i = _ from TM.open_ok h.t hf _ hi] at ho
  by_cases e : i = V.T.s.next
  ·rw [if_pos e]; simp
  ·rw [if_neg e] at ho ⊢
   rw [h.lv i hi ho, Bool.true_or]
 ·rw [show (V.add xs2 q root).T.s.ok i = _ from TM.open_ok h.t hf _ hi] at ho
  rw [show (V.add xs2 q root).T.s.ok j = _ from TM.open_ok h.t hf _ hj] at ho2
  rw [show (V.add xs2 q root).T.vl i = _ from TM.open_vl h.t hf _ hi, show (V.add xs2 q root).T.vl j = _ from TM.open_vl h.t hf _ hj] at e
  by_cases e1 : i = V.T.s.next
  ·by_cases e2 : j = V.T.s.next
   ·rw [e1, e2]
   ·rw [if_neg e2] at ho2
    rw [if_pos e1, if_neg e2] at e
    have := hlvl j hj ho2; omega
  ·rw [if_neg e1] at ho
   by_cases e2 : j = V.T.s.next
   ·rw [if_neg e1, if_pos e2] at e
    have := hlvl i hi ho; omega
   ·rw [if_neg e2] at ho2
    rw [if_neg e1, if_neg e2] at e
    exact h.inj i j hi hj ho ho2 e
 ·have hz2 : (Zj V.xs z || decide (z = V.last + 1)) = true := by rw [← hlv z]; exact hz
  rcases Bool.or_eq_true_iff.1 hz2 with hz2 | hz2
  ·obtain ⟨i, h1, h2, h3⟩ := h.all z hz2
   have hne : i ≠ V.T.s.next := fun e => by rw [e, hnx.2.2.2] at h2; cases h2
   exact ⟨i, h1, by rw [show (V.add xs2 q root).T.s.ok i = _ from TM.open_ok h.t hf _ h1, if_neg hne]; exact h2, by rw [show (V.add xs2 q root).T.vl i = _ from TM.open_vl h.t hf _ h1, if_neg hne]; exact h3⟩
  ·have h1 : 0 ≤ V.T.s.next := by omega
   exact ⟨V.T.s.next, h1, by rw [show (V.add xs2 q root).T.s.ok _ = _ from TM.open_ok h.t hf _ h1, if_pos rfl], by rw [show (V.add xs2 q root).T.vl _ = _ from TM.open_vl h.t hf _ h1, if_pos rfl]; exact (of_decide_eq_true hz2).symm⟩
 ·have h1 := (AM.ret_eq h.ref hr (by rw [List.length_append, List.length_map]; omega)).1
  refine h1.perm ?_
  show (root :: (V.rs.map RN.root ++ R)).Perm ((V.rs ++ [(⟨V.last + 1, root, V.q2⟩ : RN)]).map RN.root ++ R)
  rw [List.map_append]
  simpa using (List.perm_middle (a := root) (l₁ := V.rs.map RN.root) (l₂ := R)).symm
 ·show (V.T.s.alloc).cap = V.cap
  rw [← h.cp]
  unfold SM.cap SM.alloc; simp
theorem Zf0 {V : VM} {A : AM} {R : List Int} (h : VI V A R) {x : Int} (ho : V.T.s.opn x = true) : V.rootOf (V.T.val x) = 0 ∨ (1 ≤ V.rootOf (V.T.val x) ∧ A.s.ok (V.rootOf (V.T.val x)) = true) := by
 obtain ⟨_, k, r, hk, hn⟩ := VM.open_val h ho
 rw [← hn, VM.rootOf_at h.k.uniq hk]
 exact h.ref.ref _ (List.mem_append_left _ (List.mem_map.2 ⟨r, List.mem_of_getElem? hk, rfl⟩))
theorem Zjf {V : VM} {A : AM} {R : List Int} (h : VI V A R) {x y : Int} (hx : V.T.s.opn x = true) (hy : V.T.s.opn y = true) (e : V.T.val x = V.T.val y) : x = y := by
 obtain ⟨h1, h2⟩ := SM.opn_ok hx
 obtain ⟨h3, h4⟩ := SM.opn_ok hy
 have := h.inj (x % 4294967296) (y % 4294967296) (by omega) (by omega) h1 h3 e
 rw [← h2, ← h4, this]
theorem Zdz {V : VM} {A : AM} {R : List Int} (h : VI V A R) {hs : List Int} (hp : ZT hs) (ho : ∀ x ∈ hs, V.T.s.opn x = true) : ZT (hs.map V.T.val) := by
 refine ⟨by simpa using hp.1, fun x y e => ?_⟩
 match hs, hp, ho, e with
 | [u, v], hp, ho, e =>
  simp only [List.map_cons, List.map_nil, List.cons.injEq, and_true] at e
  obtain ⟨e1, e2⟩ := e
  intro e3
  exact hp.2 u v rfl (Zjf h (ho u (by simp)) (ho v (by simp)) (by rw [e1, e2]; exact e3))
theorem JJ {V : VM} {A : AM} {R : List Int} (h : VI V A R) (hr : 0 < V.room) : (V.xs.length : Int) < V.cap ∧ 0 < V.T.s.free := by
 have := h.cp
 unfold VM.room at hr
 omega
theorem Zhb {V : VM} {A : AM} {R : List Int} (h : VI V A R) {hs : List Int} (hp : ZT hs) (ho : ∀ x ∈ hs, V.T.s.opn x = true) (hr : 0 < V.room) : YG V.xs V.cap (hs.map V.T.val) = 0 := by
 refine JI (Zdz h hp ho) (fun z hz => ?_) (by have := (JJ h hr).1; omega)
 obtain ⟨x, hx, rfl⟩ := List.mem_map.1 hz
 exact (VM.open_val h (ho x hx)).1
end Go.V
namespace Go.V
open Go Go.RowKit
theorem TM.newH_mod {T : TM} (h : TOk T) (hf : 0 < T.s.free) : T.newH % 4294967296 = T.s.next ∧ 0 ≤ T.newH ∧ T.newH ≤ 18446744073709551615 := by
 have hn := SM.next_rng h.s hf
 have hc := h.s.cap
 have e : T.s.cap = (T.s.used.length : Int) - 1 := rfl
 have hg := (SM.alloc_sok h.s hf)
 have h1 := SOk.gen_rng hg T.s.next
 unfold TM.newH SM.hd
 omega
theorem TOk.newH_opn {T : TM} (h : TOk T) (hf : 0 < T.s.free) (v : Int) : (T.open v).s.opn T.newH = true ∧ (T.open v).val T.newH = v := by
 obtain ⟨h1, h2, h3⟩ := TM.newH_mod h hf
 have hn := SM.next_rng h.s hf
 constructor
 ·unfold SM.opn
  rw [h1]
  have e1 : (T.open v).s.ok T.s.next = true := by rw [TM.open_ok h hf v (by omega), if_pos rfl]
  rw [e1]
  simp [TM.open, TM.newH]
 ·show (T.open v).vl (T.newH % 4294967296) = v
  rw [h1, TM.open_vl h hf v (by omega), if_pos rfl]
theorem SM.alloc_gen {S : SM} (i : Int) (h0 : 0 ≤ i) (hn : 0 ≤ S.next) (hne : i ≠ S.next) : S.alloc.genOf i = S.genOf i := by
 unfold SM.genOf SM.alloc
 simp only
 rw [List.getElem?_set, if_neg (by omega)]
theorem TOk.opn_open {T : TM} (h : TOk T) (hf : 0 < T.s.free) (v : Int) {x : Int} (hx : T.s.opn x = true) : (T.open v).s.opn x = true ∧ (T.open v).val x = T.val x := by
 obtain ⟨h1, h2⟩ := SM.opn_ok hx
 have hn := SM.next_rng h.s hf
 have hne : x % 4294967296 ≠ T.s.next := fun e => by rw [e, hn.2.2.2] at h1; cases h1
 constructor
 ·unfold SM.opn
  have e1 : (T.open v).s.ok (x % 4294967296) = true := by rw [TM.open_ok h hf v (by omega), if_neg hne]; exact h1
  rw [e1]
  have e2 : (T.open v).s.hd (x % 4294967296) = x := by
   show T.s.alloc.genOf (x % 4294967296) * 4294967296 + x % 4294967296 = x
   rw [SM.alloc_gen _ (by omega) (by omega) hne]; exact h2
  rw [e2]; simp
 ·show (T.open v).vl (x % 4294967296) = T.vl (x % 4294967296)
  rw [TM.open_vl h hf v (by omega), if_neg hne]
theorem TOk.opn_close {T : TM} (h : TOk T) {x y : Int} (hx : T.s.opn x = true) (hy : T.s.opn y = true) (hne : T.val x ≠ T.val y) : (T.close x).s.opn y = true ∧ (T.close x).val y = T.val y := by
 obtain ⟨h1, h2⟩ := SM.opn_ok hx
 obtain ⟨h3, h4⟩ := SM.opn_ok hy
 have hne2 : y % 4294967296 ≠ x % 4294967296 := fun e => hne (by unfold TM.val; rw [e])
 refine ⟨?_, rfl⟩
 unfold SM.opn
 have e1 : (T.close x).s.ok (y % 4294967296) = true := by
  show (T.s.release (x % 4294967296)).ok (y % 4294967296) = true
  rw [SM.release_ok' h.s (by omega) h1 (by omega), if_neg hne2]; exact h3
 rw [e1]
 have e2 : (T.close x).s.hd (y % 4294967296) = y := h4
 rw [e2]; simp
theorem Zl5 {xs1 xs2 xs3 xs4 xs5 : List VN} {q1 q2 : Nat} (i1 : GI xs1 q1 9 1) (i2 : GI xs2 q2 9 2)
  (a1 : AddP [] 9 0 [] xs1 1) (a2 : AddP xs1 9 1 [1] xs2 2) (a3 : AddP xs2 9 2 [1] xs3 3) (r : RelQ xs3 1 xs4) (r2 : RelQ xs4 3 xs5) :
  (∀ z, ZF xs4 z = true ↔ z = 1 ∨ z = 2 ∨ z = 3) ∧ ∀ z, ZF xs5 z = true ↔ z = 2 := by
 have o1 : ZT [] := by decide
 have o2 : ZT [1] := by decide
 have e1 : YG [] 9 [] = 0 := JI o1 (fun _ h => by cases h) (by simp)
 obtain ⟨_, n1, b1, c1, d1, f1⟩ := a1.vw (fun _ h => by cases h) e1
 have hb1 : b1 = [1] := XV c1 (List.pairwise_singleton _ _) fun z => by rw [d1]; simp [Y_]
 subst hb1
 have g1 : ∀ z, vw xs1 z = if z = 1 then some (true, [1]) else none := f1
 have e2 : YG xs1 9 [1] = 0 := JI o2 (fun z hz => by
  rw [List.mem_singleton.1 hz, ZH, g1]; rfl) (by rw [n1]; simp)
 obtain ⟨_, n2, b2, c2, d2, f2⟩ := a2.vw i1.le e2
 have hb2 : b2 = [1, 2] := XV c2 (by unfold Asc; simp) fun z => by
  rw [d2]
  simp only [Y_, List.flatMap_cons, List.flatMap_nil, YF, g1]
  simp [or_comm]
 subst hb2
 have g2 : ∀ z, vw xs2 z = if z = 2 then some (true, [1, 2]) else if z = 1 then some (true, [1]) else none := fun z => by rw [f2, g1]; rfl
 have e3 : YG xs2 9 [1] = 0 := JI o2 (fun z hz => by
  rw [List.mem_singleton.1 hz, ZH, g2]; rfl) (by rw [n2, n1]; simp)
 obtain ⟨_, n3, b3, c3, d3, f3⟩ := a3.vw i2.le e3
 have hb3 : b3 = [1, 3] := XV c3 (by unfold Asc; simp) fun z => by
  rw [d3]
  simp only [Y_, List.flatMap_cons, List.flatMap_nil, YF, g2]
  simp [or_comm]
 subst hb3
 have g3 : ∀ z, vw xs3 z = if z = 3 then some (true, [1, 3]) else if z = 2 then some (true, [1, 2]) else if z = 1 then some (true, [1]) else none := fun z => by rw [f3, g2]; rfl
 have hl : Zj xs3 1 = true := by rw [ZH, g3]; rfl
 obtain ⟨_, ys, N, k1, k2, k3⟩ := Or.resolve_right r (fun h => by rw [hl] at h; cases h.1)
 have g5 : ∀ z, vw ys z = if z = 3 then some (true, [1, 3]) else if z = 2 then some (true, [1, 2]) else if z = 1 then some (false, [1]) else none := fun z => by
  rw [k1, dead, g3]
  by_cases h1 : z = 1
  ·subst h1; rfl
  ·rw [if_neg h1, if_neg h1, if_neg h1]
 have lv2 : Zj ys 2 = true := by rw [ZH, g5]; rfl
 have lv3 : Zj ys 3 = true := by rw [ZH, g5]; rfl
 have bs : ZL ys 2 3 = 1 := by rw [ZL, if_pos ⟨lv2, lv3⟩, YF, YF, g5, g5]; decide
 have N1 : N 1 = true := (k2 1).2 (.inr ⟨by decide, 2, 3, lv2, lv3, by decide, bs⟩)
 have N2 : N 2 = true := (k2 2).2 (.inl lv2)
 have N3 : N 3 = true := (k2 3).2 (.inl lv3)
 have g4 : ∀ z, vw xs4 z = if z = 3 then some (true, [1, 3]) else if z = 2 then some (true, [1, 2]) else if z = 1 then some (false, [1]) else none := fun z => by
  rw [k3, keep, g5]
  by_cases h3 : z = 3
  ·subst h3; simp [N1, N3]
  ·by_cases h2 : z = 2
   ·subst h2; simp [N1, N2]
   ·by_cases h1 : z = 1
    ·subst h1; simp [N1]
    ·simp [h1, h2, h3]
 refine ⟨fun z => ?_, fun z => ?_⟩
 ·rw [ZX, g4]
  by_cases h3 : z = 3
  ·simp [h3]
  ·by_cases h2 : z = 2
   ·simp [h2]
   ·by_cases h1 : z = 1
    ·simp [h1]
    ·simp [h1, h2, h3]
 have hl3 : Zj xs4 3 = true := by rw [ZH, g4]; rfl
 obtain ⟨_, zs, M, k4, k5, k6⟩ := Or.resolve_right r2 (fun h => by rw [hl3] at h; cases h.1)
 have g6 : ∀ z, vw zs z = if z = 3 then some (false, [1, 3]) else if z = 2 then some (true, [1, 2]) else if z = 1 then some (false, [1]) else none := fun z => by
  rw [k4, dead, g4]
  by_cases h1 : z = 3
  ·subst h1; rfl
  ·rw [if_neg h1, if_neg h1, if_neg h1]
 have hlz : ∀ z, Zj zs z = true ↔ z = 2 := fun z => by
  rw [ZH, g6]
  by_cases h3 : z = 3
  ·simp [h3]
  ·by_cases h2 : z = 2
   ·simp [h2]
   ·by_cases h1 : z = 1
    ·simp [h1]
    ·simp [h1, h2, h3]
 have hM : ∀ z, M z = true ↔ z = 2 := fun z => by
  rw [k5 z]
  unfold Zai
  constructor
  ·rintro (h | ⟨_, x, y, hx, hy, hxy, _⟩)
   ·exact (hlz z).1 h
   ·have := (hlz x).1 hx; have := (hlz y).1 hy; omega
  ·intro h; exact .inl ((hlz z).2 h)
 rw [ZX, k6, keep]
 by_cases h2 : z = 2
 ·rw [if_pos ((hM z).2 h2), g6, h2]; simp
 ·rw [if_neg (fun h => h2 ((hM z).1 h))]; simp [h2]
end Go.V
namespace Go.V
open Go Go.RowKit
theorem VI.ar {V : VM} {A A2 : AM} {R R2 : List Int} (h : VI V A R) (hA : ARf A2 (V.rs.map RN.root ++ R2)) : VI V A2 R2 := ⟨h.t, h.g, h.k, h.pre, h.lv, h.inj, h.all, hA, h.cp⟩
theorem Zej {xs : List VN} {m : Int} (hu : VUq xs) (h : ∀ z, ZF xs z = true ↔ z = m) : xs.length = 1 := by
 match xs, hu, h with
 | [], _, h => exact absurd ((h m).2 rfl) (by simp [ZF, ZS])
 | [_], _, _ => rfl
 | x :: y :: t, hu, h =>
  have h1 := (h x.n).1 (ZO.2 ⟨x, by simp, rfl⟩)
  have h2 := (h y.n).1 (ZO.2 ⟨y, by simp, rfl⟩)
  have := (List.pairwise_cons.1 hu).1 y (by simp)
  rw [h1, h2] at this; exact absurd rfl this
structure FvS (V : VM) (A : AM) (hd root : Int) (t : Tr) : Prop where
 vi : VI V A []
 opn : V.T.s.opn hd = true
 rng : 0 ≤ hd ∧ hd ≤ 18446744073709551615
 val : V.T.val hd = V.last
 pre : ∀ z, ZF V.xs z = true ↔ z = V.last
 free : V.T.s.free = 49
 cap : V.cap = 50
 rs : ∃ b, V.rs = [⟨V.last, root, b⟩]
 is : Is A t root
 ok : t.ok
 srt : Srt t.ls
 acap : A.s.used.length = 601
theorem FvS.len {V : VM} {A : AM} {hd root : Int} {t : Tr} (h : FvS V A hd root t) : V.xs.length = 1 := Zej h.vi.g.ok.uniq h.pre
theorem FvS.room {V : VM} {A : AM} {hd root : Int} {t : Tr} (h : FvS V A hd root t) : V.room = 49 := by
 have h1 := h.len; have h2 := h.vi.cp; have h3 := h.cap; have h4 := h.free
 unfold VM.room; omega
theorem FvS.root {V : VM} {A : AM} {hd root : Int} {t : Tr} (h : FvS V A hd root t) : V.rootOf (V.T.val hd) = root := by
 obtain ⟨b, hb⟩ := h.rs
 rw [h.val]
 exact VM.rootOf_at (V := V) h.vi.k.uniq (k := 0) (r := ⟨V.last, root, b⟩) (by rw [hb]; rfl)
theorem FvS.ref {V : VM} {A : AM} {hd root : Int} {t : Tr} (h : FvS V A hd root t) : ARf A [root] := by
 obtain ⟨b, hb⟩ := h.rs
 have := h.vi.ref
 rw [hb] at this; exact this
theorem FvS.used {V : VM} {A : AM} {hd root : Int} {t : Tr} (h : FvS V A hd root t) : A.s.cap = 600 ∧ A.s.cap - A.s.free = t.n := by
 have h1 := Zkd h.ref h.is h.srt
 have h2 : A.s.cap = (A.s.used.length : Int) - 1 := rfl
 have h3 := h.acap
 omega
end Go.V
namespace Go.Proofs.YtbeacjcmdijdmaaGreat
open Go Go.V Go.RowKit Go.Maps Go.Sort Go.Shelf
theorem Zan {g w : World} {L : List HP} (sl cap : Int) (hc : 1 ≤ cap ∧ cap ≤ 4096) (hs : 1 ≤ sl ∧ sl ≤ 65536) (Z : St g (L) w) :
  Sp Tryz.prog 10 [.int .i64 sl, .int .i64 cap] w (fun v w' => ∃ (s a : Nat), v = .tuple #[.pointer (some ⟨s, 0, none⟩), .int .i64 0] ∧ St g (ZP s a (VM.new cap.toNat) :: Zs a (AM.new sl.toNat) :: L) w') := by
 refine Sp.enter Tryz.func10 rfl (by kernel_rfl) (by kernel_rfl) ?_
 refine WC.seq <| WC.region <| WL.r 2 rfl <| WL.nil <| WC.seq <| WC.seq <| WC.region <| WL.r 2 rfl <| WL.rG 4 rfl (fun j => ?_)
 refine WL.prop 15 rfl (bor (dd _) (dd _)) <| WL.nil <| WC.ifF rfl (decide_eq_false ((by omega))) ?_
 refine WC.skip <| WC.seq <| WC.region <| WL.r 1 rfl <| WL.call rfl rfl (Zg0 (cap := sl) (hc := hs) (Z := Z)) rfl ?_
 clear Z; rintro _ w ⟨a1, rfl, Z⟩
 replace Z : St g (Zs a1 (AM.new sl.toNat) :: L) w := Z
 refine WL.r 5 rfl <| WL.nil <| WC.seq <| WC.seq <| WC.region <| WL.r 2 rfl <| WL.nil ?_
 as_aux_lemma =>
 refine WC.ifF rfl (decide_eq_false ((by decide))) ?_
 refine WC.skip <| WC.seq <| WC.region <| WL.r 1 rfl <| WL.call rfl rfl (Zhj (cap := cap) (hc := hc) (Z := Z)) rfl ?_
 clear Z; rintro _ w ⟨t1, rfl, Z⟩
 replace Z := Z.n2 L (a0 := Xw t1 (TM.new cap.toNat)) rfl
 refine WL.r 5 rfl <| WL.nil <| WC.seq <| WC.seq <| WC.region <| WL.r 2 rfl <| WL.nil <| WC.ifF rfl (decide_eq_false ((by decide))) ?_
 refine WC.skip <| WC.seq <| WC.region <| WL.r 1 rfl <| WL.call rfl rfl (new_ok (cap := cap) (hc := hc) (Z := Z)) rfl ?_
 clear Z; rintro _ w ⟨p1, m1, rfl, Z⟩
 replace Z := Z.n5 L (a0 := Ze p1 #[.int .i64 cap, .int .i64 0, .map (some m1)] 231) (a1 := Zx m1 (.map (mE (List.map vK [])) 0)) (a2 := Zn vF []) rfl
 refine WL.r 5 rfl <| WL.nil ?_
 as_aux_lemma =>
 refine WC.seq <| WC.seq <| WC.region <| WL.r 2 rfl <| WL.nil <| WC.ifF rfl (decide_eq_false ((by decide))) ?_
 refine WC.skip <| WC.seq <| WC.region <| WL.r 3 rfl <| WL.mkM rfl rfl Z (fun b1 w Z => ?_)
 refine WL.build rfl rfl (cs := [.pointer (some ⟨p1, 0, none⟩), .map (some b1)]) Zoy rfl rfl <| WL.r 1 rfl <| WL.build rfl rfl (cs := [.pointer (some ⟨a1, 0, none⟩), .pointer (some ⟨t1, 0, none⟩), .pointer (some ⟨p1, 0, none⟩), .map (some b1), .int .i64 cap]) Zpq rfl rfl <| WL.box rfl rfl #[.pointer (some ⟨a1, 0, none⟩), .pointer (some ⟨t1, 0, none⟩), .pointer (some ⟨p1, 0, none⟩), .map (some b1), .int .i64 cap] Z rfl rfl (fun b2 w Z => ?_)
 refine WL.r 2 rfl <| WL.nil <| WC.ret ?_
 replace Z := St.exClose (f := YE b2 a1 (VM.new cap.toNat)) (L := Zs a1 (AM.new sl.toNat) :: L) ⟨t1, p1, m1, b1⟩ (by
  have hc2 : (VM.new cap.toNat).cap = cap := (by show ((cap.toNat : Nat) : Int) = cap; omega)
  unfold YE
  rw [hc2]
  exact (Z.sel 6 [0, 4, 1, 1, 1, 0] rfl))
 replace Z := Z.n2 L (a0 := ZP b2 a1 (VM.new cap.toNat)) rfl
 refine ⟨[.pointer (some ⟨b2, 0, none⟩), .int .i64 0], ⟨rfl, rfl⟩, ?_⟩
 exact ⟨_, _, rfl, Z⟩
theorem Qz {g w : World} {L : List HP} (s a : Nat) (V : VM) (h : Int) (hT : TOk V.T) (hh : 0 ≤ h ∧ h ≤ 18446744073709551615) (hn : V.T.s.opn h = false) (Z : St g (ZP s a V :: L) w) :
  Sp Tryz.prog 55 [.pointer (some ⟨s, 0, none⟩), .int .u64 h] w (fun v w' => v = .tuple #[.int .i64 0, .int .i64 5] ∧ St g (ZP s a V :: L) w') := by
 refine Sp.enter Tryz.func55 rfl (by kernel_rfl) (by kernel_rfl) ?_
 refine WC.seq <| WC.region <| WL.r 2 rfl <| WL.nil <| WC.seq <| WC.region ?_
 obtain ⟨⟨vt, vp, vm, vr⟩, Z⟩ := St.exOpen (f := YE s a V) Z
 replace Z : St g (Ze s #[.pointer (some ⟨a, 0, none⟩), .pointer (some ⟨vt, 0, none⟩), .pointer (some ⟨vp, 0, none⟩), .map (some vr), .int .i64 V.cap] 144 :: Xw vt V.T :: Ze vp #[.int .i64 V.cap, .int .i64 V.last, .map (some vm)] 231 :: Zx vm (.map (mE (List.map vK V.xs)) V.q) :: Zn vF V.xs :: Zx vr (.map (mE (List.map rK V.rs)) V.q2) :: L) w := Z
 refine WL.run 5 [.pointer (some ⟨vt, 0, none⟩)] rfl (by exact Z.ld 0 rfl rfl) ?_
 refine WL.call rfl rfl (Q5 (T := V.T) (h := h) (hT := hT) (hh := hh) (hn := hn) (Z := (Z.sel 2 [1, 0] rfl))) rfl ?_
 clear Z; rintro _ w ⟨rfl, Z⟩
 replace Z := Z.n6 L rfl
 refine WL.r 5 rfl <| WL.nil <| WC.seq <| WC.region <| WL.r 2 rfl <| WL.nw 18 rfl (Zr (by omega)) ?_
 refine WL.r 3 rfl <| WL.nil <| WC.ret ?_
 replace Z := St.exClose (f := YE s a V) (L := L) ⟨vt, vp, vm, vr⟩ ((Z.sel 2 [1, 0] rfl))
 replace Z : St g (ZP s a V :: L) w := Z
 refine ⟨[.int .i64 0, .int .i64 5], ⟨rfl, rfl⟩, ?_⟩
 exact ⟨rfl, Z⟩
theorem XW {g w : World} {L : List HP} (s a : Nat) (V : VM) (h : Int) (hT : TOk V.T) (hh : 0 ≤ h ∧ h ≤ 18446744073709551615) (hn : V.T.s.opn h = true) (Z : St g (ZP s a V :: L) w) :
  Sp Tryz.prog 55 [.pointer (some ⟨s, 0, none⟩), .int .u64 h] w (fun v w' => v = .tuple #[.int .i64 (V.T.val h), .int .i64 0] ∧ St g (ZP s a V :: L) w') := by
 refine Sp.enter Tryz.func55 rfl (by kernel_rfl) (by kernel_rfl) ?_
 refine WC.seq <| WC.region <| WL.r 2 rfl <| WL.nil <| WC.seq <| WC.region ?_
 obtain ⟨⟨vt, vp, vm, vr⟩, Z⟩ := St.exOpen (f := YE s a V) Z
 replace Z : St g (Ze s #[.pointer (some ⟨a, 0, none⟩), .pointer (some ⟨vt, 0, none⟩), .pointer (some ⟨vp, 0, none⟩), .map (some vr), .int .i64 V.cap] 144 :: Xw vt V.T :: Ze vp #[.int .i64 V.cap, .int .i64 V.last, .map (some vm)] 231 :: Zx vm (.map (mE (List.map vK V.xs)) V.q) :: Zn vF V.xs :: Zx vr (.map (mE (List.map rK V.rs)) V.q2) :: L) w := Z
 refine WL.run 5 [.pointer (some ⟨vt, 0, none⟩)] rfl (by exact Z.ld 0 rfl rfl) ?_
 refine WL.call rfl rfl (Zbo (T := V.T) (h := h) (hT := hT) (hh := hh) (hn := hn) (Z := (Z.sel 2 [1, 0] rfl))) rfl ?_
 clear Z; rintro _ w ⟨rfl, Z⟩
 replace Z := Z.n6 L rfl
 refine WL.r 5 rfl <| WL.nil <| WC.seq <| WC.region ?_
 have hv := hT.val_rng h
 refine WL.r 2 rfl <| WL.nw 18 rfl (Zr (by omega)) ?_
 refine WL.r 3 rfl <| WL.nil <| WC.ret ?_
 replace Z := St.exClose (f := YE s a V) (L := L) ⟨vt, vp, vm, vr⟩ ((Z.sel 2 [1, 0] rfl))
 replace Z : St g (ZP s a V :: L) w := Z
 refine ⟨[.int .i64 (V.T.val h), .int .i64 0], ⟨rfl, rfl⟩, ?_⟩
 exact ⟨rfl, Z⟩
theorem J_ {g w : World} {L : List HP} (s a : Nat) (V : VM) (h : Int) (hT : TOk V.T) (hh : 0 ≤ h ∧ h ≤ 18446744073709551615) (hn : V.T.s.opn h = false) (Z : St g (ZP s a V :: L) w) :
  Sp Tryz.prog 64 [.pointer (some ⟨s, 0, none⟩), .int .u64 h] w (fun v w' => v = .tuple #[.int .u32 0, .int .i64 5] ∧ St g (ZP s a V :: L) w') := by
 refine Sp.enter Tryz.func64 rfl (by kernel_rfl) (by kernel_rfl) ?_
 refine WC.seq <| WC.region <| WL.r 2 rfl <| WL.nil <| WC.seq <| WC.region <| WL.r 2 rfl <| WL.call rfl rfl (Qz (h := h) (hT := hT) (hh := hh) (hn := hn) (Z := Z)) rfl ?_
 clear Z; rintro _ w ⟨rfl, Z⟩
 replace Z := Z.n1 L rfl
 refine WL.r 5 rfl <| WL.nil <| WC.seq <| WC.seq <| WC.region <| WL.r 2 rfl <| WL.nil <| WC.ifT rfl (decide_eq_true ((by decide))) ?_
 refine WC.seq <| WC.region <| WL.r 3 rfl <| WL.nil <| WC.ret ?_
 refine ⟨[.int .u32 0, .int .i64 5], ⟨rfl, rfl⟩, ?_⟩
 exact ⟨rfl, Z⟩
theorem Jr {g w : World} {L : List HP} (s a : Nat) (V : VM) (A : AM) (R : List Int) (h : Int) (hV : VI V A R) (hh : 0 ≤ h ∧ h ≤ 18446744073709551615) (hn : V.T.s.opn h = true) (Z : St g (ZP s a V :: L) w) :
  Sp Tryz.prog 64 [.pointer (some ⟨s, 0, none⟩), .int .u64 h] w (fun v w' => v = .tuple #[.int .u32 (V.rootOf (V.T.val h)), .int .i64 0] ∧ St g (ZP s a V :: L) w') := by
 refine Sp.enter Tryz.func64 rfl (by kernel_rfl) (by kernel_rfl) ?_
 refine WC.seq <| WC.region <| WL.r 2 rfl <| WL.nil <| WC.seq <| WC.region <| WL.r 2 rfl <| WL.call rfl rfl (XW (h := h) (hT := hV.t) (hh := hh) (hn := hn) (Z := Z)) rfl ?_
 clear Z; rintro _ w ⟨rfl, Z⟩
 replace Z := Z.n1 L rfl
 refine WL.r 5 rfl <| WL.nil <| WC.seq <| WC.seq <| WC.region <| WL.r 2 rfl <| WL.nil <| WC.ifF rfl (decide_eq_false ((by decide))) ?_
 refine WC.skip <| WC.seq <| WC.region ?_
 obtain ⟨⟨vt, vp, vm, vr⟩, Z⟩ := St.exOpen (f := YE s a V) Z
 replace Z : St g (Ze s #[.pointer (some ⟨a, 0, none⟩), .pointer (some ⟨vt, 0, none⟩), .pointer (some ⟨vp, 0, none⟩), .map (some vr), .int .i64 V.cap] 144 :: Xw vt V.T :: Ze vp #[.int .i64 V.cap, .int .i64 V.last, .map (some vm)] 231 :: Zx vm (.map (mE (List.map vK V.xs)) V.q) :: Zn vF V.xs :: Zx vr (.map (mE (List.map rK V.rs)) V.q2) :: L) w := Z
 obtain ⟨_, k, r, hr, hrn⟩ := VM.open_val hV hn
 refine WL.run 6 [.map (some vr)] rfl (by exact Z.ld 0 rfl rfl) ?_
 refine WL.lk rfl rfl QM 5 Z rfl rfl rfl (by first | trivial | rfl) (r := some (k, .int .u32 r.root)) (hrn ▸ Zgl hV.k.key hV.k.uniq hr) rfl ?_
 refine WL.r 2 rfl <| WL.nil ?_
 as_aux_lemma =>
 refine WC.ret ?_
 replace Z := St.exClose (f := YE s a V) (L := L) ⟨vt, vp, vm, vr⟩ (Z)
 replace Z : St g (ZP s a V :: L) w := Z
 refine ⟨[.int .u32 r.root, .int .i64 0], ⟨rfl, rfl⟩, ?_⟩
 exact ⟨by rw [← hrn, VM.rootOf_at hV.k.uniq hr]; rfl, Z⟩
end Go.Proofs.YtbeacjcmdijdmaaGreat
namespace Go.Proofs.YtbeacjcmdijdmaaGreat
open Go Go.V Go.RowKit Go.Maps Go.Sort Go.Shelf
def hup (T : TM) (k : Nat) : List Int := ((List.range k).filter fun i : Nat => T.s.ok (i : Int)).map fun i : Nat => T.s.hd (i : Int)
theorem Zjt {T : TM} {k : Nat} (h : T.s.ok (k : Int) = true) : hup T (k + 1) = hup T k ++ [T.s.hd k] := by
 unfold hup; rw [List.range_succ, List.filter_append, List.map_append]; simp [h]
theorem Zb9 {T : TM} {k : Nat} (h : T.s.ok (k : Int) = false) : hup T (k + 1) = hup T k := by
 unfold hup; rw [List.range_succ, List.filter_append, List.map_append]; simp [h]
theorem Zi9 (T : TM) (k : Nat) : (hup T k).length ≤ k := by
 unfold hup; rw [List.length_map]
 exact Nat.le_trans (List.length_filter_le _ _) (by simp)
theorem Zn9 {T : TM} (h : T.s.ok 0 = false) : hup T 1 = [] := by
 rw [Zb9 (by exact h)]; rfl
theorem Zfo {g w : World} {L : List HP} (t : Nat) (T : TM) (hT : TOk T) (Z : St g (Xw t T :: L) w) :
  Sp Tryz.prog 73 [.pointer (some ⟨t, 0, none⟩)] w (fun v w' => ∃ (a : Option Addr) (c : Nat), v = .slice a (Zg T.handles).length c ∧ St g (Zf 23 1 (Zg T.handles) a c :: Xw t T :: L) w') := by
 refine Sp.enter Tryz.func73 rfl (by kernel_rfl) (by kernel_rfl) ?_
 refine WC.seq <| WC.region ?_
 obtain ⟨⟨p, va, vc⟩, Z⟩ := St.exOpen (f := XH t T) Z
 replace Z : St g (Ze t #[.pointer (some ⟨p, 0, none⟩), .slice va (Za T.vals).length vc] 228 :: Yp p T.s :: Zf 64 1 (Za T.vals) va vc :: L) w := Z
 have hTs := hT.s; have hcp := hTs.cap; have hce : T.s.cap = (T.s.used.length : Int) - 1 := rfl
 refine WL.r 1 rfl <| WL.nil <| WC.seq <| WC.region <| WL.r 1 rfl <| WL.nil <| WC.seq <| WC.seq <| WC.region <| WL.r 1 rfl <| WL.nil <| WC.block ?_
 replace Z := Z.nil_ 23 1
 refine WC.loop [0, 2, 3, 4] (fun kM vs w => ∃ (k : Nat) (acc : List Int) (u : Option Addr) (d : Nat), vs = [.pointer (some ⟨t, 0, none⟩), .slice none 0 0, .slice u (Zg acc).length d, .int .i64 (k : Int)] ∧ St g (Zf 23 1 (Zg acc) u d :: Ze t #[.pointer (some ⟨p, 0, none⟩), .slice va (Za T.vals).length vc] 228 :: Yp p T.s :: Zf 64 1 (Za T.vals) va vc :: L) w ∧ (1 ≤ k ∧ k ≤ T.s.used.length) ∧ (acc = hup T k) ∧ (T.s.used.length - k) = kM) ((List.length T.s.used) - 1) ⟨1, [], none, 0, rfl, Z, (by omega), (Zn9 hTs.u0).symm, rfl⟩ ?_
 clear Z; rintro _ _ w j ⟨k, acc, u, d, rfl, Z, hk, ha, rfl⟩
 refine WC.seq <| WC.seq <| WC.region <| WL.run 5 [.pointer (some ⟨p, 0, none⟩)] rfl (by exact Z.ld 1 rfl rfl) ?_
 refine WL.call rfl rfl (Zek (S := T.s) (hl := (by first | assumption | exact SOk.le (by assumption))) (Z := (Z.sel 3 [2, 0, 0] rfl))) rfl ?_
 clear Z; rintro _ w ⟨rfl, Z⟩
 replace Z := Z.n4 L rfl
 refine WL.r 1 rfl <| WL.nil ?_
 as_aux_lemma =>
 refine WC.ifP rfl (fun cd1 => ?_) (fun cd1 => ?_)
 ·refine WC.skip <| WC.seq <| WC.block <| WC.seq <| WC.region ?_
  have hule := Zi9 T k; rw [← ha] at hule; have hul2 := Zz acc
  refine WL.run 6 [.pointer (some ⟨p, 0, none⟩)] rfl (by exact Z.ld 2 rfl rfl) ?_
  refine WL.nw 19 rfl (Yq (by omega)) ?_
  refine WL.call rfl rfl (Jb (S := T.s) (i := (k : Int)) (hl := (by first | assumption | exact SOk.le (by assumption))) (hi := (by omega)) (Z := Z)) rfl ?_
  clear Z; rintro _ w ⟨rfl, Z⟩
  replace Z := Z.n4 L rfl
  refine WL.nil <| WC.if_ rfl (fun cd2 => ?_) (fun cd2 => ?_)
  ·refine WC.region <| WL.r 4 rfl <| WL.nw 24 rfl (Yq (by omega)) ?_
   refine WL.call rfl rfl (hd0 (S := T.s) (va := va) (n := List.length (Za T.vals)) (vc := vc) (i := (k : Int)) (hO := (by assumption)) (hi := (by omega)) (Z := (Z.sel 3 [2, 0, 0] rfl))) rfl ?_
   clear Z; rintro _ w ⟨rfl, Z⟩
   replace Z := Z.n4 L rfl
   refine WL.lit rfl rfl (Zg [T.s.hd (k : Int)]) el_45 Z (by exact ⟨rfl, rfl⟩) (YZ _) rfl (Nat.le_of_ble_eq_true rfl) (fun b1 w Z => ?_)
   refine WL.app rfl rfl 3 (Zg (acc ++ [T.s.hd (k : Int)])) el_45 Z rfl (Z.srcO 0 rfl) (JB _ _).symm (Rm.of (by first | omega | (simp <;> omega)) (by decide)) rfl rfl (fun a1 c1 w Z => ?_)
   replace Z := Z.n5 L (a0 := Zf 23 1 (Zg [T.s.hd (k : Int)]) (some ⟨b1, 0, none⟩) (Zg [T.s.hd (k : Int)]).length) (a3 := Zf 23 1 (Zg (acc ++ [T.s.hd (k : Int)])) a1 c1) rfl
   refine WL.r 1 rfl <| WL.nil ?_
   as_aux_lemma =>
   refine WC.region <| WL.r 2 rfl <| WL.nw 13 rfl (Zr (by omega)) ?_
   refine WL.r 1 rfl <| WL.nil ?_
   exact ⟨_, by omega, k + 1, acc ++ [T.s.hd k], a1, c1, rfl, (Z.sel 4 [3, 1, 1] rfl), (by omega), (by rw [Zjt cd2, ha]), rfl⟩
  ·refine WC.skip <| WC.region <| WL.r 2 rfl <| WL.nw 13 rfl (Zr (by omega)) ?_
   refine WL.r 1 rfl <| WL.nil ?_
   exact ⟨_, by omega, k + 1, acc, u, d, rfl, (Z.sel 3 [1, 1, 0] rfl), (by omega), (by rw [Zb9 (by simpa using cd2), ha]), rfl⟩
 ·refine WC.exit <| WC.seq <| WC.region ?_
  have hke : k = T.s.used.length := by omega
  refine WL.r 2 rfl <| WL.nil <| WC.ret ?_
  replace Z := St.exClose (f := XH t T) (L := Zf 23 1 (Zg acc) u d :: L) ⟨p, va, vc⟩ ((Z.sel 4 [2, 0, 1, 0] rfl))
  replace Z := Z.n2 L (a0 := Xw t T) rfl
  refine ⟨[.slice u (Zg acc).length d], rfl, ?_⟩
  replace Z := (Z.sel 2 [1, 0] rfl)
  subst hke; subst ha; exact ⟨_, _, rfl, Z⟩
theorem Zes {g w : World} {L : List HP} (m : Nat) (Z : St g (L) w) :
  Sp Tryz.prog 78 [.map (some m)] w (fun v w' => ∃ (c : Nat), v = .func (.func 147) #[] #[.pointer (some ⟨c, 0, none⟩)] ∧ St g (Ze c #[.map (some m)] 140 :: L) w') := by
 have h := callsIn_wide.1 (AnyZI.keys_in Tryz.keysB Fence.wide 5 trivial rfl (some m) w)
 refine ⟨⟨_, _, Tryz.func78, by kernel_rfl, rfl⟩, h.mono fun e w' ⟨he, hw⟩ => ⟨_, he, ?_⟩⟩
 subst hw
 exact ⟨_, rfl, Z.new _⟩
theorem Zbj {g w : World} {L : List HP} (m c q : Nat) (rs : List RN) (ss : List Int) (ht : KOk rK RN.n rs q) (hp : ss.Perm (rs.map RN.n)) (hs : ss.Pairwise (· ≤ ·)) (Z : St g (Ze c #[.map (some m)] 140 :: Zx m (.map (mE (List.map rK rs)) q) :: L) w) :
  Sp Tryz.prog 77 [.func (.func 147) #[] #[.pointer (some ⟨c, 0, none⟩)]] w (fun v w' => ∃ (a2 : Option Addr) (c2 : Nat), v = .slice a2 (Zb ss).length c2 ∧ St g (Zf 3 1 (Zb ss) a2 c2 :: Ze c #[.map (some m)] 140 :: Zx m (.map (mE (List.map rK rs)) q) :: L) w') := by
 have hc : w.cell? ⟨c, 0, none⟩ = some (.map (some m)) := Z.ld 0 rfl rfl
 have hcl : c < w.heap.size := by
  have h1 := Z.heap 0 rfl
  exact (Array.getElem?_eq_some_iff.1 h1).1
 have hm := Z.heap 1 rfl
 obtain ⟨D, hD, hsz, hk⟩ := Zna (P := Tryz.prog) (k := 3) rs q ht Tryz.underlying3 hm
 have hseq := AnyZI.keys_gives (ρ := Tryz.keysB_ren) { Tryz.keysB with } Fence.wide 2 trivial rfl (by omega) c m 4096 D w hcl hc hD
 have h := callsIn_wide.1 (AnyZI.sorted_in Tryz.sortedA Fence.wide 5 trivial trivial trivial trivial rfl (by omega) (Tryz.sortsA _) (enters_of Tryz.func146 (by kernel_rfl) rfl) 147 #[.pointer (some ⟨c, 0, none⟩)] trivial (enters_of Tryz.func147 (by kernel_rfl) rfl) _ _ (by rw [hsz]; exact Nat.le_trans ht.num (by decide)) (by rw [hsz]; have := ht.num; omega) w hseq)
 refine ⟨⟨_, _, Tryz.func77, by kernel_rfl, rfl⟩, h.mono fun e w' ⟨v, ys, he, hys, hrow, _, hb⟩ => ⟨v, he, ?_⟩⟩
 have hpp : ss.Perm ys := hp.trans (hys.trans hk).symm
 obtain ⟨a, c2, rfl, hS2⟩ := St.of_row (Zb ss) Z hb hrow (by rw [QR hpp hs, X7]) (by simpa using hpp.length_eq) (Z9 ss)
 exact ⟨a, c2, rfl, hS2⟩
theorem QV {g w : World} {L : List HP} (s a : Nat) (V : VM) (ss : List Int) (hk : KOk rK RN.n V.rs V.q2) (hp : ss.Perm (V.rs.map RN.n)) (hs : ss.Pairwise (· ≤ ·)) (Z : St g (ZP s a V :: L) w) :
  Sp Tryz.prog 18 [.pointer (some ⟨s, 0, none⟩)] w (fun v w' => ∃ (a2 : Option Addr) (c2 : Nat), v = .slice a2 (Zb ss).length c2 ∧ St g (Zf 3 1 (Zb ss) a2 c2 :: ZP s a V :: L) w') := by
 refine Sp.enter Tryz.func18 rfl (by kernel_rfl) (by kernel_rfl) ?_
 refine WC.seq <| WC.region ?_
 obtain ⟨⟨vt, vp, vm, vr⟩, Z⟩ := St.exOpen (f := YE s a V) Z
 replace Z : St g (Ze s #[.pointer (some ⟨a, 0, none⟩), .pointer (some ⟨vt, 0, none⟩), .pointer (some ⟨vp, 0, none⟩), .map (some vr), .int .i64 V.cap] 144 :: Xw vt V.T :: Ze vp #[.int .i64 V.cap, .int .i64 V.last, .map (some vm)] 231 :: Zx vm (.map (mE (List.map vK V.xs)) V.q) :: Zn vF V.xs :: Zx vr (.map (mE (List.map rK V.rs)) V.q2) :: L) w := Z
 refine WL.r 1 rfl <| WL.nil <| WC.seq <| WC.region <| WL.run 5 [.map (some vr)] rfl (by exact Z.ld 0 rfl rfl) ?_
 refine WL.call rfl rfl (Zes (m := vr)  (Z := Z)) rfl ?_
 clear Z; rintro _ w ⟨c1, rfl, Z⟩
 replace Z := Z.n7 L (a0 := Ze c1 #[.map (some vr)] 140) rfl
 refine WL.call rfl rfl (Zbj (q := V.q2) (rs := V.rs) (ss := ss) (ht := hk) (hp := hp) (hs := hs) (Z := (Z.sel 7 [0, 5, 0, 0, 0, 0, 0] rfl))) rfl ?_
 clear Z; rintro _ w ⟨a1, c2, rfl, Z⟩
 replace Z := Z.n8 L (a0 := Zf 3 1 (Zb ss) a1 c2) rfl
 refine WL.r 1 rfl <| WL.nil <| WC.ret ?_
 replace Z := St.exClose (f := YE s a V) (L := Zf 3 1 (Zb ss) a1 c2 :: Ze c1 #[.map (some vr)] 140 :: L) ⟨vt, vp, vm, vr⟩ ((Z.sel 8 [3, 3, 3, 3, 3, 2, 0, 0] rfl))
 replace Z := Z.n3 L (a0 := ZP s a V) rfl
 refine ⟨[.slice a1 (Zb ss).length c2], rfl, ?_⟩
 replace Z := (Z.sel 3 [1, 0] rfl)
 exact ⟨_, _, rfl, Z⟩
theorem Za7 {g w : World} {L : List HP} (s a : Nat) (V : VM) (ss : List Int) (hT : TOk V.T) (hG : GI V.xs V.q V.cap V.last) (hp : ss.Perm (V.xs.map VN.n)) (hs : ss.Pairwise (· ≤ ·)) (Z : St g (ZP s a V :: L) w) :
  Sp Tryz.prog 91 [.pointer (some ⟨s, 0, none⟩)] w (fun v w' => v = .int .i64 V.room ∧ St g (ZP s a V :: L) w') := by
 refine Sp.enter Tryz.func91 rfl (by kernel_rfl) (by kernel_rfl) ?_
 refine WC.seq <| WC.region <| WL.r 1 rfl <| WL.nil <| WC.seq <| WC.plan [([0, 4, 12, 16, 1, 5, 13, 17, 2, 6, 14, 18, 3, 7, 15, 19, 8], some (9, [0, 1, 2, 3, 12, 13, 14, 15, 16, 17, 18, 19])), ([10, 11], some (20, [0, 1, 2, 3, 10, 11, 12, 13, 14, 15])), ([21, 22, 23], none)] (by kernel_rfl) (by kernel_rfl) ?_
 obtain ⟨⟨vt, vp, vm, vr⟩, Z⟩ := St.exOpen (f := YE s a V) Z
 replace Z : St g (Ze s #[.pointer (some ⟨a, 0, none⟩), .pointer (some ⟨vt, 0, none⟩), .pointer (some ⟨vp, 0, none⟩), .map (some vr), .int .i64 V.cap] 144 :: Xw vt V.T :: Ze vp #[.int .i64 V.cap, .int .i64 V.last, .map (some vm)] 231 :: Zx vm (.map (mE (List.map vK V.xs)) V.q) :: Zn vF V.xs :: Zx vr (.map (mE (List.map rK V.rs)) V.q2) :: L) w := Z
 have hsl := Zh ss; have hpl := hp.length_eq; rw [List.length_map] at hpl; have hnum := hG.ok.num; have hcp := hG.cp; have hfr := hT.s.free_rng; have hcc := hT.s.cap; have hce : V.T.s.cap = (V.T.s.used.length : Int) - 1 := rfl
 refine WQ.run 17 [.int .i64 V.cap, .int .i64 V.cap, .pointer (some ⟨vt, 0, none⟩), .pointer (some ⟨vp, 0, none⟩)] rfl (by exact ⟨Z.ld 0 rfl rfl, Z.ld 0 rfl rfl, Z.ld 0 rfl rfl, Z.ld 0 rfl rfl⟩) ?_
 refine WQ.nil ?_
 intro m1
 replace Z := Z.drewN m1; generalize hwm1 : World.drewN _ _ = w at *; clear hwm1
 refine WL.call rfl rfl (JU (cap := V.cap) (last := V.last) (xs := V.xs) (q := V.q) (ss := ss) (ht := hG.ok.toVOk) (hp := hp) (hs := hs) (Z := (Z.sel 5 [2, 2, 2, 0, 0] rfl))) rfl ?_
 clear Z; rintro _ w ⟨a1, c1, rfl, Z⟩
 replace Z := Z.n7 L (a0 := Zf 3 1 (Zb ss) a1 c1) rfl
 refine WL.nil ?_
 refine ⟨by exact ⟨RQ.pure rfl rfl rfl rfl, RQ.pure rfl rfl rfl rfl, RQ.pure rfl rfl rfl rfl, RQ.load rfl rfl rfl rfl (Z.ld 4 rfl rfl), RQ.pure rfl rfl rfl rfl, RQ.pure rfl rfl rfl rfl, RQ.pure rfl rfl rfl rfl, RQ.load rfl rfl rfl rfl (Z.ld 4 rfl rfl), RQ.pure rfl rfl rfl rfl, RQ.pure rfl rfl rfl rfl, RQ.pure rfl rfl rfl rfl, RQ.load rfl rfl rfl rfl (Z.ld 4 rfl rfl)⟩, ?_⟩
 refine WQ.r 2 rfl <| WQ.nw 14 rfl (Zr (by omega)) ?_
 refine WQ.nil ?_
 intro m2
 replace Z := Z.drewN m2; generalize hwm2 : World.drewN _ _ = w at *; clear hwm2
 refine WL.call rfl rfl (Zqh (T := V.T) (hT := hT) (Z := (Z.sel 6 [5, 0, 0, 0, 0, 0] rfl))) rfl ?_
 clear Z; rintro _ w ⟨rfl, Z⟩
 replace Z := Z.n7 L rfl
 refine WL.nil ?_
 refine ⟨by exact ⟨RQ.pure rfl rfl rfl rfl, RQ.pure rfl rfl rfl rfl, RQ.pure rfl rfl rfl rfl, RQ.load rfl rfl rfl rfl (Z.ld 5 rfl rfl), RQ.pure rfl rfl rfl rfl, RQ.pure rfl rfl rfl (congrArg (Value.int .i64) (Eq.symm (Zr (by omega)))), RQ.pure rfl rfl rfl rfl, RQ.pure rfl rfl rfl rfl, RQ.pure rfl rfl rfl rfl, RQ.load rfl rfl rfl rfl (Z.ld 5 rfl rfl)⟩, ?_⟩
 refine WQ.r 1 rfl <| WQ.nw 24 rfl (Zr (by omega)) ?_
 refine WQ.r 2 rfl <| WQ.nil ?_
 intro m3
 replace Z := Z.drewN m3; generalize hwm3 : World.drewN _ _ = w at *; clear hwm3
 as_aux_lemma =>
 refine WC.ret ?_
 replace Z := St.exClose (f := YE s a V) (L := Zf 3 1 (Zb ss) a1 c1 :: L) ⟨vt, vp, vm, vr⟩ ((Z.sel 7 [5, 0, 1, 1, 1, 1, 0] rfl))
 replace Z := Z.n2 L (a0 := ZP s a V) rfl
 refine ⟨[.int .i64 (min (V.cap - (List.length (Zb ss) : Int)) (V.cap - (V.T.s.cap - V.T.s.free)))], rfl, ?_⟩
 replace Z := (Z.sel 2 [0] rfl)
 exact ⟨by unfold VM.room; rw [hsl, hpl]; rfl, Z⟩
theorem Ze4 {g w : World} {L : List HP} (s a : Nat) (V : VM) (hT : TOk V.T) (Z : St g (ZP s a V :: L) w) :
  Sp Tryz.prog 16 [.pointer (some ⟨s, 0, none⟩)] w (fun v w' => ∃ (a2 : Option Addr) (c2 : Nat), v = .slice a2 (Zg V.T.handles).length c2 ∧ St g (Zf 23 1 (Zg V.T.handles) a2 c2 :: ZP s a V :: L) w') := by
 refine Sp.enter Tryz.func16 rfl (by kernel_rfl) (by kernel_rfl) ?_
 refine WC.seq <| WC.region ?_
 obtain ⟨⟨vt, vp, vm, vr⟩, Z⟩ := St.exOpen (f := YE s a V) Z
 replace Z : St g (Ze s #[.pointer (some ⟨a, 0, none⟩), .pointer (some ⟨vt, 0, none⟩), .pointer (some ⟨vp, 0, none⟩), .map (some vr), .int .i64 V.cap] 144 :: Xw vt V.T :: Ze vp #[.int .i64 V.cap, .int .i64 V.last, .map (some vm)] 231 :: Zx vm (.map (mE (List.map vK V.xs)) V.q) :: Zn vF V.xs :: Zx vr (.map (mE (List.map rK V.rs)) V.q2) :: L) w := Z
 refine WL.r 1 rfl <| WL.nil <| WC.seq <| WC.region <| WL.run 4 [.pointer (some ⟨vt, 0, none⟩)] rfl (by exact Z.ld 0 rfl rfl) ?_
 refine WL.call rfl rfl (Zfo (T := V.T) (hT := hT) (Z := (Z.sel 2 [1, 0] rfl))) rfl ?_
 clear Z; rintro _ w ⟨a1, c1, rfl, Z⟩
 replace Z := Z.n7 L (a0 := Zf 23 1 (Zg V.T.handles) a1 c1) rfl
 refine WL.r 1 rfl <| WL.nil <| WC.ret ?_
 replace Z := St.exClose (f := YE s a V) (L := Zf 23 1 (Zg V.T.handles) a1 c1 :: L) ⟨vt, vp, vm, vr⟩ ((Z.sel 7 [2, 1, 1, 1, 1, 1, 0] rfl))
 replace Z := Z.n2 L (a0 := ZP s a V) rfl
 refine ⟨[.slice a1 (Zg V.T.handles).length c1], rfl, ?_⟩
 replace Z := (Z.sel 2 [1, 0] rfl)
 exact ⟨_, _, rfl, Z⟩
end Go.Proofs.YtbeacjcmdijdmaaGreat
namespace Go.Proofs.YtbeacjcmdijdmaaGreat
open Go Go.V Go.RowKit
structure Com (V : VM) (root : Int) (ps : List Int) (V2 : VM) : Prop where
 ex : ∃ xs2 q, V2 = V.add xs2 q root ∧ AddP V.xs V.cap V.last ps xs2 (V.last + 1)
 e0 : YG V.xs V.cap ps = 0
theorem J2 {g w : World} {L : List HP} (s a : Nat) (V : VM) (A : AM) (R : List Int) (root : Int) (hs : List Int) (pa : Option Addr) (pc : Nat) (hV : VI V A R) (hr : root = 0 ∨ (1 ≤ root ∧ A.s.ok root = true)) (hps : ZT hs) (hop : ∀ x ∈ hs, (0 ≤ x ∧ x ≤ 18446744073709551615) ∧ V.T.s.opn x = true) (hrm : 0 < V.room) (hla : V.last < 1000000000) (hlen : R.length ≤ 900000000) (Z : St g (ZP s a V :: Zs a A :: Sh 23 1 (Zg hs) pa pc :: L) w) :
  Sp Tryz.prog 127 [.pointer (some ⟨s, 0, none⟩), .int .u32 root, .slice pa (Zg hs).length pc] w (fun v w' => ∃ (V2 : VM), v = .tuple #[.int .u64 V.T.newH, .int .i64 0] ∧ St g (ZP s a V2 :: Zs a (A.ret root) :: Sh 23 1 (Zg hs) pa pc :: L) w' ∧ (VI V2 (A.ret root) R) ∧ (Com V root (hs.map V.T.val) V2)) := by
 refine Sp.enter Tryz.func127 rfl (by kernel_rfl) (by kernel_rfl) ?_
 refine WC.seq <| WC.region ?_
 have hpl := Zz hs
 have hp2 := hps.1
 refine WL.r 2 rfl <| WL.nil <| WC.seq <| WC.seq <| WC.cut [0, 1, 2, 6, 7, 31] (fun vs w => ∃ (t31 : Bool), vs = [.pointer (some ⟨s, 0, none⟩), .int .u32 root, .slice pa (Zg hs).length pc, .int .u64 0, .int .i64 0, .bool t31] ∧ St g (ZP s a V :: Zs a A :: Sh 23 1 (Zg hs) pa pc :: L) w ∧ (t31 = false)) ?_ ?_
 ·refine WC.plan [([0, 1, 2, 3, 4, 5, 6, 7, 8, 11, 9, 12, 10, 13, 14, 15, 16], none)] (by kernel_rfl) (by kernel_rfl) ?_
  refine WQ.r 4 rfl <| WQ.reb 18 (.bool false) (congrArg Value.bool (decide_eq_false ((by omega)))) ?_
  refine WQ.ung rfl rfl rfl <| WQ.r 1 rfl <| WQ.ung rfl rfl rfl <| WQ.r 1 rfl <| WQ.ung rfl rfl rfl <| WQ.r 1 rfl <| WQ.ung rfl rfl rfl <| WQ.r 1 rfl ?_
  by_cases cg1 : (List.length (Zg hs) : Int) = 2
  ·refine WQ.reb 22 (.bool true) (congrArg Value.bool (decide_eq_true cg1)) <| WQ.ung rfl rfl rfl <| WQ.r 1 rfl <| WQ.ung rfl rfl rfl <| WQ.r 1 rfl <| WQ.ung rfl rfl rfl ?_
   obtain ⟨p0, h0⟩ : ∃ u, hs[0]? = some u := ⟨_, List.getElem?_eq_getElem (by omega)⟩; obtain ⟨p1, h1⟩ : ∃ u, hs[1]? = some u := ⟨_, List.getElem?_eq_getElem (by omega)⟩
   refine WQ.ix rfl rfl (i := 0) (0) el_45 rfl rfl (by omega) (by omega) (Z.rdS 2 rfl (Zm h0)).1 ?_
   refine WQ.ung rfl rfl rfl <| WQ.ix rfl rfl (i := 1) (1) el_45 rfl rfl (by omega) (by omega) (Z.rdS 2 rfl (Zm h1)).1 ?_
   refine WQ.ung rfl rfl rfl <| WQ.run 1 [.int .u64 p0] rfl (by exact (Z.rdS 2 rfl (Zm h0)).2 0 _ rfl) ?_
   refine WQ.ung rfl rfl rfl <| WQ.run 1 [.int .u64 p1] rfl (by exact (Z.rdS 2 rfl (Zm h1)).2 0 _ rfl) ?_
   refine WQ.ung rfl rfl rfl <| WQ.r 1 rfl <| WQ.ung rfl rfl rfl <| WQ.r 2 rfl <| WQ.nil ?_
   intro m1
   replace Z := Z.drewN m1; generalize hwm1 : World.drewN _ _ = w at *; clear hwm1
   exact ⟨decide (p0 = p1), rfl, Z, (decide_eq_false (YV hps h0 h1))⟩
  ·refine WQ.reb 22 (.bool false) (congrArg Value.bool (decide_eq_false cg1)) <| WQ.skp rfl rfl rfl rfl <| WQ.skp rfl rfl rfl rfl <| WQ.skp rfl rfl rfl rfl <| WQ.skp rfl rfl rfl rfl <| WQ.skp rfl rfl rfl rfl <| WQ.skp rfl rfl rfl rfl <| WQ.skp rfl rfl rfl rfl <| WQ.ung rfl rfl rfl <| WQ.r 2 rfl <| WQ.nil ?_
   intro m1
   replace Z := Z.drewN m1; generalize hwm1 : World.drewN _ _ = w at *; clear hwm1
   exact ⟨false, rfl, Z, (rfl)⟩
 clear Z; rintro _ w j ⟨t31, rfl, Z, h31⟩
 refine WC.ifF rfl h31 <| WC.skip <| WC.seq <| WC.region <| WL.r 1 rfl <| WL.nil <| WC.seq <| WC.seq <| WC.region <| WL.r 3 rfl <| WL.nil <| WC.block ?_
 replace Z := Z.nil_ 3 1
 refine WC.loop [0, 1, 8, 32, 33, 34] (fun kM vs w => ∃ (k : Nat) (acc : List Int) (u : Option Addr) (d : Nat), vs = [.pointer (some ⟨s, 0, none⟩), .int .u32 root, .slice u (Zb acc).length d, .slice pa (Zg hs).length pc, .int .i64 (List.length (Zg hs) : Int), .int .i64 (k : Int)] ∧ St g (Zf 3 1 (Zb acc) u d :: ZP s a V :: Zs a A :: Sh 23 1 (Zg hs) pa pc :: L) w ∧ (k ≤ hs.length) ∧ (acc = (List.take k hs).map V.T.val) ∧ (hs.length - k) = kM) ((List.length hs) - 0) ⟨0, [], none, 0, rfl, Z, (Nat.zero_le _), (rfl), rfl⟩ ?_
 clear Z; rintro _ _ w j ⟨k, acc, u, d, rfl, Z, hk, ha, rfl⟩
 refine WC.seq <| WC.region <| WL.r 1 rfl <| WL.nil ?_
 as_aux_lemma =>
 refine WC.seq <| WC.ifP rfl (fun cd1 => ?_) (fun cd1 => ?_)
 ·refine WC.skip <| WC.seq <| WC.block <| WC.seq <| WC.region ?_
  obtain ⟨z, hz⟩ : ∃ u, hs[k]? = some u := ⟨_, List.getElem?_eq_getElem (by omega)⟩; have hzo := hop z (List.mem_of_getElem? hz); have hacl := Zh acc; have hacl2 : acc.length = k := (by rw [ha, List.length_map, List.length_take]; omega)
  refine WL.ix rfl rfl (i := (k : Int)) (k) el_45 rfl rfl (by omega) (by omega) (Z.rdS 3 rfl (Zm hz)).1 ?_
  refine WL.run 2 [.int .u64 z] rfl (by exact (Z.rdS 3 rfl (Zm hz)).2 0 _ rfl) ?_
  refine WL.nil <| WC.seq <| WC.region <| WL.r 2 rfl <| WL.call rfl rfl (XW (h := z) (hT := hV.t) (hh := hzo.1) (hn := hzo.2) (Z := (Z.sel 2 [1, 0] rfl))) rfl ?_
  clear Z; rintro _ w ⟨rfl, Z⟩
  replace Z := Z.n4 L rfl
  refine WL.r 5 rfl <| WL.nil <| WC.seq <| WC.seq <| WC.region <| WL.r 2 rfl <| WL.nil <| WC.ifF rfl (decide_eq_false ((by decide))) ?_
  refine WC.skip ?_
  as_aux_lemma =>
  refine WC.region <| WL.r 2 rfl <| WL.lit rfl rfl (Zb [V.T.val z]) el_56 Z (by exact ⟨rfl, rfl⟩) (Z9 _) rfl (Nat.le_of_ble_eq_true rfl) (fun b1 w Z => ?_)
  refine WL.app rfl rfl 2 (Zb (acc ++ [V.T.val z])) el_56 Z rfl (Z.srcO 0 rfl) (Yx _ _).symm (Rm.of (by first | omega | (simp <;> omega)) (by decide)) rfl rfl (fun a1 c1 w Z => ?_)
  replace Z := Z.n5 L (a0 := Zf 3 1 (Zb [V.T.val z]) (some ⟨b1, 0, none⟩) (Zb [V.T.val z]).length) (a2 := Zf 3 1 (Zb (acc ++ [V.T.val z])) a1 c1) rfl
  refine WL.r 1 rfl <| WL.nil <| WC.region <| WL.r 1 rfl <| WL.nw 51 rfl (Zr (by omega)) ?_
  refine WL.r 1 rfl <| WL.nil ?_
  exact ⟨_, by omega, k + 1, acc ++ [V.T.val z], a1, c1, rfl, (Z.sel 3 [2, 1] rfl), (by omega), (by rw [ha, List.take_add_one, hz]; simp), rfl⟩
 ·refine WC.exit <| WC.seq <| WC.seq <| WC.region ?_
  have hke : acc = hs.map V.T.val := (by rw [ha, List.take_of_length_le (by omega)]); obtain ⟨ss, hK⟩ := JF hV.g.ok.uniq
  refine WL.r 1 rfl <| WL.call rfl rfl (Za7 (ss := ss) (hT := hV.t) (hG := hV.g) (hp := hK.perm) (hs := hK.le) (Z := (Z.sel 2 [1, 0] rfl))) rfl ?_
  clear Z; rintro _ w ⟨rfl, Z⟩
  replace Z := Z.n4 L rfl
  refine WL.r 1 rfl <| WL.nil <| WC.ifF rfl (decide_eq_false ((by omega))) ?_
  refine WC.skip <| WC.seq <| WC.region ?_
  obtain ⟨⟨vt, vp, vm, vr⟩, Z⟩ := St.exOpen (f := YE s a V) Z
  replace Z := Z.n9 L (a0 := Ze s #[.pointer (some ⟨a, 0, none⟩), .pointer (some ⟨vt, 0, none⟩), .pointer (some ⟨vp, 0, none⟩), .map (some vr), .int .i64 V.cap] 144) (a1 := Xw vt V.T) (a2 := Ze vp #[.int .i64 V.cap, .int .i64 V.last, .map (some vm)] 231) (a3 := Zx vm (.map (mE (List.map vK V.xs)) V.q)) (a4 := Zn vF V.xs) (a5 := Zx vr (.map (mE (List.map rK V.rs)) V.q2)) rfl
  refine WL.run 6 [.pointer (some ⟨vp, 0, none⟩)] rfl (by exact Z.ld 0 rfl rfl) ?_
  replace Z := (Z.at_ 6 rfl).share
  replace Z := Z.n9 L (a0 := Sh 3 1 (Zb acc) u d) rfl
  refine WL.call rfl rfl (Zj0 (cap := V.cap) (last := V.last) (xs := V.xs) (q := V.q) (hI := hV.g) (hla := hla) (Z := (Z.sel 6 [0, 2, 2, 2, 0, 0] rfl))) rfl ?_
  clear Z; rintro _ w ⟨xs1, q1, last1, rfl, Z, f1, f2⟩
  replace Z := Z.n9 L (a1 := Ze vp #[.int .i64 V.cap, .int .i64 last1, .map (some vm)] 231) (a2 := Zx vm (.map (mE (List.map vK xs1)) q1)) (a3 := Zn vF xs1) rfl
  refine WL.r 5 rfl <| WL.nil ?_
  as_aux_lemma =>
  refine WC.seq <| WC.seq <| WC.region ?_
  have he0 := Zhb hV hps (fun x hx => (hop x hx).2) hrm; rw [← hke] at he0
  refine WL.r 2 rfl <| WL.nil <| WC.ifF rfl (decide_eq_false ((by rw [he0]; decide))) ?_
  refine WC.skip <| WC.seq <| WC.region ?_
  rw [hke] at he0 f2; obtain ⟨_, rfl, _⟩ := (AddP.facts hV.g.le f2).resolve_left (fun e => e.1 he0); have hv0 : Zel V.xs V.cap V.last acc = V.last + 1 := (by unfold Zel; rw [hke, if_pos he0]); have hfr := (JJ hV hrm).2; have hla0 := hV.g.la; have hV2 := hV.add hr he0 f2 f1 hfr hla hlen
  refine WL.reb 13 (.int .i64 (V.last + 1)) (congrArg (Value.int .i64) hv0) <| WL.run 5 [.pointer (some ⟨a, 0, none⟩)] rfl (by exact Z.ld 4 rfl rfl) ?_
  refine WL.call rfl rfl (Xp (i := root) (hA := hV.ref.toAWf) (hi := (by have := Zfe hV.ref.toAWf hr; omega)) (Z := (Z.sel 8 [7, 0, 0, 0, 0, 0, 0, 0] rfl))) rfl ?_
  clear Z; rintro _ w ⟨rfl, Z⟩
  replace Z := Z.n9 L (a0 := Zs a (A.ret root)) (a2 := Ze vp #[.int .i64 V.cap, .int .i64 (V.last + 1), .map (some vm)] 231) rfl
  refine WL.nil <| WC.seq <| WC.region <| WL.run 7 [.map (some vr)] rfl (by exact Z.ld 5 rfl rfl) ?_
  refine WL.muN rfl rfl rfl QM 7 Z rfl rfl rfl rfl (by first | trivial | rfl) (Zqb (f := rK) hV.k.key (fun x hx e => by have h9 := (AddP.facts hV.g.le f2).resolve_left (fun e => e.1 he0); have h8 := (hV.pre x.n).1 ⟨x, hx, rfl⟩; rw [e, h9.2.2.1] at h8; cases h8)) (fun w Z => ?_)
  replace Z := Z.n9 L (a7 := Zx vr (.map (mE ((List.map rK V.rs) ++ [⟨.int .i64 (V.last + 1), .int .u32 root, V.q2⟩])) (V.q2 + 1))) rfl
  refine WL.nil <| WC.seq <| WC.region <| WL.run 6 [.pointer (some ⟨vt, 0, none⟩)] rfl (by exact Z.ld 5 rfl rfl) ?_
  refine WL.nw 86 rfl (Yq (by omega)) ?_
  refine WL.call rfl rfl (Zei (T := V.T) (y := V.last + 1) (hT := hV.t) (hf := hfr) (Z := (Z.sel 7 [6, 0, 0, 0, 0, 0, 0] rfl))) rfl ?_
  clear Z; rintro _ w ⟨rfl, Z⟩
  replace Z := Z.n9 L (a0 := Xw vt (V.T.open (V.last + 1))) rfl
  refine WL.r 4 rfl <| WL.nil ?_
  as_aux_lemma =>
  refine WC.ret ?_
  replace Z := St.exClose (f := YE s a (V.add xs1 q1 root)) (L := Zs a (A.ret root) :: Sh 3 1 (Zb acc) u d :: Sh 23 1 (Zg hs) pa pc :: L) ⟨vt, vp, vm, vr⟩ (by
   have hm : List.map rK V.rs ++ [(.int .i64 (V.last + 1), .int .u32 root, V.q2)] = List.map rK (V.add xs1 q1 root).rs := by simp [rK, VM.add]
   rw [hm] at Z
   exact (Z.sel 8 [6, 0, 2, 2, 2, 2, 0, 0] rfl))
  replace Z := Z.n4 L (a0 := ZP s a (V.add xs1 q1 root)) rfl
  refine ⟨[.int .u64 V.T.newH, .int .i64 0], ⟨rfl, rfl⟩, ?_⟩
  replace Z := (Z.sel 3 [0, 0] rfl)
  exact ⟨_, rfl, Z, hV2, ⟨xs1, q1, rfl, f2⟩, he0⟩
theorem Zjj : ZT [] := ⟨by simp, fun _ _ h => by cases h⟩
theorem QP (x : Int) : ZT [x] := ⟨by simp, fun _ _ h => by cases h⟩
theorem Zhn {g w : World} {L : List HP} (s a : Nat) (V : VM) (A : AM) (R : List Int) (hV : VI V A R) (hrm : 0 < V.room) (hla : V.last < 1000000000) (hlen : R.length ≤ 900000000) (Z : St g (ZP s a V :: Zs a A :: L) w) :
  Sp Tryz.prog 53 [.pointer (some ⟨s, 0, none⟩)] w (fun v w' => ∃ (V2 : VM), v = .tuple #[.int .u64 V.T.newH, .int .i64 0] ∧ St g (ZP s a V2 :: Zs a A :: L) w' ∧ (VI V2 A R) ∧ (Com V 0 [] V2)) := by
 refine Sp.enter Tryz.func53 rfl (by kernel_rfl) (by kernel_rfl) ?_
 refine WC.seq <| WC.region <| WL.r 2 rfl <| WL.nil <| WC.seq <| WC.region <| WL.r 1 rfl ?_
 replace Z := Z.nilS 23 1
 replace Z := Z.n3 L (a0 := Sh 23 1 (Zg []) none 0) rfl
 refine WL.call rfl rfl (J2 (R := R) (root := 0) (hs := []) (hV := hV) (hr := (.inl rfl)) (hps := Zjj) (hop := (fun _ h => by cases h)) (hrm := hrm) (hla := hla) (hlen := hlen) (Z := (Z.sel 3 [1, 1, 0] rfl))) rfl ?_
 clear Z; rintro _ w ⟨V1, rfl, Z, f1, f2⟩
 replace Z := Z.n3 L (a0 := ZP s a V1) (a1 := Zs a (A.ret 0)) rfl
 refine WL.r 4 rfl <| WL.nil <| WC.ret ?_
 refine ⟨[.int .u64 V.T.newH, .int .i64 0], ⟨rfl, rfl⟩, ?_⟩
 replace Z := (Z.sel 3 [0, 0] rfl)
 exact ⟨_, rfl, Z, f1, f2⟩
theorem Zca {g w : World} {L : List HP} (s a : Nat) (V : VM) (A : AM) (R : List Int) (h : Int) (hV : VI V A R) (hh : 0 ≤ h ∧ h ≤ 18446744073709551615) (hn : V.T.s.opn h = true) (hrm : 0 < V.room) (hla : V.last < 1000000000) (hlen : R.length ≤ 900000000) (Z : St g (ZP s a V :: Zs a A :: L) w) :
  Sp Tryz.prog 54 [.pointer (some ⟨s, 0, none⟩), .int .u64 h] w (fun v w' => ∃ (V2 : VM), v = .tuple #[.int .u64 V.T.newH, .int .i64 0] ∧ St g (ZP s a V2 :: Zs a (A.ret (V.rootOf (V.T.val h))) :: L) w' ∧ (VI V2 (A.ret (V.rootOf (V.T.val h))) R) ∧ (Com V (V.rootOf (V.T.val h)) [V.T.val h] V2)) := by
 refine Sp.enter Tryz.func54 rfl (by kernel_rfl) (by kernel_rfl) ?_
 refine WC.seq <| WC.region <| WL.r 2 rfl <| WL.nil <| WC.seq <| WC.region <| WL.r 2 rfl <| WL.call rfl rfl (Jr (A := A) (R := R) (h := h) (hV := hV) (hh := hh) (hn := hn) (Z := Z)) rfl ?_
 clear Z; rintro _ w ⟨rfl, Z⟩
 replace Z := Z.n2 L rfl
 refine WL.r 5 rfl <| WL.nil <| WC.seq <| WC.seq <| WC.region <| WL.r 2 rfl <| WL.nil <| WC.ifF rfl (decide_eq_false ((by decide))) ?_
 refine WC.skip <| WC.seq <| WC.region <| WL.r 3 rfl <| WL.lit rfl rfl (Zg [h]) el_45 Z (by exact ⟨rfl, rfl⟩) (YZ _) rfl (Nat.le_of_ble_eq_true rfl) (fun b1 w Z => ?_)
 replace Z := (Z.at_ 0 rfl).share
 replace Z := Z.n3 L (a0 := Sh 23 1 (Zg [h]) (some ⟨b1, 0, none⟩) (Zg [h]).length) rfl
 refine WL.call rfl rfl (J2 (R := R) (root := V.rootOf (V.T.val h)) (hs := [h]) (pa := some ⟨b1, 0, none⟩) (pc := List.length (Zg [h])) (hV := hV) (hr := (Zf0 hV hn)) (hps := QP h) (hop := (fun x hx => by rw [List.mem_singleton.1 hx]; exact ⟨hh, hn⟩)) (hrm := hrm) (hla := hla) (hlen := hlen) (Z := (Z.sel 3 [1, 1, 0] rfl))) rfl ?_
 clear Z; rintro _ w ⟨V1, rfl, Z, f1, f2⟩
 replace Z := Z.n3 L (a0 := ZP s a V1) (a1 := Zs a (A.ret (V.rootOf (V.T.val h)))) rfl
 refine WL.r 4 rfl <| WL.nil ?_
 as_aux_lemma =>
 refine WC.ret ?_
 refine ⟨[.int .u64 V.T.newH, .int .i64 0], ⟨rfl, rfl⟩, ?_⟩
 replace Z := (Z.sel 3 [0, 0] rfl)
 exact ⟨_, rfl, Z, f1, f2⟩
end Go.Proofs.YtbeacjcmdijdmaaGreat
namespace Go.Proofs.YtbeacjcmdijdmaaGreat
open Go Go.V Go.RowKit
structure Kept0 (V : VM) (xs2 : List VN) (ss : List Int) (k : Nat) (rs : List RN) : Prop where
 ok : KOk rK RN.n rs V.q2
 mem : ∀ r, r ∈ rs ↔ r ∈ V.rs ∧ (r.n ∈ ss.take k → ZF xs2 r.n = true)
theorem Kept0.zero {V : VM} {A : AM} {R : List Int} (h : VI V A R) (xs2 : List VN) (ss : List Int) : Kept0 V xs2 ss 0 V.rs := ⟨h.k, fun r => by simp⟩
theorem Kept0.skip {V : VM} {xs2 : List VN} {ss : List Int} {k : Nat} {rs : List RN} {n : Int} (h : Kept0 V xs2 ss k rs) (hn : ss[k]? = some n) (hp : ZF xs2 n = true) : Kept0 V xs2 ss (k + 1) rs := ⟨h.ok, fun r => by
 rw [h.mem r, List.take_add_one, hn]
 constructor
 ·rintro ⟨h1, h2⟩
  refine ⟨h1, fun h3 => ?_⟩
  rcases List.mem_append.1 h3 with h3 | h3
  ·exact h2 h3
  ·rw [show r.n = n by simpa using h3]; exact hp
 ·rintro ⟨h1, h2⟩; exact ⟨h1, fun h3 => h2 (List.mem_append_left _ h3)⟩⟩
theorem Kept0.at_ {V : VM} {xs2 : List VN} {ss : List Int} {k : Nat} {rs : List RN} {n : Int} (h : Kept0 V xs2 ss k rs) (hn : ss[k]? = some n) (hs : Asc ss) (hk : ∀ z, z ∈ ss ↔ ∃ r ∈ V.rs, r.n = z) : ∃ (j : Nat) (r : RN), rs[j]? = some r ∧ r.n = n := by
 obtain ⟨r, hr, hrn⟩ := (hk n).1 (List.mem_of_getElem? hn)
 have : r ∈ rs := (h.mem r).2 ⟨hr, fun h3 => by
  have := Za5 hs hn r.n h3
  omega⟩
 obtain ⟨j, hj⟩ := List.mem_iff_getElem?.1 this
 exact ⟨j, r, hj, hrn⟩
theorem Kept0.del {V : VM} {xs2 : List VN} {ss : List Int} {k j : Nat} {rs : List RN} {n : Int} {r : RN} (h : Kept0 V xs2 ss k rs) (hn : ss[k]? = some n) (hj : rs[j]? = some r) (hr : r.n = n) (hp : ZF xs2 n = false) : Kept0 V xs2 ss (k + 1) (rs.eraseIdx j) := ⟨h.ok.erase j, fun x => by
 rw [Jm h.ok.uniq hj x, h.mem x, List.take_add_one, hn, hr]
 constructor
 ·rintro ⟨⟨h1, h2⟩, h3⟩
  refine ⟨h1, fun h4 => ?_⟩
  rcases List.mem_append.1 h4 with h4 | h4
  ·exact h2 h4
  ·exact absurd (show x.n = n by simpa using h4) h3
 ·rintro ⟨h1, h2⟩
  refine ⟨⟨h1, fun h3 => h2 (List.mem_append_left _ h3)⟩, fun e => ?_⟩
  have := h2 (List.mem_append_right _ (by simp [e]))
  rw [e, hp] at this; cases this⟩
theorem QE {rs : List RN} {j : Nat} {r : RN} (hj : rs[j]? = some r) (R : List Int) : (rs.map RN.root ++ R).Perm (r.root :: ((rs.eraseIdx j).map RN.root ++ R)) := by
 have h1 : rs.Perm (r :: rs.eraseIdx j) := by
  induction rs generalizing j with
  | nil => simp at hj
  | cons x t ih =>
   cases j with
   | zero => simp at hj; subst hj; exact List.Perm.refl _
   | succ j =>
    rw [List.getElem?_cons_succ] at hj
    rw [List.eraseIdx_cons_succ]
    exact (List.Perm.cons x (ih hj)).trans (List.Perm.swap _ _ _)
 have h2 := (h1.map RN.root).append_right R
 simpa using h2
structure Rls (V : VM) (h : Int) (V2 : VM) : Prop where
 eq : V2 = VM.mk (V.T.close h) V2.xs V.q V.last V2.rs V.q2 V.cap
 rel : RelQ V.xs (V.T.val h) V2.xs
 sub : ∀ r, r ∈ V2.rs ↔ r ∈ V.rs ∧ ZF V2.xs r.n = true
theorem VI.rel {V : VM} {A A2 : AM} {R : List Int} {h : Int} {xs2 : List VN} {rs : List RN} {ss : List Int} (hV : VI V A R) (hn : V.T.s.opn h = true) (hG : GI xs2 V.q V.cap V.last) (hR : RelQ V.xs (V.T.val h) xs2) (hK : Kept0 V xs2 ss ss.length rs) (hk : ∀ z, z ∈ ss ↔ ∃ r ∈ V.rs, r.n = z)
  (hA : ARf A2 (rs.map RN.root ++ R)) : VI (VM.mk (V.T.close h) xs2 V.q V.last rs V.q2 V.cap) A2 R ∧ Rls V h (VM.mk (V.T.close h) xs2 V.q V.last rs V.q2 V.cap) := by
 have hop := SM.opn_ok hn
 have hlv0 := (VM.open_val hV hn).1
 have hsub : ∀ r, r ∈ rs ↔ r ∈ V.rs ∧ ZF xs2 r.n = true := fun r => by
  rw [hK.mem r, List.take_of_length_le (Nat.le_refl _)]
  constructor
  ·rintro ⟨h1, h2⟩; exact ⟨h1, h2 ((hk r.n).2 ⟨r, h1, rfl⟩)⟩
  ·rintro ⟨h1, h2⟩; exact ⟨h1, fun _ => h2⟩
 have hcl : ∀ i : Int, 0 ≤ i → (V.T.close h).s.ok i = if i = h % 4294967296 then false else V.T.s.ok i := fun i hi => SM.release_ok' hV.t.s (by omega) hop.1 hi
 have hlive : ∀ z, Zj xs2 z = true ↔ Zj V.xs z = true ∧ z ≠ V.T.val h := fun z => by
  constructor
  ·exact fun hz => RelQ.live hV.g.ok hR hz
  ·rintro ⟨h1, h2⟩
   rcases hR with ⟨_, xs1, N, e1, e2, e3⟩ | ⟨h3, _⟩
   ·have q1 : Zj xs1 z = true := by
     rw [ZH, e1]; unfold dead; rw [if_neg h2, ← ZH]; exact h1
    rw [ZH, e3]; unfold keep; rw [if_pos ((e2 z).2 (.inl q1))]
    rw [ZH] at q1
    cases hv : vw xs1 z with
    | none => rw [hv] at q1; cases q1
    | some p => rw [hv] at q1; simpa using q1
   ·rw [hlv0] at h3; cases h3
 have hpre : ∀ z, ZF xs2 z = true → ZF V.xs z = true := fun z hz => by
  rcases hR with ⟨_, xs1, N, e1, e2, e3⟩ | ⟨_, h4⟩
  ·rw [ZX, e3] at hz
   unfold keep at hz
   split at hz
   ·rw [ZX]
    rw [← Xm (vw V.xs) (V.T.val h) z, ← e1]
    simpa using hz
   ·cases hz
  ·rw [h4] at hz; exact hz
 refine ⟨⟨hV.t.close hn, hG, hK.ok, fun z => ?_, fun i hi ho => ?_, fun i j hi hj ho ho2 e => ?_, fun z hz => ?_, hA, ?_⟩, ⟨rfl, hR, hsub⟩⟩
 ·constructor
  ·rintro ⟨r, hr, e⟩; rw [← e]; exact ((hsub r).1 hr).2
  ·intro hz
   obtain ⟨r, hr, e⟩ := (hV.pre z).2 (hpre z hz)
   exact ⟨r, (hsub r).2 ⟨hr, by rw [e]; exact hz⟩, e⟩
 ·rw [show (VM.mk (V.T.close h) xs2 V.q V.last rs V.q2 V.cap).T.s.ok i = _ from hcl i hi] at ho
  split at ho
  ·cases ho
  ·rename_i hne
   refine (hlive _).2 ⟨hV.lv i hi ho, fun e => hne ?_⟩
   exact hV.inj i (h % 4294967296) hi (by omega) ho hop.1 e
 ·rw [show (VM.mk (V.T.close h) xs2 V.q V.last rs V.q2 V.cap).T.s.ok i = _ from hcl i hi] at ho
  rw [show (VM.mk (V.T.close h) xs2 V.q V.last rs V.q2 V.cap).T.s.ok j = _ from hcl j hj] at ho2
  split at ho
  ·cases ho
  ·split at ho2
   ·cases ho2
   ·exact hV.inj i j hi hj ho ho2 e
 ·obtain ⟨h1, h2⟩ := (hlive z).1 hz
  obtain ⟨i, i0, i1, i2⟩ := hV.all z h1
  refine ⟨i, i0, ?_, i2⟩
  rw [show (VM.mk (V.T.close h) xs2 V.q V.last rs V.q2 V.cap).T.s.ok i = _ from hcl i i0, if_neg (fun e => h2 ?_)]
  ·exact i1
  ·rw [← i2, e]; rfl
 ·rw [← hV.cp]
  show (((V.T.s.used.set _ _).length : Nat) : Int) - 1 = (V.T.s.used.length : Int) - 1
  rw [List.length_set]
set_option maxHeartbeats 1000000 in
theorem Jo {g w : World} {L : List HP} (s a : Nat) (V : VM) (A : AM) (R : List Int) (h : Int) (hV : VI V A R) (hh : 0 ≤ h ∧ h ≤ 18446744073709551615) (hn : V.T.s.opn h = true) (hlen : R.length ≤ 800000000) (Z : St g (ZP s a V :: Zs a A :: L) w) :
  Sp Tryz.prog 17 [.pointer (some ⟨s, 0, none⟩), .int .u64 h] w (fun v w' => ∃ (V2 : VM) (A2 : AM) (f : Int), v = .tuple #[.int .i64 f, .int .i64 0] ∧ St g (ZP s a V2 :: Zs a A2 :: L) w' ∧ (VI V2 A2 R) ∧ (Rls V h V2) ∧ (f = A2.s.free - A.s.free ∧ A2.s.used.length = A.s.used.length) ∧ (Kp A A2 (V2.rs.map RN.root ++ R))) := by
 refine Sp.enter Tryz.func17 rfl (by kernel_rfl) (by kernel_rfl) ?_
 have _ := hlen
 refine WC.seq <| WC.region ?_
 obtain ⟨⟨vt, vp, vm, vr⟩, Z⟩ := St.exOpen (f := YE s a V) Z
 replace Z := Z.n7 L (a0 := Ze s #[.pointer (some ⟨a, 0, none⟩), .pointer (some ⟨vt, 0, none⟩), .pointer (some ⟨vp, 0, none⟩), .map (some vr), .int .i64 V.cap] 144) (a1 := Xw vt V.T) (a2 := Ze vp #[.int .i64 V.cap, .int .i64 V.last, .map (some vm)] 231) (a3 := Zx vm (.map (mE (List.map vK V.xs)) V.q)) (a4 := Zn vF V.xs) (a5 := Zx vr (.map (mE (List.map rK V.rs)) V.q2)) rfl
 refine WL.r 2 rfl <| WL.nil <| WC.seq <| WC.region <| WL.run 5 [.pointer (some ⟨vt, 0, none⟩)] rfl (by exact Z.ld 0 rfl rfl) ?_
 refine WL.call rfl rfl (Zc5 (T := V.T) (h := h) (hT := hV.t) (hh := hh) (hn := hn) (Z := (Z.sel 2 [1, 0] rfl))) rfl ?_
 clear Z; rintro _ w ⟨rfl, Z⟩
 replace Z := Z.n7 L (a0 := Xw vt (V.T.close h)) rfl
 refine WL.r 5 rfl <| WL.nil <| WC.seq <| WC.seq <| WC.region <| WL.r 2 rfl <| WL.nil <| WC.ifF rfl (decide_eq_false ((by decide))) ?_
 refine WC.skip <| WC.seq <| WC.region ?_
 have hvr := hV.t.val_rng h
 refine WL.run 7 [.pointer (some ⟨vp, 0, none⟩)] rfl (by exact Z.ld 1 rfl rfl) ?_
 refine WL.nw 31 rfl (Zr (by omega)) ?_
 refine WL.call rfl rfl (Zjh (cap := V.cap) (last := V.last) (xs := V.xs) (q := V.q) (n := V.T.val h) (hI := hV.g) (Z := (Z.sel 5 [2, 2, 2, 0, 0] rfl))) rfl ?_
 clear Z; rintro _ w ⟨xs1, rfl, Z, f1, f2⟩
 replace Z := Z.n7 L (a1 := Zx vm (.map (mE (List.map vK xs1)) V.q)) (a2 := Zn vF xs1) rfl
 refine WL.nil ?_
 as_aux_lemma =>
 refine WC.seq <| WC.region ?_
 have hru := Zbx hV; have hgn := hV.g.ok.num; obtain ⟨ss, hss1, hss2, hss3⟩ := Q1 hV.k; have hssl : ss.length = V.rs.length := (by rw [hss1.length_eq, List.length_map]); have hsl := Zh ss
 replace Z := St.exClose (f := YE s a (VM.mk (V.T.close h) xs1 V.q V.last V.rs V.q2 V.cap)) (L := Zs a A :: L) ⟨vt, vp, vm, vr⟩ ((Z.sel 5 [4, 3, 0, 0, 0] rfl))
 replace Z := Z.n2 L (a0 := ZP s a (VM.mk (V.T.close h) xs1 V.q V.last V.rs V.q2 V.cap)) rfl
 refine WL.r 1 rfl <| WL.nil <| WC.seq <| WC.seq <| WC.region <| WL.r 1 rfl <| WL.call rfl rfl (QV (V := VM.mk (V.T.close h) xs1 V.q V.last V.rs V.q2 V.cap) (ss := ss) (hk := hV.k) (hp := hss1) (hs := hss2.imp (fun h => by omega)) (Z := Z)) rfl ?_
 clear Z; rintro _ w ⟨a1, c1, rfl, Z⟩
 replace Z := Z.n3 L (a0 := Zf 3 1 (Zb ss) a1 c1) rfl
 refine WL.r 2 rfl <| WL.nil <| WC.block <| WC.loop [0, 4, 5, 8, 34, 35, 36] (fun kM vs w => ∃ (k : Nat) (rs : List RN) (B : AM) (fr : Int), vs = [.pointer (some ⟨s, 0, none⟩), .int .i64 0, .int .i64 0, .int .i64 fr, .slice a1 (Zb ss).length c1, .int .i64 (List.length (Zb ss) : Int), .int .i64 (k : Int)] ∧ St g (Zf 3 1 (Zb ss) a1 c1 :: ZP s a (VM.mk (V.T.close h) xs1 V.q V.last rs V.q2 V.cap) :: Zs a B :: L) w ∧ (k ≤ ss.length) ∧ (Kept0 V xs1 ss k rs) ∧ (ARf B (rs.map RN.root ++ R)) ∧ (Kp A B (rs.map RN.root ++ R)) ∧ (fr = B.s.free - A.s.free) ∧ (B.s.used.length = A.s.used.length) ∧ (ss.length - k) = kM) ((List.length ss) - 0) ⟨0, V.rs, A, 0, rfl, Z, (Nat.zero_le _), (Kept0.zero hV xs1 ss), (hV.ref), (Kp.refl _ _), (by omega), (rfl), rfl⟩ ?_
 clear Z; rintro _ _ w j ⟨k, rs, B, fr, rfl, Z, hk, hK, hB, hP, hf, hu, rfl⟩
 refine WC.seq <| WC.region <| WL.r 1 rfl <| WL.nil <| WC.seq <| WC.ifP rfl (fun cd1 => ?_) (fun cd1 => ?_)
 ·refine WC.skip ?_
  as_aux_lemma =>
  refine WC.seq <| WC.block <| WC.seq <| WC.region ?_
  obtain ⟨z, hz⟩ : ∃ u, ss[k]? = some u := ⟨_, List.getElem?_eq_getElem (by omega)⟩; obtain ⟨j, r, hj, hrn⟩ := hK.at_ hz hss2 hss3; have hfB := hB.s.free_rng; have hfA := hV.ref.s.free_rng; have hrsl := hK.ok.num
  refine WL.ix rfl rfl (i := (k : Int)) (k) el_56 rfl rfl (by omega) (by omega) (Z.rdO 0 rfl (Zd hz)).1 ?_
  refine WL.run 2 [.int .i64 z] rfl (by exact (Z.rdO 0 rfl (Zd hz)).2 0 _ rfl) ?_
  refine WL.nil <| WC.seq <| WC.seq <| WC.region ?_
  obtain ⟨⟨vt, vp, vm, vr⟩, Z⟩ := St.exOpen (f := YE s a (VM.mk (V.T.close h) xs1 V.q V.last rs V.q2 V.cap)) (Z.at_ 1 rfl)
  replace Z := Z.n8 L (a0 := Ze s #[.pointer (some ⟨a, 0, none⟩), .pointer (some ⟨vt, 0, none⟩), .pointer (some ⟨vp, 0, none⟩), .map (some vr), .int .i64 V.cap] 144) (a1 := Xw vt (V.T.close h)) (a2 := Ze vp #[.int .i64 V.cap, .int .i64 V.last, .map (some vm)] 231) (a3 := Zx vm (.map (mE (List.map vK xs1)) V.q)) (a4 := Zn vF xs1) (a5 := Zx vr (.map (mE (List.map rK rs)) V.q2)) rfl
  refine WL.run 6 [.pointer (some ⟨vp, 0, none⟩)] rfl (by exact Z.ld 0 rfl rfl) ?_
  refine WL.call rfl rfl (Zif (cap := V.cap) (last := V.last) (q := V.q) (n := z) (hu := f1.ok.uniq) (Z := (Z.sel 5 [2, 2, 2, 0, 0] rfl))) rfl ?_
  clear Z; rintro _ w ⟨rfl, Z⟩
  replace Z := Z.n8 L rfl
  refine WL.nil <| WC.if_ rfl (fun cd2 => ?_) (fun cd2 => ?_)
  ·refine WC.exit <| WC.region <| WL.r 1 rfl <| WL.nw 71 rfl (Zr (by omega)) ?_
   refine WL.r 1 rfl <| WL.nil ?_
   replace Z := St.exClose (f := YE s a (VM.mk (V.T.close h) xs1 V.q V.last rs V.q2 V.cap)) (L := Zf 3 1 (Zb ss) a1 c1 :: Zs a B :: L) ⟨vt, vp, vm, vr⟩ ((Z.sel 5 [3, 3, 0, 0, 0] rfl))
   replace Z := Z.n3 L (a0 := ZP s a (VM.mk (V.T.close h) xs1 V.q V.last rs V.q2 V.cap)) rfl
   exact ⟨_, by omega, k + 1, rs, B, fr, rfl, (Z.sel 2 [1, 0] rfl), (by omega), (hK.skip hz cd2), (hB), (hP), (hf), (hu), rfl⟩
  ·refine WC.skip <| WC.seq <| WC.plan [([0, 4, 9, 1, 5, 2, 6, 3, 7, 8, 10], some (11, [])), ([12, 13, 14, 15, 16], none)] (by kernel_rfl) (by kernel_rfl) ?_
   have hBp := hB.perm (QE hj R); have hel := List.length_eraseIdx_le rs j
   refine WQ.run 10 [.pointer (some ⟨a, 0, none⟩), .map (some vr)] rfl (by exact ⟨Z.ld 3 rfl rfl, Z.ld 3 rfl rfl⟩) ?_
   refine WQ.lk rfl rfl QM 5 Z rfl rfl rfl (by first | trivial | rfl) (r := some (j, .int .u32 r.root)) (hrn ▸ Zgl hK.ok.key hK.ok.uniq hj) rfl ?_
   refine WQ.nil ?_
   intro m1
   replace Z := Z.drewN m1; generalize hwm1 : World.drewN _ _ = w at *; clear hwm1
   refine WL.call rfl rfl (Zkm (R := List.map RN.root (rs.eraseIdx j) ++ R) (i := r.root) (hA := hBp) (hR := (by rw [List.length_append, List.length_map]; omega)) (Z := (Z.sel 8 [7, 0, 0, 0, 0, 0, 0, 0] rfl))) rfl ?_
   clear Z; rintro _ w ⟨A1, f3, rfl, Z, f4, f5, f6⟩
   replace Z := Z.n8 L (a0 := Zs a A1) rfl
   refine WL.nil ?_
   refine ⟨by exact trivial, ?_⟩
   refine WQ.r 5 rfl <| WQ.nil ?_
   intro m2
   replace Z := Z.drewN m2; generalize hwm2 : World.drewN _ _ = w at *; clear hwm2
   as_aux_lemma =>
   refine WC.seq <| WC.region <| WL.r 3 rfl <| WL.reb 64 (.int .i64 (A1.s.free - A.s.free)) (congrArg (Value.int .i64) (by have hf1 := f6.1; have hfC := f4.s.free_rng; rw [Zr (by omega)]; omega)) ?_
   refine WL.r 1 rfl <| WL.nil <| WC.region <| WL.run 6 [.map (some vr)] rfl (by exact Z.ld 4 rfl rfl) ?_
   refine WL.del rfl rfl QM 6 Z rfl rfl rfl (by first | trivial | rfl) (j := j) (v := .int .u32 r.root) (hrn ▸ Zgl hK.ok.key hK.ok.uniq hj) (by rw [List.length_map]; exact (List.getElem?_eq_some_iff.1 hj).1) (fun w Z => ?_)
   replace Z := Z.n8 L (a6 := Zx vr (.map (mE (List.eraseIdx (List.map rK rs) j)) V.q2)) rfl
   refine WL.nil <| WC.region <| WL.r 1 rfl <| WL.nw 71 rfl (Zr (by omega)) ?_
   refine WL.r 1 rfl <| WL.nil ?_
   replace Z := St.exClose (f := YE s a (VM.mk (V.T.close h) xs1 V.q V.last (rs.eraseIdx j) V.q2 V.cap)) (L := Zs a A1 :: Zf 3 1 (Zb ss) a1 c1 :: L) ⟨vt, vp, vm, vr⟩ (by
    have hm : (List.map rK rs).eraseIdx j = List.map rK (rs.eraseIdx j) := by simp [List.eraseIdx_eq_take_drop_succ]
    rw [hm] at Z
    exact (Z.sel 7 [4, 4, 1, 1, 1, 1, 0] rfl))
   replace Z := Z.n3 L (a0 := ZP s a (VM.mk (V.T.close h) xs1 V.q V.last (rs.eraseIdx j) V.q2 V.cap)) rfl
   exact ⟨_, by omega, k + 1, rs.eraseIdx j, A1, A1.s.free - A.s.free, rfl, (Z.sel 3 [2, 0, 0] rfl), (by omega), (hK.del hz hj hrn (by simpa using cd2)), (f4), (Kp.trans (hP.sub fun x hx => by rw [(QE hj R).mem_iff]; exact List.mem_cons_of_mem _ hx) (f5.kp f4)), (rfl), (by have := f5.cap; omega), rfl⟩
 ·refine WC.exit ?_
  as_aux_lemma =>
  refine WC.seq <| WC.region ?_
  have hke : k = ss.length := by omega
  refine WL.r 3 rfl <| WL.nil <| WC.ret ?_
  refine ⟨[.int .i64 fr, .int .i64 0], ⟨rfl, rfl⟩, ?_⟩
  replace Z := (Z.sel 1 [] rfl)
  subst hke; obtain ⟨h1, h2⟩ := VI.rel hV hn f1 f2 hK hss3 hB; exact ⟨_, _, _, rfl, Z, h1, h2, ⟨hf, hu⟩, hP⟩
end Go.Proofs.YtbeacjcmdijdmaaGreat
namespace Go.Proofs.YtbeacjcmdijdmaaGreat
open Go Go.V Go.RowKit
theorem Com.get {V V2 : VM} {root : Int} {ps : List Int} (h : Com V root ps V2) : V2.T = V.T.open (V.last + 1) ∧ V2.last = V.last + 1 ∧ V2.cap = V.cap ∧ AddP V.xs V.cap V.last ps V2.xs (V.last + 1) ∧ V2.xs.length = V.xs.length + 1 ∨ (∃ x ∈ V.xs, V.last < x.n) := by
 obtain ⟨⟨xs2, q, rfl, hA⟩, h0⟩ := h
 by_cases hx : ∃ x ∈ V.xs, V.last < x.n
 ·exact .inr hx
 ·left
  have hle : ∀ x ∈ V.xs, x.n ≤ V.last := fun x hm => Classical.byContradiction fun h => hx ⟨x, hm, by omega⟩
  exact ⟨rfl, rfl, rfl, hA, ((AddP.facts hle hA).resolve_left fun e => e.1 h0).2.2.2.2.2⟩
structure Add1 (V : VM) (ps : List Int) (V2 : VM) : Prop where
 T : V2.T = V.T.open (V.last + 1)
 la : V2.last = V.last + 1
 cap : V2.cap = V.cap
 xs : AddP V.xs V.cap V.last ps V2.xs (V.last + 1)
 len : V2.xs.length = V.xs.length + 1
 opn : V2.T.s.opn V.T.newH = true
 val : V2.T.val V.T.newH = V.last + 1
 rng : 0 ≤ V.T.newH ∧ V.T.newH ≤ 18446744073709551615
 free : V2.T.s.free = V.T.s.free - 1
 old : ∀ x, V.T.s.opn x = true → V2.T.s.opn x = true ∧ V2.T.val x = V.T.val x
theorem Com.add1 {V V2 : VM} {A : AM} {R ps : List Int} {root : Int} (hV : VI V A R) (h : Com V root ps V2) (hr : 0 < V.room) : Add1 V ps V2 := by
 obtain ⟨h1, h2, h3, h4, h5⟩ := h.get.resolve_right (fun ⟨x, hx, hlt⟩ => by have := hV.g.le x hx; omega)
 have hf := (JJ hV hr).2
 have h6 := hV.t.newH_opn hf (V.last + 1)
 refine ⟨h1, h2, h3, h4, h5, by rw [h1]; exact h6.1, by rw [h1]; exact h6.2, (TM.newH_mod hV.t hf).2, by rw [h1]; exact SM.alloc_free _, fun x hx => ?_⟩
 rw [h1]
 exact hV.t.opn_open hf _ hx
theorem Zdw {V V2 : VM} {A A2 : AM} {R ps R2 : List Int} (hV : VI V A R) (h2 : VI V2 A2 R2) (h : Add1 V ps V2) : V2.room = V.room - 1 := by
 have h1 := h.len; have h3 := h.free; have h4 := hV.cp; have h5 := h2.cp; have h6 := h.cap
 unfold VM.room
 omega
theorem Zf1 {rs : List RN} {ss : List Int} {xs : List VN} (hk : ∀ z, z ∈ ss ↔ ∃ r ∈ rs, r.n = z) (hp : ∀ z, (∃ r ∈ rs, r.n = z) ↔ ZF xs z = true) (ha : ss.Pairwise fun a b => a < b) {l : List Int} (hl : l.Pairwise fun a b => a < b) (h : ∀ z, ZF xs z = true ↔ z ∈ l) : ss = l :=
 XV ha hl fun z => by rw [hk, hp, h]
theorem Zjv {n : Nat} : (VM.new n).room = n := by
 unfold VM.room
 show min ((n : Int) - 0) ((n : Int) - ((SM.new n).cap - (SM.new n).free)) = n
 rw [SM.new_free]
 have : (SM.new n).cap = n := by unfold SM.cap SM.new; simp
 rw [this]; omega
theorem Xc {g w : World} {L : List HP} (s a : Nat) (V : VM) (Z : St g (ZP s a V :: L) w) :
  Sp Tryz.prog 11 [.pointer (some ⟨s, 0, none⟩)] w (fun v w' => v = .pointer (some ⟨a, 0, none⟩) ∧ St g (ZP s a V :: L) w') := by
 refine Sp.enter Tryz.func11 rfl (by kernel_rfl) (by kernel_rfl) ?_
 refine WC.seq <| WC.region ?_
 obtain ⟨⟨vt, vp, vm, vr⟩, Z⟩ := St.exOpen (f := YE s a V) Z
 replace Z : St g (Ze s #[.pointer (some ⟨a, 0, none⟩), .pointer (some ⟨vt, 0, none⟩), .pointer (some ⟨vp, 0, none⟩), .map (some vr), .int .i64 V.cap] 144 :: Xw vt V.T :: Ze vp #[.int .i64 V.cap, .int .i64 V.last, .map (some vm)] 231 :: Zx vm (.map (mE (List.map vK V.xs)) V.q) :: Zn vF V.xs :: Zx vr (.map (mE (List.map rK V.rs)) V.q2) :: L) w := Z
 refine WL.r 1 rfl <| WL.nil <| WC.seq <| WC.region <| WL.run 5 [.pointer (some ⟨a, 0, none⟩)] rfl (by exact Z.ld 0 rfl rfl) ?_
 refine WL.nil <| WC.ret ?_
 replace Z := St.exClose (f := YE s a V) (L := L) ⟨vt, vp, vm, vr⟩ (Z)
 replace Z : St g (ZP s a V :: L) w := Z
 refine ⟨[.pointer (some ⟨a, 0, none⟩)], rfl, ?_⟩
 exact ⟨rfl, Z⟩
set_option maxHeartbeats 2000000 in
theorem JK {g w : World} {L : List HP} (Z : St g (L) w) :
  Sp Tryz.prog 9 [] w (fun v w' => v = .bool true ∧ St g (L) w') := by
 refine Sp.enter Tryz.func9 rfl (by kernel_rfl) (by kernel_rfl) ?_
 refine WC.seq <| WC.region <| WL.r 1 rfl <| WL.nil <| WC.seq <| WC.region <| WL.call rfl rfl (Zan (sl := 9) (cap := 9) (hc := (by decide)) (hs := (by decide)) (Z := Z)) rfl ?_
 clear Z; rintro _ w ⟨s1, a1, rfl, Z⟩
 replace Z : St g (ZP s1 a1 (VM.new 9) :: Zs a1 (AM.new 9) :: L) w := Z
 refine WL.r 5 rfl <| WL.nil <| WC.seq <| WC.seq <| WC.region <| WL.r 3 rfl <| WL.reb 18 (.bool false) (congrArg Value.bool (decide_eq_false (by decide))) ?_
 refine WL.ung rfl rfl rfl <| WL.r 1 rfl <| WL.ung rfl rfl rfl <| WL.r 3 rfl <| WL.ung rfl rfl rfl <| WL.r 1 rfl <| WL.ung rfl rfl rfl <| WL.call rfl rfl (Xc (V := VM.new 9)  (Z := Z)) rfl ?_
 clear Z; rintro _ w ⟨rfl, Z⟩
 replace Z := Z.n2 L rfl
 refine WL.ung rfl rfl rfl <| WL.r 2 rfl <| WL.nil ?_
 as_aux_lemma =>
 refine WC.ifF rfl rfl <| WC.skip <| WC.seq <| WC.region ?_
 have hV0 := VI.new (slots := 9) (cap := 9) (by omega) (by omega); have hr0 := Zjv (n := 9)
 refine WL.r 1 rfl <| WL.call rfl rfl (Zhn (V := VM.new 9) (A := AM.new 9) (R := []) (hV := hV0) (hrm := (by rw [hr0]; decide)) (hla := (by decide)) (hlen := (by decide)) (Z := Z)) rfl ?_
 clear Z; rintro _ w ⟨V1, rfl, Z, f1, f2⟩
 replace Z := Z.n2 L (a0 := ZP s1 a1 V1) rfl
 refine WL.r 5 rfl <| WL.nil <| WC.seq <| WC.region ?_
 have add1 := Com.add1 hV0 f2 (by rw [hr0]; decide); have r1 := Zdw hV0 f1 add1; have l1 : V1.last = 1 := add1.la
 refine WL.r 2 rfl <| WL.call rfl rfl (Zca (A := AM.new 9) (R := []) (h := (VM.new 9).T.newH) (hV := f1) (hh := add1.rng) (hn := add1.opn) (hrm := (by rw [r1, hr0]; decide)) (hla := (by rw [l1]; decide)) (hlen := (by decide)) (Z := Z)) rfl ?_
 clear Z; rintro _ w ⟨V2, rfl, Z, f3, f4⟩
 replace Z : St g (ZP s1 a1 V2 :: Zs a1 ((AM.new 9).ret (V1.rootOf (V1.T.val (VM.new 9).T.newH))) :: L) w := Z
 refine WL.r 5 rfl <| WL.nil <| WC.seq <| WC.region ?_
 have add2 := Com.add1 f1 f4 (by rw [r1, hr0]; decide); have r2 := Zdw f1 f3 add2; have l2 : V2.last = 2 := (by rw [add2.la, l1]; rfl); have o2 := add2.old _ add1.opn; have v2 : V2.T.val (VM.new 9).T.newH = 1 := (by rw [o2.2, add1.val]; rfl)
 refine WL.r 2 rfl <| WL.call rfl rfl (Zca (A := (AM.new 9).ret (V1.rootOf (V1.T.val (VM.new 9).T.newH))) (R := []) (h := (VM.new 9).T.newH) (hV := f3) (hh := add1.rng) (hn := o2.1) (hrm := (by rw [r2, r1, hr0]; decide)) (hla := (by rw [l2]; decide)) (hlen := (by decide)) (Z := Z)) rfl ?_
 clear Z; rintro _ w ⟨V3, rfl, Z, f5, f6⟩
 replace Z : St g (ZP s1 a1 V3 :: Zs a1 (((AM.new 9).ret (V1.rootOf (V1.T.val (VM.new 9).T.newH))).ret (V2.rootOf (V2.T.val (VM.new 9).T.newH))) :: L) w := Z
 refine WL.r 5 rfl <| WL.nil ?_
 as_aux_lemma =>
 refine WC.seq <| WC.region ?_
 have add3 := Com.add1 f3 f6 (by rw [r2, r1, hr0]; decide); have l3 : V3.last = 3 := (by rw [add3.la, l2]; rfl); have o3 := add3.old _ o2.1; have v3 : V3.T.val (VM.new 9).T.newH = 1 := (by rw [o3.2, v2]); have p3 := add3.old _ add2.opn; have w3 : V3.T.val V1.T.newH = 2 := (by rw [p3.2, add2.val, l1]; rfl); have u3 : V3.T.val V2.T.newH = 3 := (by rw [add3.val, l2]; rfl)
 refine WL.r 2 rfl <| WL.call rfl rfl (Jo (A := ((AM.new 9).ret (V1.rootOf (V1.T.val (VM.new 9).T.newH))).ret (V2.rootOf (V2.T.val (VM.new 9).T.newH))) (R := []) (h := (VM.new 9).T.newH) (hV := f5) (hh := add1.rng) (hn := o3.1) (hlen := (by decide)) (Z := Z)) rfl ?_
 clear Z; rintro _ w ⟨V4, A1, f7, rfl, Z, f8, f9, f10, f11⟩
 replace Z : St g (ZP s1 a1 V4 :: Zs a1 A1 :: L) w := Z
 refine WL.nil <| WC.seq <| WC.region ?_
 have p4 := f5.t.opn_close o3.1 p3.1 (by rw [v3, w3]; decide); have q4 := f5.t.opn_close o3.1 add3.opn (by rw [v3, u3]; decide); have e4 : V4.T = V3.T.close (VM.new 9).T.newH := congrArg VM.T f9.eq; rw [← e4] at p4 q4; have u4 : V4.T.val V2.T.newH = 3 := (by rw [q4.2, u3]); have w4 : V4.T.val V1.T.newH = 2 := (by rw [p4.2, w3]); obtain ⟨ss, hss1, hss2, hss3⟩ := Q1 f8.k
 refine WL.r 1 rfl <| WL.call rfl rfl (QV (ss := ss) (hk := f8.k) (hp := hss1) (hs := hss2.imp (fun h => by omega)) (Z := Z)) rfl ?_
 clear Z; rintro _ w ⟨a2, c1, rfl, Z⟩
 replace Z := Z.n3 L (a0 := Zf 3 1 (Zb ss) a2 c1) rfl
 refine WL.r 1 rfl <| WL.nil <| WC.seq <| WC.region <| WL.r 2 rfl <| WL.call rfl rfl (Jo (R := []) (h := V2.T.newH) (hV := f8) (hh := add3.rng) (hn := q4.1) (hlen := (by decide)) (Z := (Z.sel 3 [1, 1, 0] rfl))) rfl ?_
 clear Z; rintro _ w ⟨V5, A2, f12, rfl, Z, f13, f14, f15, f16⟩
 replace Z := Z.n3 L (a0 := ZP s1 a1 V5) (a1 := Zs a1 A2) rfl
 refine WL.nil <| WC.seq <| WC.region ?_
 have p5 := f8.t.opn_close q4.1 p4.1 (by rw [u4, w4]; decide); have e5 : V5.T = V4.T.close V2.T.newH := congrArg VM.T f14.eq; rw [← e5] at p5; have w5 : V5.T.val V1.T.newH = 2 := (by rw [p5.2, w4])
 refine WL.r 2 rfl <| WL.call rfl rfl (XW (h := V1.T.newH) (hT := f13.t) (hh := add2.rng) (hn := p5.1) (Z := Z)) rfl ?_
 clear Z; rintro _ w ⟨rfl, Z⟩
 replace Z := Z.n3 L rfl
 refine WL.r 5 rfl <| WL.nil ?_
 as_aux_lemma =>
 refine WC.seq <| WC.region ?_
 have k1 : V1.cap = 9 := add1.cap; have k2 : V2.cap = 9 := (by rw [add2.cap, k1]); have i1 : GI V1.xs V1.q 9 1 := (by have h9 := f1.g; rw [k1, l1] at h9; exact h9); have i2 : GI V2.xs V2.q 9 2 := (by have h9 := f3.g; rw [k2, l2] at h9; exact h9); have v1 : V1.T.val (VM.new 9).T.newH = 1 := add1.val; have a2' := add2.xs; rw [k1, l1, v1] at a2'; have a3' := add3.xs; rw [k2, l2, v2] at a3'; have r1' := f9.rel; rw [v3] at r1'; have r2' := f14.rel; rw [u4] at r2'; obtain ⟨z1, z2⟩ := Zl5 i1 i2 add1.xs a2' a3' r1' r2'; have s1e := Zf1 (l := [1, 2, 3]) hss3 f8.pre hss2 (by simp) (fun z => by rw [z1]; simp); obtain ⟨st, hst1, hst2, hst3⟩ := Q1 f13.k; have s2e := Zf1 (l := [2]) hst3 f13.pre hst2 (by simp) (fun z => by rw [z2]; simp)
 refine WL.r 3 rfl <| WL.reb 60 (.bool true) (congrArg Value.bool (decide_eq_true (by decide))) ?_
 refine WL.ung rfl rfl rfl <| WL.r 1 rfl <| WL.ung rfl rfl rfl <| WL.r 3 rfl <| WL.reb 64 (.bool true) (congrArg Value.bool (decide_eq_true (by decide))) ?_
 refine WL.ung rfl rfl rfl <| WL.r 1 rfl <| WL.ung rfl rfl rfl <| WL.r 3 rfl <| WL.reb 68 (.bool true) (congrArg Value.bool (decide_eq_true (by decide))) ?_
 refine WL.ung rfl rfl rfl <| WL.r 1 rfl <| WL.ung rfl rfl rfl <| WL.lit rfl rfl (Zb [1, 2, 3]) el_56 Z (by exact ⟨rfl, rfl, rfl, rfl, rfl, rfl⟩) (Z9 _) rfl (Nat.le_of_ble_eq_true rfl) (fun b1 w Z => ?_)
 refine WL.ung rfl rfl rfl ?_
 replace Z := (Z.at_ 3 rfl).share
 replace Z := Z.n4 L (a0 := Sh 3 1 (Zb ss) a2 c1) (a1 := Zf 3 1 (Zb [1, 2, 3]) (some ⟨b1, 0, none⟩) (Zb [1, 2, 3]).length) rfl
 replace Z := (Z.at_ 1 rfl).share
 replace Z := Z.n4 L (a0 := Sh 3 1 (Zb [1, 2, 3]) (some ⟨b1, 0, none⟩) (Zb [1, 2, 3]).length) rfl
 refine WL.call rfl rfl (Zkj (ys := [1, 2, 3]) (b := some ⟨b1, 0, none⟩) (d := List.length (Zb [1, 2, 3])) (hl := (by first | (rw [s1e]; decide) | (rw [s2e]; decide))) (Z := (Z.sel 2 [1, 0] rfl))) rfl ?_
 clear Z; rintro _ w ⟨ok1, rfl, Z, f17⟩
 replace Z := Z.n4 L rfl
 refine WL.r 2 rfl <| WL.reb 73 (.bool true) (congrArg Value.bool ((f17.2 s1e))) <| WL.ung rfl rfl rfl <| WL.r 1 rfl <| WL.ung rfl rfl rfl <| WL.call rfl rfl (QV (ss := st) (hk := f13.k) (hp := hst1) (hs := hst2.imp (fun h => by omega)) (Z := (Z.sel 3 [2, 0, 0] rfl))) rfl ?_
 clear Z; rintro _ w ⟨a3, c2, rfl, Z⟩
 replace Z := Z.n5 L (a0 := Zf 3 1 (Zb st) a3 c2) rfl
 refine WL.ung rfl rfl rfl <| WL.lit rfl rfl (Zb [2]) el_56 Z (by exact ⟨rfl, rfl⟩) (Z9 _) rfl (Nat.le_of_ble_eq_true rfl) (fun b2 w Z => ?_)
 refine WL.ung rfl rfl rfl ?_
 replace Z := (Z.at_ 1 rfl).share
 replace Z := Z.n6 L (a0 := Sh 3 1 (Zb st) a3 c2) (a1 := Zf 3 1 (Zb [2]) (some ⟨b2, 0, none⟩) (Zb [2]).length) rfl
 replace Z := (Z.at_ 1 rfl).share
 replace Z := Z.n6 L (a0 := Sh 3 1 (Zb [2]) (some ⟨b2, 0, none⟩) (Zb [2]).length) rfl
 refine WL.call rfl rfl (Zkj (ys := [2]) (b := some ⟨b2, 0, none⟩) (d := List.length (Zb [2])) (hl := (by first | (rw [s1e]; decide) | (rw [s2e]; decide))) (Z := (Z.sel 2 [1, 0] rfl))) rfl ?_
 clear Z; rintro _ w ⟨ok2, rfl, Z, f18⟩
 replace Z := Z.n6 L rfl
 refine WL.r 2 rfl <| WL.reb 79 (.bool true) (congrArg Value.bool ((f18.2 s2e))) <| WL.ung rfl rfl rfl <| WL.r 1 rfl <| WL.ung rfl rfl rfl <| WL.r 3 rfl <| WL.reb 83 (.bool true) (congrArg Value.bool (decide_eq_true (w5))) <| WL.ung rfl rfl rfl <| WL.r 1 rfl <| WL.ung rfl rfl rfl <| WL.r 3 rfl <| WL.nil ?_
 as_aux_lemma =>
 refine WC.ret ?_
 refine ⟨[.bool (decide (0 = 0))], rfl, ?_⟩
 replace Z := (Z.sel 6 [] rfl)
 exact ⟨rfl, Z⟩
end Go.Proofs.YtbeacjcmdijdmaaGreat
namespace Go.Proofs.YtbeacjcmdijdmaaGreat
open Go Go.V Go.RowKit Go.Maps
theorem Zam {α : Type} {l : List α} {k : Nat} {y : α} {q : α → Prop} (h : ∀ x ∈ l.take k, q x) (hy : l[k]? = some y) (hq : q y) : ∀ x ∈ l.take (k + 1), q x := fun x hx => by
 rw [List.take_add_one, hy] at hx
 rcases List.mem_append.1 hx with hx | hx
 ·exact h x hx
 ·have : x = y := by simpa using hx
  rw [this]; exact hq
theorem Zns {T : TM} {h : Int} (hn : ¬ (if T.s.opn h = true then (0 : Int) else 5) ≠ 0) : T.s.opn h = true := Classical.byContradiction fun h1 => hn (by rw [if_neg h1]; decide)
theorem Zjx {T : TM} {h : Int} (hn : (if T.s.opn h = true then (0 : Int) else 5) ≠ 0) : ¬ T.s.opn h = true := fun h1 => hn (by rw [if_pos h1])
theorem Zoa {T : TM} {hs : List Int} {k : Nat} (hbad : ∃ y ∈ hs, T.s.opn y = false) (hop : ∀ y ∈ hs.take k, T.s.opn y = true) : (k : Int) < (List.length (Zg hs) : Int) := by
 rw [Zz]
 refine Classical.byContradiction fun h => ?_
 obtain ⟨y, hy, hb⟩ := hbad
 have := hop y (by rw [List.take_of_length_le (by omega)]; exact hy)
 rw [hb] at this; cases this
theorem Ze3 {g w : World} {L : List HP} (s a : Nat) (V : VM) (h : Int) (hT : TOk V.T) (hh : 0 ≤ h ∧ h ≤ 18446744073709551615) (Z : St g (ZP s a V :: L) w) :
  Sp Tryz.prog 55 [.pointer (some ⟨s, 0, none⟩), .int .u64 h] w (fun v w' => v = .tuple #[.int .i64 (if V.T.s.opn h = true then V.T.val h else 0), .int .i64 (if V.T.s.opn h = true then 0 else 5)] ∧ St g (ZP s a V :: L) w') := by
 by_cases hn : V.T.s.opn h = true
 ·rw [if_pos hn, if_pos hn]; exact XW s a V h hT hh hn Z
 ·rw [if_neg hn, if_neg hn]; exact Qz s a V h hT hh (Bool.eq_false_iff.2 hn) Z
theorem Ze6 {g w : World} {L : List HP} (s a : Nat) (V : VM) (root y : Int) (pa : Option Addr) (pc : Nat) (Z : St g (ZP s a V :: Sh 23 1 (Zg [y, y]) pa pc :: L) w) :
  Sp Tryz.prog 127 [.pointer (some ⟨s, 0, none⟩), .int .u32 root, .slice pa (Zg [y, y]).length pc] w (fun v w' => v = .tuple #[.int .u64 0, .int .i64 1] ∧ St g (ZP s a V :: Sh 23 1 (Zg [y, y]) pa pc :: L) w') := by
 refine Sp.enter Tryz.func127 rfl (by kernel_rfl) (by kernel_rfl) ?_
 refine WC.seq <| WC.region <| WL.r 2 rfl <| WL.nil <| WC.seq <| WC.seq <| WC.plan [([0, 1, 2, 3, 4, 5, 6, 7, 8, 11, 9, 12, 10, 13, 14, 15, 16], none)] (by kernel_rfl) (by kernel_rfl) ?_
 have hpl : (Zg [y, y]).length = 2 := rfl
 refine WQ.r 4 rfl <| WQ.reb 18 (.bool false) (congrArg Value.bool (decide_eq_false ((by omega)))) ?_
 refine WQ.ung rfl rfl rfl <| WQ.r 1 rfl <| WQ.ung rfl rfl rfl <| WQ.r 1 rfl <| WQ.ung rfl rfl rfl <| WQ.r 1 rfl <| WQ.ung rfl rfl rfl <| WQ.r 1 rfl <| WQ.reb 22 (.bool true) (congrArg Value.bool (decide_eq_true ((by omega)))) ?_
 refine WQ.ung rfl rfl rfl <| WQ.r 1 rfl <| WQ.ung rfl rfl rfl <| WQ.r 1 rfl <| WQ.ung rfl rfl rfl <| WQ.ix rfl rfl (i := 0) (0) el_45 rfl rfl (by omega) (by omega) (Z.rdS 1 rfl (Zm (k := 0) (x := y) rfl)).1 ?_
 refine WQ.ung rfl rfl rfl <| WQ.ix rfl rfl (i := 1) (1) el_45 rfl rfl (by omega) (by omega) (Z.rdS 1 rfl (Zm (k := 1) (x := y) rfl)).1 ?_
 refine WQ.ung rfl rfl rfl <| WQ.run 1 [.int .u64 y] rfl (by exact (Z.rdS 1 rfl (Zm (k := 0) (x := y) rfl)).2 0 _ rfl) ?_
 refine WQ.ung rfl rfl rfl <| WQ.run 1 [.int .u64 y] rfl (by exact (Z.rdS 1 rfl (Zm (k := 1) (x := y) rfl)).2 0 _ rfl) ?_
 refine WQ.ung rfl rfl rfl <| WQ.r 1 rfl <| WQ.ung rfl rfl rfl <| WQ.r 2 rfl <| WQ.nil ?_
 intro m1
 replace Z := Z.drewN m1; generalize hwm1 : World.drewN _ _ = w at *; clear hwm1
 as_aux_lemma =>
 refine WC.ifT rfl (decide_eq_true (rfl)) <| WC.seq <| WC.region <| WL.r 2 rfl <| WL.nil <| WC.ret ?_
 refine ⟨[.int .u64 0, .int .i64 1], ⟨rfl, rfl⟩, ?_⟩
 exact ⟨rfl, Z⟩
theorem Zfu {g w : World} {L : List HP} (s a : Nat) (V : VM) (A : AM) (R : List Int) (root : Int) (hs : List Int) (pa : Option Addr) (pc : Nat) (hV : VI V A R) (hps : ZT hs) (hhs : ∀ x ∈ hs, 0 ≤ x ∧ x ≤ 18446744073709551615) (hbad : ∃ y ∈ hs, V.T.s.opn y = false) (Z : St g (ZP s a V :: Sh 23 1 (Zg hs) pa pc :: L) w) :
  Sp Tryz.prog 127 [.pointer (some ⟨s, 0, none⟩), .int .u32 root, .slice pa (Zg hs).length pc] w (fun v w' => v = .tuple #[.int .u64 0, .int .i64 5] ∧ St g (ZP s a V :: Sh 23 1 (Zg hs) pa pc :: L) w') := by
 refine Sp.enter Tryz.func127 rfl (by kernel_rfl) (by kernel_rfl) ?_
 refine WC.seq <| WC.region ?_
 have hpl := Zz hs; have hp2 := hps.1
 refine WL.r 2 rfl <| WL.nil <| WC.seq <| WC.seq <| WC.cut [0, 1, 2, 6, 7, 31] (fun vs w => ∃ (t31 : Bool), vs = [.pointer (some ⟨s, 0, none⟩), .int .u32 root, .slice pa (Zg hs).length pc, .int .u64 0, .int .i64 0, .bool t31] ∧ St g (ZP s a V :: Sh 23 1 (Zg hs) pa pc :: L) w ∧ (t31 = false)) ?_ ?_
 ·refine WC.plan [([0, 1, 2, 3, 4, 5, 6, 7, 8, 11, 9, 12, 10, 13, 14, 15, 16], none)] (by kernel_rfl) (by kernel_rfl) ?_
  refine WQ.r 4 rfl <| WQ.reb 18 (.bool false) (congrArg Value.bool (decide_eq_false ((by omega)))) ?_
  refine WQ.ung rfl rfl rfl <| WQ.r 1 rfl <| WQ.ung rfl rfl rfl <| WQ.r 1 rfl <| WQ.ung rfl rfl rfl <| WQ.r 1 rfl <| WQ.ung rfl rfl rfl <| WQ.r 1 rfl ?_
  by_cases cg1 : (List.length (Zg hs) : Int) = 2
  ·refine WQ.reb 22 (.bool true) (congrArg Value.bool (decide_eq_true cg1)) <| WQ.ung rfl rfl rfl <| WQ.r 1 rfl <| WQ.ung rfl rfl rfl <| WQ.r 1 rfl <| WQ.ung rfl rfl rfl ?_
   obtain ⟨p0, h0⟩ : ∃ u, hs[0]? = some u := ⟨_, List.getElem?_eq_getElem (by omega)⟩; obtain ⟨p1, h1⟩ : ∃ u, hs[1]? = some u := ⟨_, List.getElem?_eq_getElem (by omega)⟩
   refine WQ.ix rfl rfl (i := 0) (0) el_45 rfl rfl (by omega) (by omega) (Z.rdS 1 rfl (Zm h0)).1 ?_
   refine WQ.ung rfl rfl rfl <| WQ.ix rfl rfl (i := 1) (1) el_45 rfl rfl (by omega) (by omega) (Z.rdS 1 rfl (Zm h1)).1 ?_
   refine WQ.ung rfl rfl rfl <| WQ.run 1 [.int .u64 p0] rfl (by exact (Z.rdS 1 rfl (Zm h0)).2 0 _ rfl) ?_
   refine WQ.ung rfl rfl rfl <| WQ.run 1 [.int .u64 p1] rfl (by exact (Z.rdS 1 rfl (Zm h1)).2 0 _ rfl) ?_
   refine WQ.ung rfl rfl rfl <| WQ.r 1 rfl <| WQ.ung rfl rfl rfl <| WQ.r 2 rfl <| WQ.nil ?_
   intro m1
   replace Z := Z.drewN m1; generalize hwm1 : World.drewN _ _ = w at *; clear hwm1
   exact ⟨decide (p0 = p1), rfl, Z, (decide_eq_false (YV hps h0 h1))⟩
  ·refine WQ.reb 22 (.bool false) (congrArg Value.bool (decide_eq_false cg1)) <| WQ.skp rfl rfl rfl rfl <| WQ.skp rfl rfl rfl rfl <| WQ.skp rfl rfl rfl rfl <| WQ.skp rfl rfl rfl rfl <| WQ.skp rfl rfl rfl rfl <| WQ.skp rfl rfl rfl rfl <| WQ.skp rfl rfl rfl rfl <| WQ.ung rfl rfl rfl <| WQ.r 2 rfl <| WQ.nil ?_
   intro m1
   replace Z := Z.drewN m1; generalize hwm1 : World.drewN _ _ = w at *; clear hwm1
   exact ⟨false, rfl, Z, (rfl)⟩
 clear Z; rintro _ w j ⟨t31, rfl, Z, h31⟩
 refine WC.ifF rfl h31 <| WC.skip <| WC.seq <| WC.region <| WL.r 1 rfl <| WL.nil <| WC.seq <| WC.seq <| WC.region <| WL.r 3 rfl <| WL.nil <| WC.block ?_
 replace Z := Z.nil_ 3 1
 refine WC.loop [0, 1, 8, 32, 33, 34] (fun kM vs w => ∃ (k : Nat) (acc : List Int) (u : Option Addr) (d : Nat), vs = [.pointer (some ⟨s, 0, none⟩), .int .u32 root, .slice u (Zb acc).length d, .slice pa (Zg hs).length pc, .int .i64 (List.length (Zg hs) : Int), .int .i64 (k : Int)] ∧ St g (Zf 3 1 (Zb acc) u d :: ZP s a V :: Sh 23 1 (Zg hs) pa pc :: L) w ∧ (k ≤ hs.length) ∧ (∀ y ∈ hs.take k, V.T.s.opn y = true) ∧ (acc.length = k) ∧ (hs.length - k) = kM) ((List.length hs) - 0) ⟨0, [], none, 0, rfl, Z, (Nat.zero_le _), (fun _ h => by cases h), (rfl), rfl⟩ ?_
 clear Z; rintro _ _ w j ⟨k, acc, u, d, rfl, Z, hk, hop, hal, rfl⟩
 refine WC.seq <| WC.region <| WL.r 1 rfl <| WL.nil ?_
 as_aux_lemma =>
 refine WC.seq <| WC.ifT rfl (decide_eq_true ((Zoa hbad hop))) <| WC.skip <| WC.seq <| WC.block <| WC.seq <| WC.region ?_
 have hlt := Zoa hbad hop; have hul2 := Zz hs; obtain ⟨z, hz⟩ : ∃ u, hs[k]? = some u := ⟨_, List.getElem?_eq_getElem (by omega)⟩; have hzr := hhs z (List.mem_of_getElem? hz); have hacl := Zh acc
 refine WL.ix rfl rfl (i := (k : Int)) (k) el_45 rfl rfl (by omega) (by omega) (Z.rdS 2 rfl (Zm hz)).1 ?_
 refine WL.run 2 [.int .u64 z] rfl (by exact (Z.rdS 2 rfl (Zm hz)).2 0 _ rfl) ?_
 refine WL.nil <| WC.seq <| WC.region <| WL.r 2 rfl <| WL.call rfl rfl (Ze3 (h := z) (hT := hV.t) (hh := hzr) (Z := (Z.sel 2 [1, 0] rfl))) rfl ?_
 clear Z; rintro _ w ⟨rfl, Z⟩
 replace Z := Z.n3 L rfl
 refine WL.r 5 rfl <| WL.nil <| WC.seq <| WC.seq <| WC.region <| WL.r 2 rfl <| WL.nil <| WC.ifP rfl (fun cd1 => ?_) (fun cd1 => ?_)
 ·refine WC.seq <| WC.region <| WL.r 3 rfl <| WL.nil ?_
  as_aux_lemma =>
  refine WC.ret ?_
  refine ⟨[.int .u64 0, .int .i64 (if V.T.s.opn z = true then 0 else 5)], ⟨rfl, rfl⟩, ?_⟩
  replace Z := (Z.sel 2 [0] rfl)
  exact ⟨by rw [if_neg (Zjx cd1)]; rfl, Z⟩
 ·refine WC.skip ?_
  as_aux_lemma =>
  refine WC.region <| WL.r 2 rfl <| WL.lit rfl rfl (Zb [if V.T.s.opn z = true then V.T.val z else 0]) el_56 Z (by exact ⟨rfl, rfl⟩) (Z9 _) rfl (Nat.le_of_ble_eq_true rfl) (fun b1 w Z => ?_)
  refine WL.app rfl rfl 2 (Zb (acc ++ [if V.T.s.opn z = true then V.T.val z else 0])) el_56 Z rfl (Z.srcO 0 rfl) (Yx _ _).symm (Rm.of (by first | omega | (simp <;> omega)) (by decide)) rfl rfl (fun a1 c1 w Z => ?_)
  replace Z := Z.n4 L (a0 := Zf 3 1 (Zb [if V.T.s.opn z = true then V.T.val z else 0]) (some ⟨b1, 0, none⟩) (Zb [if V.T.s.opn z = true then V.T.val z else 0]).length) (a2 := Zf 3 1 (Zb (acc ++ [if V.T.s.opn z = true then V.T.val z else 0])) a1 c1) rfl
  refine WL.r 1 rfl <| WL.nil <| WC.region <| WL.r 1 rfl <| WL.nw 51 rfl (Zr (by omega)) ?_
  refine WL.r 1 rfl <| WL.nil ?_
  exact ⟨_, by omega, k + 1, acc ++ [if V.T.s.opn z = true then V.T.val z else 0], _, _, rfl, (Z.sel 3 [2, 1] rfl), (by omega), (Zam hop hz (Zns cd1)), (by rw [List.length_append, hal]; rfl), rfl⟩
theorem J' {g w : World} {L : List HP} (s a : Nat) (V : VM) (A : AM) (R : List Int) (root : Int) (hs : List Int) (pa : Option Addr) (pc : Nat) (hV : VI V A R) (hps : ZT hs) (hhs : ∀ x ∈ hs, 0 ≤ x ∧ x ≤ 18446744073709551615) (hall : ∀ y ∈ hs, V.T.s.opn y = true) (hrm : V.room = 0) (Z : St g (ZP s a V :: Sh 23 1 (Zg hs) pa pc :: L) w) :
  Sp Tryz.prog 127 [.pointer (some ⟨s, 0, none⟩), .int .u32 root, .slice pa (Zg hs).length pc] w (fun v w' => v = .tuple #[.int .u64 0, .int .i64 2] ∧ St g (ZP s a V :: Sh 23 1 (Zg hs) pa pc :: L) w') := by
 refine Sp.enter Tryz.func127 rfl (by kernel_rfl) (by kernel_rfl) ?_
 refine WC.seq <| WC.region ?_
 have hpl := Zz hs; have hp2 := hps.1
 refine WL.r 2 rfl <| WL.nil <| WC.seq <| WC.seq <| WC.cut [0, 1, 2, 6, 7, 31] (fun vs w => ∃ (t31 : Bool), vs = [.pointer (some ⟨s, 0, none⟩), .int .u32 root, .slice pa (Zg hs).length pc, .int .u64 0, .int .i64 0, .bool t31] ∧ St g (ZP s a V :: Sh 23 1 (Zg hs) pa pc :: L) w ∧ (t31 = false)) ?_ ?_
 ·refine WC.plan [([0, 1, 2, 3, 4, 5, 6, 7, 8, 11, 9, 12, 10, 13, 14, 15, 16], none)] (by kernel_rfl) (by kernel_rfl) ?_
  refine WQ.r 4 rfl <| WQ.reb 18 (.bool false) (congrArg Value.bool (decide_eq_false ((by omega)))) ?_
  refine WQ.ung rfl rfl rfl <| WQ.r 1 rfl <| WQ.ung rfl rfl rfl <| WQ.r 1 rfl <| WQ.ung rfl rfl rfl <| WQ.r 1 rfl <| WQ.ung rfl rfl rfl <| WQ.r 1 rfl ?_
  by_cases cg1 : (List.length (Zg hs) : Int) = 2
  ·refine WQ.reb 22 (.bool true) (congrArg Value.bool (decide_eq_true cg1)) <| WQ.ung rfl rfl rfl <| WQ.r 1 rfl <| WQ.ung rfl rfl rfl <| WQ.r 1 rfl <| WQ.ung rfl rfl rfl ?_
   obtain ⟨p0, h0⟩ : ∃ u, hs[0]? = some u := ⟨_, List.getElem?_eq_getElem (by omega)⟩; obtain ⟨p1, h1⟩ : ∃ u, hs[1]? = some u := ⟨_, List.getElem?_eq_getElem (by omega)⟩
   refine WQ.ix rfl rfl (i := 0) (0) el_45 rfl rfl (by omega) (by omega) (Z.rdS 1 rfl (Zm h0)).1 ?_
   refine WQ.ung rfl rfl rfl <| WQ.ix rfl rfl (i := 1) (1) el_45 rfl rfl (by omega) (by omega) (Z.rdS 1 rfl (Zm h1)).1 ?_
   refine WQ.ung rfl rfl rfl <| WQ.run 1 [.int .u64 p0] rfl (by exact (Z.rdS 1 rfl (Zm h0)).2 0 _ rfl) ?_
   refine WQ.ung rfl rfl rfl <| WQ.run 1 [.int .u64 p1] rfl (by exact (Z.rdS 1 rfl (Zm h1)).2 0 _ rfl) ?_
   refine WQ.ung rfl rfl rfl <| WQ.r 1 rfl <| WQ.ung rfl rfl rfl <| WQ.r 2 rfl <| WQ.nil ?_
   intro m1
   replace Z := Z.drewN m1; generalize hwm1 : World.drewN _ _ = w at *; clear hwm1
   exact ⟨decide (p0 = p1), rfl, Z, (decide_eq_false (YV hps h0 h1))⟩
  ·refine WQ.reb 22 (.bool false) (congrArg Value.bool (decide_eq_false cg1)) <| WQ.skp rfl rfl rfl rfl <| WQ.skp rfl rfl rfl rfl <| WQ.skp rfl rfl rfl rfl <| WQ.skp rfl rfl rfl rfl <| WQ.skp rfl rfl rfl rfl <| WQ.skp rfl rfl rfl rfl <| WQ.skp rfl rfl rfl rfl <| WQ.ung rfl rfl rfl <| WQ.r 2 rfl <| WQ.nil ?_
   intro m1
   replace Z := Z.drewN m1; generalize hwm1 : World.drewN _ _ = w at *; clear hwm1
   exact ⟨false, rfl, Z, (rfl)⟩
 clear Z; rintro _ w j ⟨t31, rfl, Z, h31⟩
 refine WC.ifF rfl h31 <| WC.skip <| WC.seq <| WC.region <| WL.r 1 rfl <| WL.nil <| WC.seq <| WC.seq <| WC.region <| WL.r 3 rfl <| WL.nil <| WC.block ?_
 replace Z := Z.nil_ 3 1
 refine WC.loop [0, 1, 8, 32, 33, 34] (fun kM vs w => ∃ (k : Nat) (acc : List Int) (u : Option Addr) (d : Nat), vs = [.pointer (some ⟨s, 0, none⟩), .int .u32 root, .slice u (Zb acc).length d, .slice pa (Zg hs).length pc, .int .i64 (List.length (Zg hs) : Int), .int .i64 (k : Int)] ∧ St g (Zf 3 1 (Zb acc) u d :: ZP s a V :: Sh 23 1 (Zg hs) pa pc :: L) w ∧ (k ≤ hs.length) ∧ (∀ y ∈ hs.take k, V.T.s.opn y = true) ∧ (acc.length = k) ∧ (hs.length - k) = kM) ((List.length hs) - 0) ⟨0, [], none, 0, rfl, Z, (Nat.zero_le _), (fun _ h => by cases h), (rfl), rfl⟩ ?_
 clear Z; rintro _ _ w j ⟨k, acc, u, d, rfl, Z, hk, hop, hal, rfl⟩
 refine WC.seq <| WC.region <| WL.r 1 rfl <| WL.nil ?_
 as_aux_lemma =>
 refine WC.seq <| WC.ifP rfl (fun cd1 => ?_) (fun cd1 => ?_)
 ·refine WC.skip <| WC.seq <| WC.block <| WC.seq <| WC.region ?_
  have hlt : True := trivial; have hul2 := Zz hs; obtain ⟨z, hz⟩ : ∃ u, hs[k]? = some u := ⟨_, List.getElem?_eq_getElem (by omega)⟩; have hzr := hhs z (List.mem_of_getElem? hz); have hacl := Zh acc
  refine WL.ix rfl rfl (i := (k : Int)) (k) el_45 rfl rfl (by omega) (by omega) (Z.rdS 2 rfl (Zm hz)).1 ?_
  refine WL.run 2 [.int .u64 z] rfl (by exact (Z.rdS 2 rfl (Zm hz)).2 0 _ rfl) ?_
  refine WL.nil <| WC.seq <| WC.region <| WL.r 2 rfl <| WL.call rfl rfl (Ze3 (h := z) (hT := hV.t) (hh := hzr) (Z := (Z.sel 2 [1, 0] rfl))) rfl ?_
  clear Z; rintro _ w ⟨rfl, Z⟩
  replace Z := Z.n3 L rfl
  refine WL.r 5 rfl <| WL.nil <| WC.seq <| WC.seq <| WC.region <| WL.r 2 rfl <| WL.nil <| WC.ifF rfl (decide_eq_false ((by rw [if_pos (hall z (List.mem_of_getElem? hz))]; decide))) ?_
  refine WC.skip ?_
  as_aux_lemma =>
  refine WC.region <| WL.r 2 rfl <| WL.lit rfl rfl (Zb [if V.T.s.opn z = true then V.T.val z else 0]) el_56 Z (by exact ⟨rfl, rfl⟩) (Z9 _) rfl (Nat.le_of_ble_eq_true rfl) (fun b1 w Z => ?_)
  refine WL.app rfl rfl 2 (Zb (acc ++ [if V.T.s.opn z = true then V.T.val z else 0])) el_56 Z rfl (Z.srcO 0 rfl) (Yx _ _).symm (Rm.of (by first | omega | (simp <;> omega)) (by decide)) rfl rfl (fun a1 c1 w Z => ?_)
  replace Z := Z.n4 L (a0 := Zf 3 1 (Zb [if V.T.s.opn z = true then V.T.val z else 0]) (some ⟨b1, 0, none⟩) (Zb [if V.T.s.opn z = true then V.T.val z else 0]).length) (a2 := Zf 3 1 (Zb (acc ++ [if V.T.s.opn z = true then V.T.val z else 0])) a1 c1) rfl
  refine WL.r 1 rfl <| WL.nil <| WC.region <| WL.r 1 rfl <| WL.nw 51 rfl (Zr (by omega)) ?_
  refine WL.r 1 rfl <| WL.nil ?_
  exact ⟨_, by omega, k + 1, acc ++ [if V.T.s.opn z = true then V.T.val z else 0], _, _, rfl, (Z.sel 3 [2, 1] rfl), (by omega), (Zam hop hz (hall z (List.mem_of_getElem? hz))), (by rw [List.length_append, hal]; rfl), rfl⟩
 ·refine WC.exit <| WC.seq <| WC.seq <| WC.region ?_
  obtain ⟨ss, hK⟩ := JF hV.g.ok.uniq
  refine WL.r 1 rfl <| WL.call rfl rfl (Za7 (ss := ss) (hT := hV.t) (hG := hV.g) (hp := hK.perm) (hs := hK.le) (Z := (Z.sel 2 [1, 0] rfl))) rfl ?_
  clear Z; rintro _ w ⟨rfl, Z⟩
  replace Z := Z.n3 L rfl
  refine WL.r 1 rfl <| WL.nil <| WC.ifT rfl (decide_eq_true (hrm)) <| WC.seq <| WC.region <| WL.r 2 rfl <| WL.nil <| WC.ret ?_
  refine ⟨[.int .u64 0, .int .i64 2], ⟨rfl, rfl⟩, ?_⟩
  replace Z := (Z.sel 2 [0] rfl)
  exact ⟨rfl, Z⟩
theorem Zdx {g w : World} {L : List HP} (s a : Nat) (V : VM) (h : Int) (hT : TOk V.T) (hh : 0 ≤ h ∧ h ≤ 18446744073709551615) (hn : V.T.s.opn h = false) (Z : St g (ZP s a V :: L) w) :
  Sp Tryz.prog 54 [.pointer (some ⟨s, 0, none⟩), .int .u64 h] w (fun v w' => v = .tuple #[.int .u64 0, .int .i64 5] ∧ St g (ZP s a V :: L) w') := by
 refine Sp.enter Tryz.func54 rfl (by kernel_rfl) (by kernel_rfl) ?_
 refine WC.seq <| WC.region <| WL.r 2 rfl <| WL.nil <| WC.seq <| WC.region <| WL.r 2 rfl <| WL.call rfl rfl (J_ (h := h) (hT := hT) (hh := hh) (hn := hn) (Z := Z)) rfl ?_
 clear Z; rintro _ w ⟨rfl, Z⟩
 replace Z := Z.n1 L rfl
 refine WL.r 5 rfl <| WL.nil <| WC.seq <| WC.seq <| WC.region <| WL.r 2 rfl <| WL.nil <| WC.ifT rfl (decide_eq_true ((by decide))) ?_
 refine WC.seq <| WC.region <| WL.r 3 rfl <| WL.nil <| WC.ret ?_
 refine ⟨[.int .u64 0, .int .i64 5], ⟨rfl, rfl⟩, ?_⟩
 exact ⟨rfl, Z⟩
theorem Zcb {g w : World} {L : List HP} (s a : Nat) (V : VM) (A : AM) (R : List Int) (h : Int) (hV : VI V A R) (hh : 0 ≤ h ∧ h ≤ 18446744073709551615) (hn : V.T.s.opn h = true) (hrm : V.room = 0) (Z : St g (ZP s a V :: L) w) :
  Sp Tryz.prog 54 [.pointer (some ⟨s, 0, none⟩), .int .u64 h] w (fun v w' => v = .tuple #[.int .u64 0, .int .i64 2] ∧ St g (ZP s a V :: L) w') := by
 refine Sp.enter Tryz.func54 rfl (by kernel_rfl) (by kernel_rfl) ?_
 refine WC.seq <| WC.region <| WL.r 2 rfl <| WL.nil <| WC.seq <| WC.region <| WL.r 2 rfl <| WL.call rfl rfl (Jr (A := A) (R := R) (h := h) (hV := hV) (hh := hh) (hn := hn) (Z := Z)) rfl ?_
 clear Z; rintro _ w ⟨rfl, Z⟩
 replace Z := Z.n1 L rfl
 refine WL.r 5 rfl <| WL.nil <| WC.seq <| WC.seq <| WC.region <| WL.r 2 rfl <| WL.nil <| WC.ifF rfl (decide_eq_false ((by decide))) ?_
 refine WC.skip <| WC.seq <| WC.region <| WL.r 3 rfl <| WL.lit rfl rfl (Zg [h]) el_45 Z (by exact ⟨rfl, rfl⟩) (YZ _) rfl (Nat.le_of_ble_eq_true rfl) (fun b1 w Z => ?_)
 replace Z := (Z.at_ 0 rfl).share
 replace Z := Z.n2 L (a0 := Sh 23 1 (Zg [h]) (some ⟨b1, 0, none⟩) (Zg [h]).length) rfl
 refine WL.call rfl rfl (J' (A := A) (R := R) (root := V.rootOf (V.T.val h)) (hs := [h]) (pa := some ⟨b1, 0, none⟩) (pc := List.length (Zg [h])) (hV := hV) (hps := QP h) (hhs := (fun x hx => by rw [List.mem_singleton.1 hx]; exact hh)) (hall := (fun x hx => by rw [List.mem_singleton.1 hx]; exact hn)) (hrm := hrm) (Z := (Z.sel 2 [1, 0] rfl))) rfl ?_
 clear Z; rintro _ w ⟨rfl, Z⟩
 replace Z := Z.n2 L rfl
 refine WL.r 4 rfl <| WL.nil ?_
 as_aux_lemma =>
 refine WC.ret ?_
 refine ⟨[.int .u64 0, .int .i64 2], ⟨rfl, rfl⟩, ?_⟩
 replace Z := (Z.sel 2 [0] rfl)
 exact ⟨rfl, Z⟩
theorem Zer {g w : World} {L : List HP} (s a : Nat) (V : VM) (h : Int) (hT : TOk V.T) (hh : 0 ≤ h ∧ h ≤ 18446744073709551615) (hn : V.T.s.opn h = false) (Z : St g (ZP s a V :: L) w) :
  Sp Tryz.prog 17 [.pointer (some ⟨s, 0, none⟩), .int .u64 h] w (fun v w' => v = .tuple #[.int .i64 0, .int .i64 5] ∧ St g (ZP s a V :: L) w') := by
 refine Sp.enter Tryz.func17 rfl (by kernel_rfl) (by kernel_rfl) ?_
 refine WC.seq <| WC.region <| WL.r 2 rfl <| WL.nil <| WC.seq <| WC.region ?_
 obtain ⟨⟨vt, vp, vm, vr⟩, Z⟩ := St.exOpen (f := YE s a V) Z
 replace Z : St g (Ze s #[.pointer (some ⟨a, 0, none⟩), .pointer (some ⟨vt, 0, none⟩), .pointer (some ⟨vp, 0, none⟩), .map (some vr), .int .i64 V.cap] 144 :: Xw vt V.T :: Ze vp #[.int .i64 V.cap, .int .i64 V.last, .map (some vm)] 231 :: Zx vm (.map (mE (List.map vK V.xs)) V.q) :: Zn vF V.xs :: Zx vr (.map (mE (List.map rK V.rs)) V.q2) :: L) w := Z
 refine WL.run 5 [.pointer (some ⟨vt, 0, none⟩)] rfl (by exact Z.ld 0 rfl rfl) ?_
 refine WL.call rfl rfl (Zbu (T := V.T) (h := h) (hT := hT) (hh := hh) (hn := hn) (Z := (Z.sel 2 [1, 0] rfl))) rfl ?_
 clear Z; rintro _ w ⟨rfl, Z⟩
 replace Z := Z.n6 L rfl
 refine WL.r 5 rfl <| WL.nil <| WC.seq <| WC.seq <| WC.region <| WL.r 2 rfl <| WL.nil <| WC.ifT rfl (decide_eq_true ((by decide))) ?_
 refine WC.seq <| WC.region <| WL.r 3 rfl <| WL.nil ?_
 as_aux_lemma =>
 refine WC.ret ?_
 replace Z := St.exClose (f := YE s a V) (L := L) ⟨vt, vp, vm, vr⟩ ((Z.sel 2 [1, 0] rfl))
 replace Z : St g (ZP s a V :: L) w := Z
 refine ⟨[.int .i64 0, .int .i64 5], ⟨rfl, rfl⟩, ?_⟩
 exact ⟨rfl, Z⟩
end Go.Proofs.YtbeacjcmdijdmaaGreat
namespace Go.V
open Go Go.RowKit
section
variable {P : Program} {T : Tab} [hT : TabOk P T] {n : Nat} {os l : List Oper} {K : Kt} {F : Fm} {w g : World} {L : List HP} {t kt et : TypeId} {d : TypeDesc} {z : Value} {b b2 c c2 : Nat} {es : Array MapEntry}
theorem WL.stP {o : Oper} {x y : Operand} {b off : Nat} {cs vs ds : Array Value} {t' : TypeId} (hg : o.guard = none) (hd : o.dst = none) (ho : o.op = .store t x y) (i : Nat) (Z : St g L w) (hi : L[i]? = some (Ze b cs t')) (hx : ev F x = .pointer (some ⟨b, off, none⟩)) (hv : ev F y = .agg vs)
  (h1 : vs.toList.all (·.oneCell') = true) (hc : off + vs.size ≤ cs.size) (he : spl cs off vs.toList = ds) (ht : Xa P t vs.size) (hk : ∀ w', St g (L.set i (Ze b ds t')) w' → WL P n os l K F w') : WL P n os (o :: l) K F w := by
 have hh := Z.heap i hi
 have hS' : St g (L.set i (Ze b ds t')) (w.setRow b ds) := (St.setRow (Z.at_ i hi)).back i hi
 refine WL.unit hg hd (fun hok => ?_) (hk _ hS')
 have e1 := Zi (F := F) hok (x := x) (by simp [ho, Op.operands])
 have e2 := Zi (F := F) hok (x := y) (by simp [ho, Op.operands])
 have hst := XB (P := P) (t := t) (off := off) (v := .agg vs) ht.2.2 hh (fun u hu => List.all_eq_true.1 h1 u hu) hc
 rw [show (Value.agg vs).cells.toList = vs.toList from rfl, he] at hst
 simp only [execOp, ho, e1, e2, hx, hv, Instr.storeAt, Instr.sureAddr, Sem.run_bind, Sem.run_pure, Result.andThen_ok, hst]
end
end Go.V
namespace Go.Proofs.YtbeacjcmdijdmaaGreat
open Go Go.V
theorem ZM {α : Type} {l : List α} {k : Nat} {x : α} (hk : 1 ≤ k) (h : l[k]? = some x) : (l.drop 1)[k - 1]? = some x := by
 rw [List.getElem?_drop, show 1 + (k - 1) = k by omega]; exact h
theorem ok_hi {S : SM} {i : Int} (h : S.cap < i) : S.ok i = false := by
 unfold SM.ok; rw [List.getElem?_eq_none (by have : S.cap = (S.used.length : Int) - 1 := rfl; omega)]; rfl
theorem Zoj {S : SM} (hO : SOk S) : S.ok 0 = false := Bool.eq_false_iff.2 fun h => by
 have := S.ok_rng hO (Int.le_refl 0) h; omega
theorem Zp2 {S : SM} (hO : SOk S) {i : Int} (h : S.cap < i) : S.genOf i = 0 := by
 unfold SM.genOf; rw [List.getElem?_eq_none (by have : S.cap = (S.used.length : Int) - 1 := rfl; have := hO.gl; omega)]; rfl
theorem Zo1 {g w : World} {L : List HP} (S : SM) (ra ga oa : Option Addr) (rc gc oc : Nat) (i : Int) (hO : SOk S) (hi : 0 ≤ i ∧ i ≤ 4294967295) (Z : St g (Sh 4 1 (Zc (S.used.drop 1)) oa oc :: L) w) :
  Sp Tryz.prog 154 [.agg #[.int .i64 S.cap, .slice ra (Za S.rel).length rc, .int .i64 (S.fresh + 1), .slice ga (Za (S.gen.drop 1)).length gc, .slice oa (Zc (S.used.drop 1)).length oc], .int .u32 i] w (fun v w' => v = .bool (S.ok i) ∧ St g (Sh 4 1 (Zc (S.used.drop 1)) oa oc :: L) w') := by
 refine Sp.enter Tryz.func154 rfl (by kernel_rfl) (by kernel_rfl) ?_
 have _ := hi
 refine WC.seq <| WC.region ?_
 have hcp : S.cap = (S.used.length : Int) - 1 := rfl; have hle := hO.cap; have hu1 := Zv (S.used.drop 1); have hdu : (S.used.drop 1).length = S.used.length - 1 := List.length_drop ..; have hw : IntKind.i64.wrap i = i := Zr (by omega)
 refine WL.box rfl rfl #[.int .i64 S.cap, .slice ra (Za S.rel).length rc, .int .i64 (S.fresh + 1), .slice ga (Za (S.gen.drop 1)).length gc, .slice oa (Zc (S.used.drop 1)).length oc] Z rfl rfl (fun b1 w Z => ?_)
 refine WL.r 1 rfl <| WL.nil <| WC.seq <| WC.region <| WL.r 3 rfl ?_
 by_cases cg1 : 1 ≤ i
 ·refine WL.reb 7 (.bool true) (congrArg Value.bool (decide_eq_true cg1)) <| WL.ung rfl rfl rfl <| WL.r 1 rfl <| WL.ung rfl rfl rfl <| WL.r 1 rfl <| WL.nw 9 rfl (Zr (by omega)) ?_
  refine WL.ung rfl rfl rfl <| WL.r 1 rfl <| WL.ung rfl rfl rfl <| WL.run 1 [.int .i64 S.cap] rfl (by exact Z.ld 0 rfl rfl) ?_
  refine WL.ung rfl rfl rfl <| WL.r 3 rfl ?_
  by_cases cg2 : i ≤ S.cap
  ·refine WL.reb 14 (.bool true) (congrArg Value.bool (decide_eq_true cg2)) <| WL.ung rfl rfl rfl <| WL.r 1 rfl <| WL.ung rfl rfl rfl <| WL.run 1 [.slice oa (Zc (S.used.drop 1)).length oc] rfl (by exact Z.ld 0 rfl rfl) ?_
   refine WL.ung rfl rfl rfl <| WL.r 1 rfl <| WL.ung rfl rfl rfl <| WL.r 1 rfl <| WL.nw 18 rfl (Yq (by omega)) ?_
   refine WL.ung rfl rfl rfl ?_
   obtain ⟨u, hu⟩ : ∃ u, S.used[i.toNat]? = some u := ⟨_, List.getElem?_eq_getElem (by omega)⟩
   refine WL.ix rfl rfl (i := i - 1) (i.toNat - 1) el_33 rfl rfl (by omega) (by omega) (Z.rdS 1 rfl (Zu (ZM (by omega) hu))).1 ?_
   refine WL.ung rfl rfl rfl <| WL.run 3 [.bool u] rfl (by exact (Z.rdS 1 rfl (Zu (ZM (by omega) hu))).2 0 _ rfl) ?_
   refine WL.nil ?_
   as_aux_lemma =>
   refine WC.ret ?_
   refine ⟨[.bool u], rfl, ?_⟩
   replace Z := (Z.sel 1 [] rfl)
   exact ⟨by unfold SM.ok; rw [hu]; rfl, Z⟩
  ·refine WL.reb 14 (.bool false) (congrArg Value.bool (decide_eq_false cg2)) <| WL.skp rfl rfl rfl rfl <| WL.skp rfl rfl rfl rfl <| WL.skp rfl rfl rfl rfl <| WL.skp rfl rfl rfl rfl <| WL.skp rfl rfl rfl rfl <| WL.skp rfl rfl rfl rfl <| WL.r 2 rfl <| WL.nil ?_
   as_aux_lemma =>
   refine WC.ret ?_
   refine ⟨[.bool false], rfl, ?_⟩
   replace Z := (Z.sel 1 [] rfl)
   exact ⟨by rw [ok_hi (by omega)]; rfl, Z⟩
 ·refine WL.reb 7 (.bool false) (congrArg Value.bool (decide_eq_false cg1)) <| WL.skp rfl rfl rfl rfl <| WL.skp rfl rfl rfl rfl <| WL.skp rfl rfl rfl rfl <| WL.skp rfl rfl rfl rfl <| WL.skp rfl rfl rfl rfl <| WL.r 2 rfl <| WL.skp rfl rfl rfl rfl <| WL.skp rfl rfl rfl rfl <| WL.skp rfl rfl rfl rfl <| WL.skp rfl rfl rfl rfl <| WL.skp rfl rfl rfl rfl ?_
  refine WL.skp rfl rfl rfl rfl <| WL.r 2 rfl <| WL.nil ?_
  as_aux_lemma =>
  refine WC.ret ?_
  refine ⟨[.bool false], rfl, ?_⟩
  replace Z := (Z.sel 1 [] rfl)
  have h0 : i = 0 := (by omega); subst h0; exact ⟨by rw [Zoj hO]; rfl, Z⟩
theorem Zh8 {g w : World} {L : List HP} (S : SM) (ra ga oa : Option Addr) (rc gc oc : Nat) (i : Int) (hO : SOk S) (hi : 0 ≤ i ∧ i ≤ 4294967295) (hi0 : i ≠ 0) (Z : St g (Sh 64 1 (Za (S.gen.drop 1)) ga gc :: L) w) :
  Sp Tryz.prog 156 [.agg #[.int .i64 S.cap, .slice ra (Za S.rel).length rc, .int .i64 (S.fresh + 1), .slice ga (Za (S.gen.drop 1)).length gc, .slice oa (Zc (S.used.drop 1)).length oc], .int .u32 i] w (fun v w' => v = .int .u32 (S.genOf i) ∧ St g (Sh 64 1 (Za (S.gen.drop 1)) ga gc :: L) w') := by
 refine Sp.enter Tryz.func156 rfl (by kernel_rfl) (by kernel_rfl) ?_
 have _ := hi0
 have _ := hi
 refine WC.seq <| WC.region <| WL.box rfl rfl #[.int .i64 S.cap, .slice ra (Za S.rel).length rc, .int .i64 (S.fresh + 1), .slice ga (Za (S.gen.drop 1)).length gc, .slice oa (Zc (S.used.drop 1)).length oc] Z rfl rfl (fun b1 w Z => ?_)
 refine WL.r 1 rfl <| WL.nil <| WC.seq <| WC.seq <| WC.region ?_
 have hcp : S.cap = (S.used.length : Int) - 1 := rfl; have hle := hO.cap; have hgl := hO.gl; have hg1 := Zk (S.gen.drop 1); have hdg : (S.gen.drop 1).length = S.gen.length - 1 := List.length_drop ..; have hw : IntKind.i64.wrap i = i := Zr (by omega)
 refine WL.r 2 rfl <| WL.runG 7 [.int .i64 S.cap] rfl (by exact (fun _ => Z.ld 0 rfl rfl)) (fun j => ?_)
 refine WL.prop 13 rfl (bor (dd _) (dd _)) <| WL.nil <| WC.ifP rfl (fun hb => ?_) (fun hb => ?_)
 ·refine WC.seq <| WC.region <| WL.r 1 rfl <| WL.nil <| WC.ret ?_
  refine ⟨[.int .u32 0], rfl, ?_⟩
  replace Z := (Z.sel 1 [] rfl)
  exact ⟨by rw [Zp2 hO (by omega)]; rfl, Z⟩
 ·refine WC.skip <| WC.seq <| WC.region <| WL.run 4 [.slice ga (Za (S.gen.drop 1)).length gc] rfl (by exact Z.ld 0 rfl rfl) ?_
  refine WL.nw 17 rfl (Yq (by omega)) ?_
  obtain ⟨u, hu⟩ : ∃ u, S.gen[i.toNat]? = some u := ⟨_, List.getElem?_eq_getElem (by omega)⟩
  refine WL.ix rfl rfl (i := i - 1) (i.toNat - 1) el_32 rfl rfl (by omega) (by omega) (Z.rdS 1 rfl (Zl (ZM (by omega) hu))).1 ?_
  refine WL.run 2 [.int .u32 u] rfl (by exact (Z.rdS 1 rfl (Zl (ZM (by omega) hu))).2 0 _ rfl) ?_
  refine WL.nil <| WC.ret ?_
  refine ⟨[.int .u32 u], rfl, ?_⟩
  replace Z := (Z.sel 1 [] rfl)
  exact ⟨by unfold SM.genOf; rw [hu]; rfl, Z⟩
theorem Zff {S : SM} (h : ¬ 0 < (List.length (Za S.rel) : Int)) : S.rel = [] := by
 rw [Zk] at h; exact List.length_eq_zero_iff.1 (by omega)
theorem Y4 {α : Type} (l : List α) {n : Nat} (hn : 1 ≤ n) (x : α) : (l.set n x).drop 1 = (l.drop 1).set (n - 1) x := by
 obtain ⟨m, rfl⟩ : ∃ m, n = m + 1 := ⟨n - 1, by omega⟩
 cases l <;> rfl
theorem Zm6 {g w : World} {L : List HP} (S : SM) (ra ga oa : Option Addr) (rc gc oc : Nat) (hO : SOk S) (hf : 0 < S.free) (Z : St g (Sh 64 1 (Za S.rel) ra rc :: Sh 64 1 (Za (S.gen.drop 1)) ga gc :: Sh 4 1 (Zc (S.used.drop 1)) oa oc :: L) w) :
  Sp Tryz.prog 190 [.agg #[.int .i64 S.cap, .slice ra (Za S.rel).length rc, .int .i64 (S.fresh + 1), .slice ga (Za (S.gen.drop 1)).length gc, .slice oa (Zc (S.used.drop 1)).length oc]] w (fun v w' => ∃ (ra2 ga2 oa2 : Option Addr) (rc2 gc2 oc2 : Nat), v = .tuple #[.agg #[.int .i64 S.alloc.cap, .slice ra2 (Za S.alloc.rel).length rc2, .int .i64 (S.alloc.fresh + 1), .slice ga2 (Za (S.alloc.gen.drop 1)).length gc2, .slice oa2 (Zc (S.alloc.used.drop 1)).length oc2], .int .u32 S.next, .int .i64 0] ∧ St g (Sh 64 1 (Za S.alloc.rel) ra2 rc2 :: Sh 64 1 (Za (S.alloc.gen.drop 1)) ga2 gc2 :: Sh 4 1 (Zc (S.alloc.used.drop 1)) oa2 oc2 :: L) w' ∧ (1 ≤ S.next ∧ S.next ≤ S.cap)) := by
 refine Sp.enter Tryz.func190 rfl (by kernel_rfl) (by kernel_rfl) ?_
 refine WC.seq <| WC.region <| WL.box rfl rfl #[.int .i64 S.cap, .slice ra (Za S.rel).length rc, .int .i64 (S.fresh + 1), .slice ga (Za (S.gen.drop 1)).length gc, .slice oa (Zc (S.used.drop 1)).length oc] Z rfl rfl (fun b1 w Z => ?_)
 refine WL.new rfl rfl QU Z (fun b2 w Z => ?_)
 refine WL.r 2 rfl <| WL.nil <| WC.seq <| WC.region <| WL.r 1 rfl <| WL.nil <| WC.seq <| WC.seq <| WC.region ?_
 have hrb := hO.rle; have hfr := hO.fr; have hcp : S.cap = (S.used.length : Int) - 1 := rfl; have hle := hO.cap; have hgl := hO.gl; have hfe : S.free = (S.rel.length : Int) + S.cap - S.fresh := rfl; have hnx := S.next_rng hO hf; have hrl := Zk S.rel; have hdg : (S.gen.drop 1).length = S.gen.length - 1 := List.length_drop ..; have hdu : (S.used.drop 1).length = S.used.length - 1 := List.length_drop ..; have hg1 := Zk (S.gen.drop 1); have hu1 := Zv (S.used.drop 1)
 refine WL.run 4 [.slice ra (Za S.rel).length rc] rfl (by exact Z.ld 1 rfl rfl) ?_
 refine WL.nil <| WC.seq <| WC.region <| WL.r 2 rfl <| WL.nil <| WC.ifP rfl (fun cd1 => ?_) (fun cd1 => ?_)
 ·refine WC.seq <| WC.region <| WL.run 4 [.slice ra (Za S.rel).length rc] rfl (by exact Z.ld 1 rfl rfl) ?_
  refine WL.nw 15 rfl (Zr (by omega)) ?_
  have hne : S.rel ≠ [] := (fun e => by have h9 := congrArg List.length e; rw [List.length_nil] at h9; omega); have hx : S.rel[S.rel.length - 1]? = some S.next := by rw [Xn hne]; simp
  refine WL.ix rfl rfl (i := (List.length (Za S.rel) : Int) - 1) (S.rel.length - 1) el_32 rfl rfl (by omega) (by omega) (Z.rdS 2 rfl (Zl hx)).1 ?_
  refine WL.run 2 [.int .u32 S.next] rfl (by exact (Z.rdS 2 rfl (Zl hx)).2 0 _ rfl) ?_
  refine WL.nw 18 rfl (Zr (by omega)) ?_
  refine WL.r 1 rfl <| WL.nil ?_
  as_aux_lemma =>
  refine WC.region <| WL.run 4 [.slice ra (Za S.rel).length rc] rfl (by exact Z.ld 1 rfl rfl) ?_
  refine WL.nw 22 rfl (Zr (by omega)) ?_
  refine WL.slHi rfl rfl (v := (List.length (Za S.rel) : Int) - 1) 2 (S.rel.length - 1) (Za (S.rel.take (S.rel.length - 1))) el_32 Z rfl rfl rfl (by omega) (by omega) (XZ _ _) (fun a1 Z => ?_)
  replace Z := Z.n6 L (a0 := Sh 64 1 (Za (S.rel.take ((List.length S.rel) - 1))) a1 rc) (a1 := Ze b2 #[.int .i64 0, .slice none 0 0, .int .i64 0, .slice none 0 0, .slice none 0 0] 35) (a2 := Ze b1 #[.int .i64 S.cap, .slice ra (Za S.rel).length rc, .int .i64 (S.fresh + 1), .slice ga (Za (S.gen.drop 1)).length gc, .slice oa (Zc (S.used.drop 1)).length oc] 35) rfl
  replace Z := Z.nil_ 64 1
  refine WL.app rfl rfl 0 (Za (S.rel.take ((List.length S.rel) - 1))) el_32 Z rfl (Z.srcS 1 rfl) (List.nil_append _) (Rm.of (by first | omega | (simp <;> omega)) (by decide)) rfl rfl (fun a2 c1 w Z => ?_)
  replace Z := Z.n7 L (a0 := Zf 64 1 (Za (S.rel.take ((List.length S.rel) - 1))) a2 c1) rfl
  refine WL.r 1 rfl <| WL.st rfl rfl rfl 3 Z rfl rfl rfl rfl rfl rfl (fun w Z => ?_)
  replace Z := Z.n7 L (a3 := Ze b1 #[.int .i64 S.cap, .slice a2 (List.length (Za (S.rel.take ((List.length S.rel) - 1)))) c1, .int .i64 (S.fresh + 1), .slice ga (Za (S.gen.drop 1)).length gc, .slice oa (Zc (S.used.drop 1)).length oc] 35) rfl
  refine WL.nil <| WC.seq <| WC.plan [([0, 3, 1, 4], some (2, [3, 4])), ([6], some (5, [6])), ([], some (7, [])), ([8], some (9, []))] (by kernel_rfl) (by kernel_rfl) ?_
  refine WQ.run 4 [.slice ga (Za (S.gen.drop 1)).length gc, .slice oa (Zc (S.used.drop 1)).length oc] rfl (by exact ⟨Z.ld 3 rfl rfl, Z.ld 3 rfl rfl⟩) ?_
  refine WQ.nil ?_
  intro m1
  replace Z := Z.drewN m1; generalize hwm1 : World.drewN _ _ = w at *; clear hwm1
  replace Z := Z.nil_ 64 1
  refine WL.app rfl rfl 0 (Za (S.gen.drop 1)) el_32 Z rfl (Z.srcS 6 rfl) (List.nil_append _) (Rm.of (by first | omega | (simp <;> omega)) (by decide)) rfl rfl (fun a3 c2 w Z => ?_)
  replace Z := Z.n8 L (a0 := Zf 64 1 (Za (S.gen.drop 1)) a3 c2) rfl
  refine WL.nil ?_
  refine ⟨by exact ⟨RQ.pure rfl rfl rfl rfl, RQ.load rfl rfl rfl rfl (Z.ld 4 rfl rfl)⟩, ?_⟩
  refine WQ.r 1 rfl <| WQ.nil ?_
  intro m2
  replace Z := Z.drewN m2; generalize hwm2 : World.drewN _ _ = w at *; clear hwm2
  replace Z := Z.nil_ 4 1
  refine WL.app rfl rfl 0 (Zc (S.used.drop 1)) el_33 Z rfl (Z.srcS 8 rfl) (List.nil_append _) (Rm.of (by first | omega | (simp <;> omega)) (by decide)) rfl rfl (fun a4 c3 w Z => ?_)
  replace Z := Z.n9 L (a0 := Zf 4 1 (Zc (S.used.drop 1)) a4 c3) rfl
  refine WL.nil ?_
  refine ⟨by exact RQ.pure rfl rfl rfl rfl, ?_⟩
  refine WQ.nil ?_
  intro m3
  replace Z := Z.drewN m3; generalize hwm3 : World.drewN _ _ = w at *; clear hwm3
  refine WL.st rfl rfl rfl 5 Z rfl rfl rfl rfl rfl rfl (fun w Z => ?_)
  replace Z := Z.n9 L (a5 := Ze b1 #[.int .i64 S.cap, .slice a2 (List.length (Za (S.rel.take ((List.length S.rel) - 1)))) c1, .int .i64 (S.fresh + 1), .slice a3 (Za (S.gen.drop 1)).length c2, .slice oa (Zc (S.used.drop 1)).length oc] 35) rfl
  refine WL.nil ?_
  refine ⟨by exact trivial, ?_⟩
  refine WQ.r 1 rfl <| WQ.nil ?_
  intro m4
  replace Z := Z.drewN m4; generalize hwm4 : World.drewN _ _ = w at *; clear hwm4
  refine WL.st rfl rfl rfl 5 Z rfl rfl rfl rfl rfl rfl (fun w Z => ?_)
  replace Z := Z.n9 L (a5 := Ze b1 #[.int .i64 S.cap, .slice a2 (List.length (Za (S.rel.take ((List.length S.rel) - 1)))) c1, .int .i64 (S.fresh + 1), .slice a3 (Za (S.gen.drop 1)).length c2, .slice a4 (Zc (S.used.drop 1)).length c3] 35) rfl
  refine WL.nil ?_
  refine ⟨by exact trivial, ?_⟩
  intro m5
  replace Z := Z.drewN m5; generalize hwm5 : World.drewN _ _ = w at *; clear hwm5
  as_aux_lemma =>
  refine WC.seq <| WC.region ?_
  obtain ⟨v, hv⟩ : ∃ v, S.gen[S.next.toNat]? = some v := ⟨_, List.getElem?_eq_getElem (by omega)⟩; obtain ⟨u, hu⟩ : ∃ u, S.used[S.next.toNat]? = some u := ⟨_, List.getElem?_eq_getElem (by omega)⟩
  refine WL.run 4 [.slice a3 (Za (S.gen.drop 1)).length c2] rfl (by exact Z.ld 5 rfl rfl) ?_
  refine WL.nw 49 rfl (Zr (by omega)) ?_
  refine WL.ix rfl rfl (i := S.next - 1) (S.next.toNat - 1) el_32 rfl rfl (by omega) (by omega) (Z.rdO 1 rfl (Zl (ZM (by omega) hv))).1 ?_
  refine WL.run 2 [.int .u32 v] rfl (by exact (Z.rdO 1 rfl (Zl (ZM (by omega) hv))).2 0 _ rfl) ?_
  refine WL.reb 52 (.int .u32 ((v + 1) % 4294967296)) (congrArg (Value.int .u32) (by rfl)) ?_
  refine WL.ix rfl rfl (i := S.next - 1) (S.next.toNat - 1) el_32 rfl rfl (by omega) (by omega) (Z.rdO 1 rfl (Zl (ZM (by omega) hv))).1 ?_
  refine WL.stE rfl rfl rfl 1 (S.next.toNat - 1) 0 [.int .u32 v] (Za ((S.gen.drop 1).set (S.next.toNat - 1) ((v + 1) % 4294967296))) Z rfl (Zl (ZM (by omega) hv)) rfl rfl rfl rfl rfl (XR _ _ _) (fun w Z => ?_)
  replace Z := Z.n9 L (a1 := Zf 64 1 (Za ((S.gen.drop 1).set (S.next.toNat - 1) ((v + 1) % 4294967296))) a3 c2) rfl
  refine WL.nil <| WC.seq <| WC.region <| WL.run 4 [.slice a4 (Zc (S.used.drop 1)).length c3] rfl (by exact Z.ld 5 rfl rfl) ?_
  refine WL.nw 57 rfl (Zr (by omega)) ?_
  refine WL.ix rfl rfl (i := S.next - 1) (S.next.toNat - 1) el_33 rfl rfl (by omega) (by omega) (Z.rdO 0 rfl (Zu (ZM (by omega) hu))).1 ?_
  refine WL.stE rfl rfl rfl 0 (S.next.toNat - 1) 0 [.bool u] (Zc ((S.used.drop 1).set (S.next.toNat - 1) true)) Z rfl (Zu (ZM (by omega) hu)) rfl rfl rfl rfl rfl (YL _ _ _) (fun w Z => ?_)
  replace Z := Z.n9 L (a0 := Zf 4 1 (Zc ((S.used.drop 1).set (S.next.toNat - 1) true)) a4 c3) rfl
  refine WL.nil <| WC.seq <| WC.region ?_
  have hge : S.genOf S.next = v := (by unfold SM.genOf; rw [hv]; rfl); have e1 : S.alloc.gen.drop 1 = (S.gen.drop 1).set (S.next.toNat - 1) ((v + 1) % 4294967296) := (by rw [← hge]; exact Y4 _ (by omega) _); have e2 : S.alloc.used.drop 1 = (S.used.drop 1).set (S.next.toNat - 1) true := Y4 _ (by omega) _; have e3 : S.alloc.cap = S.cap := (by unfold SM.cap SM.alloc; simp)
  refine WL.ldF rfl rfl 5 Z rfl rfl Z0 <| WL.r 2 rfl <| WL.nw 61 rfl (Yq (by omega)) ?_
  refine WL.stF rfl rfl rfl 4 Z rfl rfl rfl rfl rfl Z0 (fun w Z => ?_)
  replace Z := Z.n9 L (a4 := Ze b2 #[.int .i64 S.cap, .slice a2 (List.length (Za (S.rel.take ((List.length S.rel) - 1)))) c1, .int .i64 (S.fresh + 1), .slice a3 (Za (S.gen.drop 1)).length c2, .slice a4 (Zc (S.used.drop 1)).length c3] 35) rfl
  refine WL.r 2 rfl <| WL.nil ?_
  as_aux_lemma =>
  refine WC.ret ?_
  have l1 : (Za (S.gen.drop 1)).length = (Za (S.alloc.gen.drop 1)).length := (by rw [e1]; simp); have l2 : (Zc (S.used.drop 1)).length = (Zc (S.alloc.used.drop 1)).length := (by rw [e2]; simp); have q1 : S.rel.take (S.rel.length - 1) = S.alloc.rel := (List.dropLast_eq_take (l := S.rel)).symm; have q2 : S.fresh = S.alloc.fresh := (if_neg hne).symm; rw [l1, l2, q1, ← e1, ← e2, ← e3, q2] at Z; replace Z := (((Z.at_ 0 rfl).share.at_ 1 rfl).share.at_ 2 rfl).share.sel 9 [0, 0, 0, 1] rfl
  replace Z : St g (Sh 64 1 (Za S.alloc.rel) a2 c1 :: Sh 64 1 (Za (S.alloc.gen.drop 1)) a3 c2 :: Sh 4 1 (Zc (S.alloc.used.drop 1)) a4 c3 :: Ze b2 #[.int .i64 S.alloc.cap, .slice a2 (Za S.alloc.rel).length c1, .int .i64 (S.alloc.fresh + 1), .slice a3 (Za (S.alloc.gen.drop 1)).length c2, .slice a4 (Zc (S.alloc.used.drop 1)).length c3] 35 :: L) w := Z
  refine ⟨[.agg #[.int .i64 S.alloc.cap, .slice a2 (Za S.alloc.rel).length c1, .int .i64 (S.alloc.fresh + 1), .slice a3 (Za (S.alloc.gen.drop 1)).length c2, .slice a4 (Zc (S.alloc.used.drop 1)).length c3], .int .u32 S.next, .int .i64 0], ⟨⟨_, rfl, Z.lvF 3 rfl Z0⟩, rfl, rfl⟩, ?_⟩
  replace Z := (Z.sel 4 [0, 0, 0] rfl)
  exact ⟨_, _, _, _, _, _, rfl, Z, ⟨hnx.1, hnx.2.1⟩⟩
 ·refine WC.seq <| WC.region ?_
  have hnn := SM.next_nil (Zff cd1)
  refine WL.run 5 [.int .i64 (S.fresh + 1), .int .i64 S.cap] rfl (by exact ⟨Z.ld 1 rfl rfl, Z.ld 1 rfl rfl⟩) ?_
  refine WL.nil ?_
  as_aux_lemma =>
  refine WC.ifT rfl (decide_eq_true ((by have h9 : S.rel.length = 0 := (by omega); omega))) ?_
  refine WC.seq <| WC.region <| WL.run 3 [.int .i64 (S.fresh + 1)] rfl (by exact Z.ld 1 rfl rfl) ?_
  refine WL.nil <| WC.region <| WL.run 3 [.int .i64 (S.fresh + 1)] rfl (by exact Z.ld 1 rfl rfl) ?_
  refine WL.nw 35 rfl (Zr (by omega)) ?_
  refine WL.r 1 rfl <| WL.st rfl rfl rfl 1 Z rfl rfl rfl rfl rfl rfl (fun w Z => ?_)
  replace Z := Z.n5 L (a0 := Ze b2 #[.int .i64 0, .slice none 0 0, .int .i64 0, .slice none 0 0, .slice none 0 0] 35) (a1 := Ze b1 #[.int .i64 S.cap, .slice ra (Za S.rel).length rc, .int .i64 ((S.fresh + 1) + 1), .slice ga (Za (S.gen.drop 1)).length gc, .slice oa (Zc (S.used.drop 1)).length oc] 35) rfl
  refine WL.nil <| WC.seq <| WC.plan [([0, 3, 1, 4], some (2, [3, 4])), ([6], some (5, [6])), ([], some (7, [])), ([8], some (9, []))] (by kernel_rfl) (by kernel_rfl) ?_
  refine WQ.run 4 [.slice ga (Za (S.gen.drop 1)).length gc, .slice oa (Zc (S.used.drop 1)).length oc] rfl (by exact ⟨Z.ld 1 rfl rfl, Z.ld 1 rfl rfl⟩) ?_
  refine WQ.nil ?_
  intro m1
  replace Z := Z.drewN m1; generalize hwm1 : World.drewN _ _ = w at *; clear hwm1
  replace Z := Z.nil_ 64 1
  refine WL.app rfl rfl 0 (Za (S.gen.drop 1)) el_32 Z rfl (Z.srcS 4 rfl) (List.nil_append _) (Rm.of (by first | omega | (simp <;> omega)) (by decide)) rfl rfl (fun a1 c1 w Z => ?_)
  replace Z := Z.n6 L (a0 := Zf 64 1 (Za (S.gen.drop 1)) a1 c1) rfl
  refine WL.nil ?_
  refine ⟨by exact ⟨RQ.pure rfl rfl rfl rfl, RQ.load rfl rfl rfl rfl (Z.ld 2 rfl rfl)⟩, ?_⟩
  refine WQ.r 1 rfl <| WQ.nil ?_
  intro m2
  replace Z := Z.drewN m2; generalize hwm2 : World.drewN _ _ = w at *; clear hwm2
  replace Z := Z.nil_ 4 1
  refine WL.app rfl rfl 0 (Zc (S.used.drop 1)) el_33 Z rfl (Z.srcS 6 rfl) (List.nil_append _) (Rm.of (by first | omega | (simp <;> omega)) (by decide)) rfl rfl (fun a2 c2 w Z => ?_)
  replace Z := Z.n7 L (a0 := Zf 4 1 (Zc (S.used.drop 1)) a2 c2) rfl
  refine WL.nil ?_
  refine ⟨by exact RQ.pure rfl rfl rfl rfl, ?_⟩
  refine WQ.nil ?_
  intro m3
  replace Z := Z.drewN m3; generalize hwm3 : World.drewN _ _ = w at *; clear hwm3
  refine WL.st rfl rfl rfl 3 Z rfl rfl rfl rfl rfl rfl (fun w Z => ?_)
  replace Z := Z.n7 L (a3 := Ze b1 #[.int .i64 S.cap, .slice ra (Za S.rel).length rc, .int .i64 ((S.fresh + 1) + 1), .slice a1 (Za (S.gen.drop 1)).length c1, .slice oa (Zc (S.used.drop 1)).length oc] 35) rfl
  refine WL.nil ?_
  refine ⟨by exact trivial, ?_⟩
  refine WQ.r 1 rfl <| WQ.nil ?_
  intro m4
  replace Z := Z.drewN m4; generalize hwm4 : World.drewN _ _ = w at *; clear hwm4
  refine WL.st rfl rfl rfl 3 Z rfl rfl rfl rfl rfl rfl (fun w Z => ?_)
  replace Z := Z.n7 L (a3 := Ze b1 #[.int .i64 S.cap, .slice ra (Za S.rel).length rc, .int .i64 ((S.fresh + 1) + 1), .slice a1 (Za (S.gen.drop 1)).length c1, .slice a2 (Zc (S.used.drop 1)).length c2] 35) rfl
  refine WL.nil ?_
  refine ⟨by exact trivial, ?_⟩
  intro m5
  replace Z := Z.drewN m5; generalize hwm5 : World.drewN _ _ = w at *; clear hwm5
  as_aux_lemma =>
  refine WC.seq <| WC.region ?_
  obtain ⟨v, hv⟩ : ∃ v, S.gen[S.next.toNat]? = some v := ⟨_, List.getElem?_eq_getElem (by omega)⟩; obtain ⟨u, hu⟩ : ∃ u, S.used[S.next.toNat]? = some u := ⟨_, List.getElem?_eq_getElem (by omega)⟩
  refine WL.run 4 [.slice a1 (Za (S.gen.drop 1)).length c1] rfl (by exact Z.ld 3 rfl rfl) ?_
  refine WL.nw 49 rfl (Zr (by omega)) ?_
  refine WL.ix rfl rfl (i := (S.fresh + 1) - 1) (S.next.toNat - 1) el_32 rfl rfl (by omega) (by omega) (Z.rdO 1 rfl (Zl (ZM (by omega) hv))).1 ?_
  refine WL.run 2 [.int .u32 v] rfl (by exact (Z.rdO 1 rfl (Zl (ZM (by omega) hv))).2 0 _ rfl) ?_
  refine WL.reb 52 (.int .u32 ((v + 1) % 4294967296)) (congrArg (Value.int .u32) (by rfl)) ?_
  refine WL.ix rfl rfl (i := (S.fresh + 1) - 1) (S.next.toNat - 1) el_32 rfl rfl (by omega) (by omega) (Z.rdO 1 rfl (Zl (ZM (by omega) hv))).1 ?_
  refine WL.stE rfl rfl rfl 1 (S.next.toNat - 1) 0 [.int .u32 v] (Za ((S.gen.drop 1).set (S.next.toNat - 1) ((v + 1) % 4294967296))) Z rfl (Zl (ZM (by omega) hv)) rfl rfl rfl rfl rfl (XR _ _ _) (fun w Z => ?_)
  replace Z := Z.n7 L (a1 := Zf 64 1 (Za ((S.gen.drop 1).set (S.next.toNat - 1) ((v + 1) % 4294967296))) a1 c1) rfl
  refine WL.nil <| WC.seq <| WC.region <| WL.run 4 [.slice a2 (Zc (S.used.drop 1)).length c2] rfl (by exact Z.ld 3 rfl rfl) ?_
  refine WL.nw 57 rfl (Zr (by omega)) ?_
  refine WL.ix rfl rfl (i := (S.fresh + 1) - 1) (S.next.toNat - 1) el_33 rfl rfl (by omega) (by omega) (Z.rdO 0 rfl (Zu (ZM (by omega) hu))).1 ?_
  refine WL.stE rfl rfl rfl 0 (S.next.toNat - 1) 0 [.bool u] (Zc ((S.used.drop 1).set (S.next.toNat - 1) true)) Z rfl (Zu (ZM (by omega) hu)) rfl rfl rfl rfl rfl (YL _ _ _) (fun w Z => ?_)
  replace Z := Z.n7 L (a0 := Zf 4 1 (Zc ((S.used.drop 1).set (S.next.toNat - 1) true)) a2 c2) rfl
  refine WL.nil <| WC.seq <| WC.region ?_
  have hge : S.genOf S.next = v := (by unfold SM.genOf; rw [hv]; rfl); have e1 : S.alloc.gen.drop 1 = (S.gen.drop 1).set (S.next.toNat - 1) ((v + 1) % 4294967296) := (by rw [← hge]; exact Y4 _ (by omega) _); have e2 : S.alloc.used.drop 1 = (S.used.drop 1).set (S.next.toNat - 1) true := Y4 _ (by omega) _; have e3 : S.alloc.cap = S.cap := (by unfold SM.cap SM.alloc; simp)
  refine WL.ldF rfl rfl 3 Z rfl rfl Z0 <| WL.r 2 rfl <| WL.nw 61 rfl (Yq (by omega)) ?_
  refine WL.stF rfl rfl rfl 2 Z rfl rfl rfl rfl rfl Z0 (fun w Z => ?_)
  replace Z := Z.n7 L (a2 := Ze b2 #[.int .i64 S.cap, .slice ra (Za S.rel).length rc, .int .i64 ((S.fresh + 1) + 1), .slice a1 (Za (S.gen.drop 1)).length c1, .slice a2 (Zc (S.used.drop 1)).length c2] 35) rfl
  refine WL.r 2 rfl <| WL.nil ?_
  as_aux_lemma =>
  refine WC.ret ?_
  have l1 : (Za (S.gen.drop 1)).length = (Za (S.alloc.gen.drop 1)).length := (by rw [e1]; simp); have l2 : (Zc (S.used.drop 1)).length = (Zc (S.alloc.used.drop 1)).length := (by rw [e2]; simp); have q1 : S.rel = S.alloc.rel := (by show S.rel = S.rel.dropLast; rw [Zff cd1]; rfl); have q2 : S.fresh + 1 = S.alloc.fresh := (if_pos (Zff cd1)).symm; rw [l1, l2, ← e1, ← e2, ← e3, q2] at Z; replace Z := ((Z.at_ 0 rfl).share.at_ 1 rfl).share.sel 7 [4, 0, 0, 0] rfl; rw [q1] at Z
  replace Z : St g (Sh 64 1 (Za S.alloc.rel) ra rc :: Sh 64 1 (Za (S.alloc.gen.drop 1)) a1 c1 :: Sh 4 1 (Zc (S.alloc.used.drop 1)) a2 c2 :: Ze b2 #[.int .i64 S.alloc.cap, .slice ra (Za S.alloc.rel).length rc, .int .i64 (S.alloc.fresh + 1), .slice a1 (Za (S.alloc.gen.drop 1)).length c1, .slice a2 (Zc (S.alloc.used.drop 1)).length c2] 35 :: L) w := Z
  refine ⟨[.agg #[.int .i64 S.alloc.cap, .slice ra (Za S.alloc.rel).length rc, .int .i64 (S.alloc.fresh + 1), .slice a1 (Za (S.alloc.gen.drop 1)).length c1, .slice a2 (Zc (S.alloc.used.drop 1)).length c2], .int .u32 (S.fresh + 1), .int .i64 0], ⟨⟨_, rfl, Z.lvF 3 rfl Z0⟩, rfl, rfl⟩, ?_⟩
  replace Z := (Z.sel 4 [0, 0, 0] rfl)
  exact ⟨_, _, _, _, _, _, by rw [hnn]; rfl, Z, ⟨hnx.1, hnx.2.1⟩⟩
theorem q_rel {g w : World} {L : List HP} (S : SM) (ra ga oa : Option Addr) (rc gc oc : Nat) (i : Int) (hO : SOk S) (hi : 0 ≤ i ∧ i ≤ 4294967295) (hk : S.ok i = true) (Z : St g (Sh 64 1 (Za S.rel) ra rc :: Sh 64 1 (Za (S.gen.drop 1)) ga gc :: Sh 4 1 (Zc (S.used.drop 1)) oa oc :: L) w) :
  Sp Tryz.prog 191 [.agg #[.int .i64 S.cap, .slice ra (Za S.rel).length rc, .int .i64 (S.fresh + 1), .slice ga (Za (S.gen.drop 1)).length gc, .slice oa (Zc (S.used.drop 1)).length oc], .int .u32 i] w (fun v w' => ∃ (ra2 oa2 : Option Addr) (rc2 oc2 : Nat), v = .tuple #[.agg #[.int .i64 (S.release i).cap, .slice ra2 (Za (S.release i).rel).length rc2, .int .i64 ((S.release i).fresh + 1), .slice ga (List.length (Za ((S.release i).gen.drop 1))) gc, .slice oa2 (List.length (Zc ((S.release i).used.drop 1))) oc2], .int .i64 0] ∧ St g (Sh 64 1 (Za (S.release i).rel) ra2 rc2 :: Sh 64 1 (Za ((S.release i).gen.drop 1)) ga gc :: Sh 4 1 (Zc ((S.release i).used.drop 1)) oa2 oc2 :: L) w') := by
 refine Sp.enter Tryz.func191 rfl (by kernel_rfl) (by kernel_rfl) ?_
 refine WC.seq <| WC.region <| WL.box rfl rfl #[.int .i64 S.cap, .slice ra (Za S.rel).length rc, .int .i64 (S.fresh + 1), .slice ga (Za (S.gen.drop 1)).length gc, .slice oa (Zc (S.used.drop 1)).length oc] Z rfl rfl (fun b1 w Z => ?_)
 refine WL.new rfl rfl QU Z (fun b2 w Z => ?_)
 refine WL.r 1 rfl <| WL.nil <| WC.seq <| WC.seq <| WC.region ?_
 have hfr := hO.fr; have hcp : S.cap = (S.used.length : Int) - 1 := rfl; have hle := hO.cap; have hir := S.ok_rng hO hi.1 hk; have hrl := hO.rle; have hu1 := Zv (S.used.drop 1); have hr1 := Zk S.rel; have hdu : (S.used.drop 1).length = S.used.length - 1 := List.length_drop ..
 refine WL.ldF rfl rfl 1 Z rfl rfl Z0 <| WL.r 1 rfl <| WL.call rfl rfl (Zo1 (S := S) (ra := ra) (ga := ga) (rc := rc) (gc := gc) (i := i) (hO := hO) (hi := hi) (Z := (Z.sel 5 [4, 0, 0, 0, 0] rfl))) rfl ?_
 clear Z; rintro _ w ⟨rfl, Z⟩
 replace Z := Z.n5 L (a1 := Ze b2 #[.int .i64 0, .slice none 0 0, .int .i64 0, .slice none 0 0, .slice none 0 0] 35) (a2 := Ze b1 #[.int .i64 S.cap, .slice ra (Za S.rel).length rc, .int .i64 (S.fresh + 1), .slice ga (Za (S.gen.drop 1)).length gc, .slice oa (Zc (S.used.drop 1)).length oc] 35) rfl
 refine WL.r 1 rfl <| WL.nil <| WC.ifF rfl (by rw [hk]; decide) ?_
 refine WC.skip <| WC.seq <| WC.region ?_
 have hsn := Zg9 S.rel i
 refine WL.run 2 [.slice ra (Za S.rel).length rc] rfl (by exact Z.ld 2 rfl rfl) ?_
 replace Z := Z.nil_ 64 1
 refine WL.app rfl rfl 0 (Za S.rel) el_32 Z rfl (Z.srcS 4 rfl) (List.nil_append _) (Rm.of (by first | omega | (simp <;> omega)) (by decide)) rfl rfl (fun a1 c1 w Z => ?_)
 replace Z := Z.n6 L (a0 := Zf 64 1 (Za S.rel) a1 c1) rfl
 refine WL.r 1 rfl <| WL.lit rfl rfl (Za [i]) el_32 Z (by exact ⟨rfl, rfl⟩) (Yn _) rfl (Nat.le_of_ble_eq_true rfl) (fun b3 w Z => ?_)
 refine WL.app rfl rfl 1 (Za (S.rel ++ [i])) el_32 Z rfl (Z.srcO 0 rfl) (Yg _ _).symm (Rm.of (by first | omega | (simp <;> omega)) (by decide)) rfl rfl (fun a2 c2 w Z => ?_)
 replace Z := Z.n7 L (a0 := Zf 64 1 (Za [i]) (some ⟨b3, 0, none⟩) (Za [i]).length) (a1 := Zf 64 1 (Za (S.rel ++ [i])) a2 c2) rfl
 refine WL.r 1 rfl <| WL.st rfl rfl rfl 4 Z rfl rfl rfl rfl rfl rfl (fun w Z => ?_)
 replace Z := Z.n7 L (a4 := Ze b1 #[.int .i64 S.cap, .slice a2 (Za (S.rel ++ [i])).length c2, .int .i64 (S.fresh + 1), .slice ga (Za (S.gen.drop 1)).length gc, .slice oa (Zc (S.used.drop 1)).length oc] 35) rfl
 refine WL.nil ?_
 as_aux_lemma =>
 refine WC.seq <| WC.region <| WL.run 2 [.slice oa (Zc (S.used.drop 1)).length oc] rfl (by exact Z.ld 4 rfl rfl) ?_
 replace Z := Z.nil_ 4 1
 refine WL.app rfl rfl 0 (Zc (S.used.drop 1)) el_33 Z rfl (Z.srcS 3 rfl) (List.nil_append _) (Rm.of (by first | omega | (simp <;> omega)) (by decide)) rfl rfl (fun a3 c3 w Z => ?_)
 replace Z := Z.n8 L (a0 := Zf 4 1 (Zc (S.used.drop 1)) a3 c3) rfl
 refine WL.r 1 rfl <| WL.st rfl rfl rfl 5 Z rfl rfl rfl rfl rfl rfl (fun w Z => ?_)
 replace Z := Z.n8 L (a5 := Ze b1 #[.int .i64 S.cap, .slice a2 (Za (S.rel ++ [i])).length c2, .int .i64 (S.fresh + 1), .slice ga (Za (S.gen.drop 1)).length gc, .slice a3 (Zc (S.used.drop 1)).length c3] 35) rfl
 refine WL.nil <| WC.seq <| WC.region <| WL.run 4 [.slice a3 (Zc (S.used.drop 1)).length c3] rfl (by exact Z.ld 5 rfl rfl) ?_
 refine WL.nw 25 rfl (Yq (by omega)) ?_
 obtain ⟨u, hu⟩ : ∃ u, S.used[i.toNat]? = some u := ⟨_, List.getElem?_eq_getElem (by omega)⟩
 refine WL.ix rfl rfl (i := i - 1) (i.toNat - 1) el_33 rfl rfl (by omega) (by omega) (Z.rdO 0 rfl (Zu (ZM (by omega) hu))).1 ?_
 refine WL.stE rfl rfl rfl 0 (i.toNat - 1) 0 [.bool u] (Zc ((S.used.drop 1).set (i.toNat - 1) false)) Z rfl (Zu (ZM (by omega) hu)) rfl rfl rfl rfl rfl (YL _ _ _) (fun w Z => ?_)
 replace Z := Z.n8 L (a0 := Zf 4 1 (Zc ((S.used.drop 1).set (i.toNat - 1) false)) a3 c3) rfl
 refine WL.nil <| WC.seq <| WC.region <| WL.ldF rfl rfl 5 Z rfl rfl Z0 <| WL.stF rfl rfl rfl 4 Z rfl rfl rfl rfl rfl Z0 (fun w Z => ?_)
 replace Z := Z.n8 L (a4 := Ze b2 #[.int .i64 S.cap, .slice a2 (Za (S.rel ++ [i])).length c2, .int .i64 (S.fresh + 1), .slice ga (Za (S.gen.drop 1)).length gc, .slice a3 (Zc (S.used.drop 1)).length c3] 35) rfl
 refine WL.r 1 rfl <| WL.nil ?_
 as_aux_lemma =>
 refine WC.ret ?_
 have e2 : (S.release i).used.drop 1 = (S.used.drop 1).set (i.toNat - 1) false := Y4 _ (by omega) _; have e3 : (S.release i).cap = S.cap := (by unfold SM.cap SM.release; simp); have l2 : (Zc (S.used.drop 1)).length = (Zc ((S.release i).used.drop 1)).length := (by rw [e2]; simp); rw [l2, ← e2, ← e3] at Z; replace Z := ((Z.at_ 0 rfl).share.at_ 2 rfl).share.sel 8 [0, 6, 0, 2] rfl
 replace Z : St g (Sh 64 1 (Za (S.release i).rel) a2 c2 :: Sh 64 1 (Za ((S.release i).gen.drop 1)) ga gc :: Sh 4 1 (Zc ((S.release i).used.drop 1)) a3 c3 :: Ze b2 #[.int .i64 (S.release i).cap, .slice a2 (Za (S.release i).rel).length c2, .int .i64 ((S.release i).fresh + 1), .slice ga (List.length (Za ((S.release i).gen.drop 1))) gc, .slice a3 (List.length (Zc ((S.release i).used.drop 1))) c3] 35 :: L) w := Z
 refine ⟨[.agg #[.int .i64 (S.release i).cap, .slice a2 (Za (S.release i).rel).length c2, .int .i64 ((S.release i).fresh + 1), .slice ga (List.length (Za ((S.release i).gen.drop 1))) gc, .slice a3 (List.length (Zc ((S.release i).used.drop 1))) c3], .int .i64 0], ⟨⟨_, rfl, Z.lvF 3 rfl Z0⟩, rfl⟩, ?_⟩
 replace Z := (Z.sel 4 [0, 0, 0] rfl)
 exact ⟨_, _, _, _, rfl, Z⟩
theorem Zjd {g w : World} {L : List HP} (i n : Int) (hi : 0 ≤ i ∧ i < 4294967296) (hn : 0 ≤ n ∧ n < 4294967296) (Z : St g (L) w) :
  Sp Tryz.prog 155 [.int .u32 i, .int .u32 n] w (fun v w' => v = .int .u64 (n * 4294967296 + i) ∧ St g (L) w') := by
 refine Sp.enter Tryz.func155 rfl (by kernel_rfl) (by kernel_rfl) ?_
 have _ := hn
 have _ := hi
 refine WC.seq <| WC.region <| WL.r 1 rfl <| WL.nil <| WC.seq <| WC.region <| WL.r 2 rfl <| WL.nw 6 rfl (Xg (by omega)) ?_
 refine WL.r 1 rfl <| WL.nw 7 rfl (Xg (by omega)) ?_
 refine WL.r 2 rfl <| WL.nw 9 rfl (Xg (by omega)) ?_
 refine WL.r 1 rfl <| WL.nw 10 rfl (Xg (by omega)) ?_
 refine WL.r 1 rfl <| WL.nil <| WC.ret ?_
 refine ⟨[.int .u64 ((n * 4294967296) + i)], rfl, ?_⟩
 exact ⟨rfl, Z⟩
theorem Ziy {g w : World} {L : List HP} (h : Int) (hh : 0 ≤ h ∧ h ≤ 18446744073709551615) (Z : St g (L) w) :
  Sp Tryz.prog 220 [.int .u64 h] w (fun v w' => v = .tuple #[.int .u32 (h % 4294967296), .int .u32 (h / 4294967296)] ∧ St g (L) w') := by
 refine Sp.enter Tryz.func220 rfl (by kernel_rfl) (by kernel_rfl) ?_
 have _ := hh
 refine WC.seq <| WC.region <| WL.r 2 rfl <| WL.nil <| WC.seq <| WC.region <| WL.r 2 rfl <| WL.reb 5 (.int .u64 (h % 4294967296)) (congrArg (Value.int .u64) (Int.tmod_eq_emod_of_nonneg (a := h) (by omega))) ?_
 refine WL.r 1 rfl <| WL.nw 6 rfl (Yq (by omega)) ?_
 refine WL.r 2 rfl <| WL.reb 8 (.int .u64 (h / 4294967296)) (congrArg (Value.int .u64) (Znj (p := h) (q := 4294967296) (by omega))) ?_
 refine WL.r 1 rfl <| WL.nw 9 rfl (Yq (by omega)) ?_
 refine WL.r 2 rfl <| WL.nil <| WC.ret ?_
 refine ⟨[.int .u32 (h % 4294967296), .int .u32 (h / 4294967296)], ⟨rfl, rfl⟩, ?_⟩
 exact ⟨rfl, Z⟩
theorem Znv {S : SM} {h : Int} (h1 : (! S.ok (h % 4294967296)) = true) : S.opn h = false := by
 have h2 : S.ok (h % 4294967296) = false := by simpa using h1
 unfold SM.opn; rw [h2]; rfl
theorem Zgo {S : SM} {h : Int} (h1 : ¬ (! S.ok (h % 4294967296)) = true) : S.opn h = decide (S.genOf (h % 4294967296) = h / 4294967296) := by
 have h2 : S.ok (h % 4294967296) = true := by simpa using h1
 unfold SM.opn SM.hd; rw [h2, Bool.true_and]
 exact decide_eq_decide.2 (by omega)
theorem Ql {g w : World} {L : List HP} (T : TM) (ra ga oa va : Option Addr) (rc gc oc vc : Nat) (h : Int) (hT : TOk T) (hh : 0 ≤ h ∧ h ≤ 18446744073709551615) (Z : St g (Sh 64 1 (Za T.s.rel) ra rc :: Sh 64 1 (Za (T.s.gen.drop 1)) ga gc :: Sh 4 1 (Zc (T.s.used.drop 1)) oa oc :: Sh 64 1 (Za (T.vals.drop 1)) va vc :: L) w) :
  Sp Tryz.prog 188 [.agg #[.int .i64 T.s.cap, .slice ra (Za T.s.rel).length rc, .int .i64 (T.s.fresh + 1), .slice ga (Za (T.s.gen.drop 1)).length gc, .slice oa (Zc (T.s.used.drop 1)).length oc, .slice va (Za (T.vals.drop 1)).length vc], .int .u64 h] w (fun v w' => v = .int .u32 (if T.s.opn h = true then h % 4294967296 else 0) ∧ St g (Sh 64 1 (Za T.s.rel) ra rc :: Sh 64 1 (Za (T.s.gen.drop 1)) ga gc :: Sh 4 1 (Zc (T.s.used.drop 1)) oa oc :: Sh 64 1 (Za (T.vals.drop 1)) va vc :: L) w') := by
 refine Sp.enter Tryz.func188 rfl (by kernel_rfl) (by kernel_rfl) ?_
 refine WC.seq <| WC.region <| WL.box rfl rfl #[.int .i64 T.s.cap, .slice ra (Za T.s.rel).length rc, .int .i64 (T.s.fresh + 1), .slice ga (Za (T.s.gen.drop 1)).length gc, .slice oa (Zc (T.s.used.drop 1)).length oc, .slice va (Za (T.vals.drop 1)).length vc] Z rfl rfl (fun b1 w Z => ?_)
 refine WL.r 1 rfl <| WL.nil <| WC.seq <| WC.region <| WL.r 1 rfl <| WL.call rfl rfl (Ziy (h := h) (hh := hh) (Z := Z)) rfl ?_
 clear Z; rintro _ w ⟨rfl, Z⟩
 replace Z := Z.n5 L (a0 := Ze b1 #[.int .i64 T.s.cap, .slice ra (Za T.s.rel).length rc, .int .i64 (T.s.fresh + 1), .slice ga (Za (T.s.gen.drop 1)).length gc, .slice oa (Zc (T.s.used.drop 1)).length oc, .slice va (Za (T.vals.drop 1)).length vc] 37) rfl
 refine WL.r 5 rfl <| WL.nil <| WC.seq <| WC.seq <| WC.region <| WL.r 1 rfl <| WL.ldC rfl rfl [.int .i64 T.s.cap, .slice ra (Za T.s.rel).length rc, .int .i64 (T.s.fresh + 1), .slice ga (Za (T.s.gen.drop 1)).length gc, .slice oa (Zc (T.s.used.drop 1)).length oc] Z0 rfl (Z.part 0 rfl rfl) <| WL.r 1 rfl <| WL.call rfl rfl (Zo1 (S := T.s) (ra := ra) (ga := ga) (rc := rc) (gc := gc) (i := h % 4294967296) (hO := hT.s) (hi := (by omega)) (Z := (Z.sel 4 [3, 0, 0, 0] rfl))) rfl ?_
 clear Z; rintro _ w ⟨rfl, Z⟩
 replace Z := Z.n5 L rfl
 refine WL.r 1 rfl <| WL.r 1 rfl ?_
 by_cases cg1 : (! (T.s.ok (h % 4294967296))) = true
 ·refine WL.reb 17 (.bool true) (congrArg Value.bool cg1) <| WL.skp rfl rfl rfl rfl <| WL.skp rfl rfl rfl rfl <| WL.skp rfl rfl rfl rfl <| WL.skp rfl rfl rfl rfl <| WL.skp rfl rfl rfl rfl <| WL.skp rfl rfl rfl rfl <| WL.r 1 rfl <| WL.nil ?_
  as_aux_lemma =>
  refine WC.ifT rfl rfl <| WC.seq <| WC.region <| WL.r 1 rfl <| WL.nil <| WC.ret ?_
  refine ⟨[.int .u32 0], rfl, ?_⟩
  replace Z := (Z.sel 4 [2, 2, 0] rfl)
  exact ⟨by rw [Znv cg1]; rfl, Z⟩
 ·refine WL.reb 17 (.bool false) (congrArg Value.bool (Bool.eq_false_iff.2 cg1)) <| WL.ung rfl rfl rfl <| WL.r 1 rfl <| WL.ung rfl rfl rfl <| WL.ldC rfl rfl [.int .i64 T.s.cap, .slice ra (Za T.s.rel).length rc, .int .i64 (T.s.fresh + 1), .slice ga (Za (T.s.gen.drop 1)).length gc, .slice oa (Zc (T.s.used.drop 1)).length oc] Z0 rfl (Z.part 1 rfl rfl) <| WL.ung rfl rfl rfl <| WL.r 1 rfl <| WL.ung rfl rfl rfl <| WL.call rfl rfl (Zh8 (S := T.s) (ra := ra) (oa := oa) (rc := rc) (oc := oc) (i := h % 4294967296) (hO := hT.s) (hi := (by omega)) (hi0 := (fun e => cg1 (by rw [e, Zoj hT.s]; rfl))) (Z := (Z.sel 4 [3, 0, 0, 0] rfl))) rfl ?_
  clear Z; rintro _ w ⟨rfl, Z⟩
  replace Z := Z.n5 L rfl
  refine WL.ung rfl rfl rfl <| WL.r 1 rfl <| WL.ung rfl rfl rfl <| WL.r 2 rfl <| WL.nil ?_
  as_aux_lemma =>
  refine WC.ifP rfl (fun cd1 => ?_) (fun cd1 => ?_)
  ·refine WC.seq <| WC.region <| WL.r 1 rfl <| WL.nil <| WC.ret ?_
   refine ⟨[.int .u32 0], rfl, ?_⟩
   replace Z := (Z.sel 4 [3, 0, 0] rfl)
   exact ⟨by rw [Zgo cg1, decide_eq_false cd1]; rfl, Z⟩
  ·refine WC.skip <| WC.seq <| WC.region <| WL.r 2 rfl <| WL.nil <| WC.ret ?_
   refine ⟨[.int .u32 (h % 4294967296)], rfl, ?_⟩
   replace Z := (Z.sel 4 [3, 0, 0] rfl)
   exact ⟨by rw [Zgo cg1, decide_eq_true (Classical.not_not.1 cd1)]; rfl, Z⟩
theorem Zfw {T : TM} (hT : TOk T) {h : Int} (hh : 0 ≤ h) (ho : T.s.opn h = true) : 1 ≤ h % 4294967296 ∧ h % 4294967296 ≤ T.s.cap ∧ (h % 4294967296).toNat < T.s.used.length := by
 have _ := hh
 have := T.s.ok_rng hT.s (by omega) (SM.opn_ok ho).1
 exact ⟨this.1, this.2.2.1, this.2.2.2⟩
theorem Zfl {g w : World} {L : List HP} (T : TM) (ra ga oa va : Option Addr) (rc gc oc vc : Nat) (h : Int) (hT : TOk T) (hh : 0 ≤ h ∧ h ≤ 18446744073709551615) (hn : T.s.opn h = false) (Z : St g (Sh 64 1 (Za T.s.rel) ra rc :: Sh 64 1 (Za (T.s.gen.drop 1)) ga gc :: Sh 4 1 (Zc (T.s.used.drop 1)) oa oc :: Sh 64 1 (Za (T.vals.drop 1)) va vc :: L) w) :
  Sp Tryz.prog 131 [.agg #[.int .i64 T.s.cap, .slice ra (Za T.s.rel).length rc, .int .i64 (T.s.fresh + 1), .slice ga (Za (T.s.gen.drop 1)).length gc, .slice oa (Zc (T.s.used.drop 1)).length oc, .slice va (Za (T.vals.drop 1)).length vc], .int .u64 h] w (fun v w' => v = .tuple #[.int .u32 0, .int .i64 5] ∧ St g (Sh 64 1 (Za T.s.rel) ra rc :: Sh 64 1 (Za (T.s.gen.drop 1)) ga gc :: Sh 4 1 (Zc (T.s.used.drop 1)) oa oc :: Sh 64 1 (Za (T.vals.drop 1)) va vc :: L) w') := by
 refine Sp.enter Tryz.func131 rfl (by kernel_rfl) (by kernel_rfl) ?_
 refine WC.seq <| WC.region <| WL.box rfl rfl #[.int .i64 T.s.cap, .slice ra (Za T.s.rel).length rc, .int .i64 (T.s.fresh + 1), .slice ga (Za (T.s.gen.drop 1)).length gc, .slice oa (Zc (T.s.used.drop 1)).length oc, .slice va (Za (T.vals.drop 1)).length vc] Z rfl rfl (fun b1 w Z => ?_)
 refine WL.r 2 rfl <| WL.nil <| WC.seq <| WC.region <| WL.ldF rfl rfl 0 Z rfl rfl ZD <| WL.r 1 rfl <| WL.call rfl rfl (Ql (T := T) (h := h) (hT := hT) (hh := hh) (Z := (Z.sel 5 [1, 1, 1, 1, 0] rfl))) rfl ?_
 clear Z; rintro _ w ⟨rfl, Z⟩
 replace Z := Z.n5 L (a4 := Ze b1 #[.int .i64 T.s.cap, .slice ra (Za T.s.rel).length rc, .int .i64 (T.s.fresh + 1), .slice ga (Za (T.s.gen.drop 1)).length gc, .slice oa (Zc (T.s.used.drop 1)).length oc, .slice va (Za (T.vals.drop 1)).length vc] 37) rfl
 refine WL.r 1 rfl <| WL.nil <| WC.seq <| WC.seq <| WC.region <| WL.r 2 rfl <| WL.nil <| WC.ifT rfl (decide_eq_true ((by rw [hn]; rfl))) ?_
 refine WC.seq <| WC.region <| WL.r 2 rfl <| WL.nil ?_
 as_aux_lemma =>
 refine WC.ret ?_
 refine ⟨[.int .u32 0, .int .i64 5], ⟨rfl, rfl⟩, ?_⟩
 replace Z := (Z.sel 5 [0, 0, 0, 0] rfl)
 exact ⟨rfl, Z⟩
theorem Zho {g w : World} {L : List HP} (T : TM) (ra ga oa va : Option Addr) (rc gc oc vc : Nat) (h : Int) (hT : TOk T) (hh : 0 ≤ h ∧ h ≤ 18446744073709551615) (hn : T.s.opn h = true) (Z : St g (Sh 64 1 (Za T.s.rel) ra rc :: Sh 64 1 (Za (T.s.gen.drop 1)) ga gc :: Sh 4 1 (Zc (T.s.used.drop 1)) oa oc :: Sh 64 1 (Za (T.vals.drop 1)) va vc :: L) w) :
  Sp Tryz.prog 131 [.agg #[.int .i64 T.s.cap, .slice ra (Za T.s.rel).length rc, .int .i64 (T.s.fresh + 1), .slice ga (Za (T.s.gen.drop 1)).length gc, .slice oa (Zc (T.s.used.drop 1)).length oc, .slice va (Za (T.vals.drop 1)).length vc], .int .u64 h] w (fun v w' => v = .tuple #[.int .u32 (T.val h), .int .i64 0] ∧ St g (Sh 64 1 (Za T.s.rel) ra rc :: Sh 64 1 (Za (T.s.gen.drop 1)) ga gc :: Sh 4 1 (Zc (T.s.used.drop 1)) oa oc :: Sh 64 1 (Za (T.vals.drop 1)) va vc :: L) w') := by
 refine Sp.enter Tryz.func131 rfl (by kernel_rfl) (by kernel_rfl) ?_
 refine WC.seq <| WC.region <| WL.box rfl rfl #[.int .i64 T.s.cap, .slice ra (Za T.s.rel).length rc, .int .i64 (T.s.fresh + 1), .slice ga (Za (T.s.gen.drop 1)).length gc, .slice oa (Zc (T.s.used.drop 1)).length oc, .slice va (Za (T.vals.drop 1)).length vc] Z rfl rfl (fun b1 w Z => ?_)
 refine WL.r 2 rfl <| WL.nil <| WC.seq <| WC.region ?_
 have hp := Zfw hT hh.1 hn; have hvl := hT.vl; have hv1 := Zk (T.vals.drop 1); have hdv : (T.vals.drop 1).length = T.vals.length - 1 := List.length_drop ..
 refine WL.ldF rfl rfl 0 Z rfl rfl ZD <| WL.r 1 rfl <| WL.call rfl rfl (Ql (T := T) (h := h) (hT := hT) (hh := hh) (Z := (Z.sel 5 [1, 1, 1, 1, 0] rfl))) rfl ?_
 clear Z; rintro _ w ⟨rfl, Z⟩
 replace Z := Z.n5 L (a4 := Ze b1 #[.int .i64 T.s.cap, .slice ra (Za T.s.rel).length rc, .int .i64 (T.s.fresh + 1), .slice ga (Za (T.s.gen.drop 1)).length gc, .slice oa (Zc (T.s.used.drop 1)).length oc, .slice va (Za (T.vals.drop 1)).length vc] 37) rfl
 refine WL.r 1 rfl <| WL.nil <| WC.seq <| WC.seq <| WC.region <| WL.reb 6 (.int .u32 (h % 4294967296)) (congrArg (Value.int .u32) (if_pos hn)) <| WL.r 2 rfl <| WL.nil <| WC.ifF rfl (decide_eq_false ((by omega))) ?_
 refine WC.skip <| WC.seq <| WC.region <| WL.run 4 [.slice va (Za (T.vals.drop 1)).length vc] rfl (by exact Z.ld 4 rfl rfl) ?_
 refine WL.nw 15 rfl (Yq (by omega)) ?_
 obtain ⟨v, hv⟩ : ∃ v, T.vals[(h % 4294967296).toNat]? = some v := ⟨_, List.getElem?_eq_getElem (by omega)⟩
 refine WL.ix rfl rfl (i := (h % 4294967296) - 1) ((h % 4294967296).toNat - 1) el_32 rfl rfl (by omega) (by omega) (Z.rdS 3 rfl (Zl (ZM (by omega) hv))).1 ?_
 refine WL.run 3 [.int .u32 v] rfl (by exact (Z.rdS 3 rfl (Zl (ZM (by omega) hv))).2 0 _ rfl) ?_
 refine WL.nil ?_
 as_aux_lemma =>
 refine WC.ret ?_
 refine ⟨[.int .u32 v, .int .i64 0], ⟨rfl, rfl⟩, ?_⟩
 replace Z := (Z.sel 5 [0, 0, 0, 0] rfl)
 exact ⟨by unfold TM.val; rw [hv]; rfl, Z⟩
theorem Zpn {g w : World} {L : List HP} (T : TM) (ra ga oa va : Option Addr) (rc gc oc vc : Nat) (nv : Int) (hT : TOk T) (hf : 0 < T.s.free) (hv : 0 ≤ nv ∧ nv < 4294967296) (Z : St g (Sh 64 1 (Za T.s.rel) ra rc :: Sh 64 1 (Za (T.s.gen.drop 1)) ga gc :: Sh 4 1 (Zc (T.s.used.drop 1)) oa oc :: Sh 64 1 (Za (T.vals.drop 1)) va vc :: L) w) :
  Sp Tryz.prog 134 [.agg #[.int .i64 T.s.cap, .slice ra (Za T.s.rel).length rc, .int .i64 (T.s.fresh + 1), .slice ga (Za (T.s.gen.drop 1)).length gc, .slice oa (Zc (T.s.used.drop 1)).length oc, .slice va (Za (T.vals.drop 1)).length vc], .int .u32 nv] w (fun v w' => ∃ (ra2 ga2 oa2 va2 : Option Addr) (rc2 gc2 oc2 vc2 : Nat), v = .tuple #[.agg #[.int .i64 (T.open nv).s.cap, .slice ra2 (Za (T.open nv).s.rel).length rc2, .int .i64 ((T.open nv).s.fresh + 1), .slice ga2 (List.length (Za ((T.open nv).s.gen.drop 1))) gc2, .slice oa2 (List.length (Zc ((T.open nv).s.used.drop 1))) oc2, .slice va2 (List.length (Za ((T.open nv).vals.drop 1))) vc2], .int .u64 T.newH, .int .i64 0] ∧ St g (Sh 64 1 (Za (T.open nv).s.rel) ra2 rc2 :: Sh 64 1 (Za ((T.open nv).s.gen.drop 1)) ga2 gc2 :: Sh 4 1 (Zc ((T.open nv).s.used.drop 1)) oa2 oc2 :: Sh 64 1 (Za ((T.open nv).vals.drop 1)) va2 vc2 :: L) w') := by
 refine Sp.enter Tryz.func134 rfl (by kernel_rfl) (by kernel_rfl) ?_
 have _ := hv
 refine WC.seq <| WC.region <| WL.box rfl rfl #[.int .i64 T.s.cap, .slice ra (Za T.s.rel).length rc, .int .i64 (T.s.fresh + 1), .slice ga (Za (T.s.gen.drop 1)).length gc, .slice oa (Zc (T.s.used.drop 1)).length oc, .slice va (Za (T.vals.drop 1)).length vc] Z rfl rfl (fun b1 w Z => ?_)
 refine WL.new rfl rfl JG Z (fun b2 w Z => ?_)
 refine WL.r 2 rfl <| WL.nil <| WC.seq <| WC.region ?_
 have hvl := hT.vl; have hv1 := Zk (T.vals.drop 1); have hdv : (T.vals.drop 1).length = T.vals.length - 1 := List.length_drop ..; have hle := hT.s.cap
 refine WL.r 1 rfl <| WL.ldC rfl rfl [.int .i64 T.s.cap, .slice ra (Za T.s.rel).length rc, .int .i64 (T.s.fresh + 1), .slice ga (Za (T.s.gen.drop 1)).length gc, .slice oa (Zc (T.s.used.drop 1)).length oc] Z0 rfl (Z.part 1 rfl rfl) <| WL.call rfl rfl (Zm6 (S := T.s) (hO := hT.s) (hf := hf) (Z := (Z.sel 5 [2, 2, 2, 0, 0] rfl))) rfl ?_
 clear Z; rintro _ w ⟨ra1, ga1, oa1, rc1, gc1, oc1, rfl, Z, f1⟩
 replace Z := Z.n6 L (a0 := Sh 64 1 (Za T.s.alloc.rel) ra1 rc1) (a1 := Sh 64 1 (Za (T.s.alloc.gen.drop 1)) ga1 gc1) (a2 := Sh 4 1 (Zc (T.s.alloc.used.drop 1)) oa1 oc1) (a3 := Ze b2 #[.int .i64 0, .slice none 0 0, .int .i64 0, .slice none 0 0, .slice none 0 0, .slice none 0 0] 37) (a4 := Ze b1 #[.int .i64 T.s.cap, .slice ra (Za T.s.rel).length rc, .int .i64 (T.s.fresh + 1), .slice ga (Za (T.s.gen.drop 1)).length gc, .slice oa (Zc (T.s.used.drop 1)).length oc, .slice va (Za (T.vals.drop 1)).length vc] 37) rfl
 refine WL.r 4 rfl <| WL.new rfl rfl QU Z (fun b3 w Z => ?_)
 refine WL.stF rfl rfl rfl 0 Z rfl rfl rfl rfl rfl Z0 (fun w Z => ?_)
 replace Z := Z.n7 L (a0 := Ze b3 #[.int .i64 T.s.alloc.cap, .slice ra1 (Za T.s.alloc.rel).length rc1, .int .i64 (T.s.alloc.fresh + 1), .slice ga1 (Za (T.s.alloc.gen.drop 1)).length gc1, .slice oa1 (Zc (T.s.alloc.used.drop 1)).length oc1] 35) rfl
 refine WL.r 2 rfl <| WL.nil <| WC.seq <| WC.seq <| WC.region <| WL.r 2 rfl <| WL.nil ?_
 as_aux_lemma =>
 refine WC.ifF rfl (decide_eq_false ((by decide))) ?_
 refine WC.skip <| WC.seq <| WC.plan [([0, 1, 2, 4], some (3, [0, 4])), ([], some (5, [])), ([6], some (7, []))] (by kernel_rfl) (by kernel_rfl) ?_
 refine WQ.ldF rfl rfl 0 Z rfl rfl Z0 <| WQ.run 3 [.slice va (Za (T.vals.drop 1)).length vc] rfl (by exact Z.ld 5 rfl rfl) ?_
 refine WQ.nil ?_
 intro m1
 replace Z := Z.drewN m1; generalize hwm1 : World.drewN _ _ = w at *; clear hwm1
 replace Z := Z.nil_ 64 1
 refine WL.app rfl rfl 0 (Za (T.vals.drop 1)) el_32 Z rfl (Z.srcS 7 rfl) (List.nil_append _) (Rm.of (by first | omega | (simp <;> omega)) (by decide)) rfl rfl (fun a1 c1 w Z => ?_)
 replace Z := Z.n8 L (a0 := Zf 64 1 (Za (T.vals.drop 1)) a1 c1) rfl
 refine WL.nil ?_
 refine ⟨by exact ⟨RQ.ldF rfl rfl 1 Z rfl rfl Z0 rfl rfl, RQ.pure rfl rfl rfl rfl⟩, ?_⟩
 refine WQ.nil ?_
 intro m2
 replace Z := Z.drewN m2; generalize hwm2 : World.drewN _ _ = w at *; clear hwm2
 refine WL.stP (ds := #[.int .i64 T.s.alloc.cap, .slice ra1 (Za T.s.alloc.rel).length rc1, .int .i64 (T.s.alloc.fresh + 1), .slice ga1 (Za (T.s.alloc.gen.drop 1)).length gc1, .slice oa1 (Zc (T.s.alloc.used.drop 1)).length oc1, .slice va (Za (T.vals.drop 1)).length vc]) rfl rfl rfl 6 Z rfl rfl rfl rfl (Nat.le_of_ble_eq_true rfl) rfl Z0 (fun w Z => ?_)
 replace Z := Z.n8 L (a6 := Ze b1 #[.int .i64 T.s.alloc.cap, .slice ra1 (Za T.s.alloc.rel).length rc1, .int .i64 (T.s.alloc.fresh + 1), .slice ga1 (Za (T.s.alloc.gen.drop 1)).length gc1, .slice oa1 (Zc (T.s.alloc.used.drop 1)).length oc1, .slice va (Za (T.vals.drop 1)).length vc] 37) rfl
 refine WL.nil ?_
 refine ⟨by exact trivial, ?_⟩
 refine WQ.r 1 rfl <| WQ.nil ?_
 intro m3
 replace Z := Z.drewN m3; generalize hwm3 : World.drewN _ _ = w at *; clear hwm3
 refine WL.st rfl rfl rfl 6 Z rfl rfl rfl rfl rfl rfl (fun w Z => ?_)
 replace Z := Z.n8 L (a6 := Ze b1 #[.int .i64 T.s.alloc.cap, .slice ra1 (Za T.s.alloc.rel).length rc1, .int .i64 (T.s.alloc.fresh + 1), .slice ga1 (Za (T.s.alloc.gen.drop 1)).length gc1, .slice oa1 (Zc (T.s.alloc.used.drop 1)).length oc1, .slice a1 (Za (T.vals.drop 1)).length c1] 37) rfl
 refine WL.nil ?_
 refine ⟨by exact trivial, ?_⟩
 intro m4
 replace Z := Z.drewN m4; generalize hwm4 : World.drewN _ _ = w at *; clear hwm4
 as_aux_lemma =>
 refine WC.seq <| WC.region ?_
 have hso := SM.alloc_sok hT.s hf; have hnx := T.s.next_rng hT.s hf
 refine WL.run 4 [.slice a1 (Za (T.vals.drop 1)).length c1] rfl (by exact Z.ld 6 rfl rfl) ?_
 refine WL.nw 30 rfl (Yq (by omega)) ?_
 refine WL.r 1 rfl ?_
 obtain ⟨y, hw⟩ : ∃ y, T.vals[T.s.next.toNat]? = some y := ⟨_, List.getElem?_eq_getElem (by omega)⟩
 refine WL.ix rfl rfl (i := T.s.next - 1) (T.s.next.toNat - 1) el_32 rfl rfl (by omega) (by omega) (Z.rdO 0 rfl (Zl (ZM (by omega) hw))).1 ?_
 refine WL.stE rfl rfl rfl 0 (T.s.next.toNat - 1) 0 [.int .u32 y] (Za ((T.vals.drop 1).set (T.s.next.toNat - 1) nv)) Z rfl (Zl (ZM (by omega) hw)) rfl rfl rfl rfl rfl (XR _ _ _) (fun w Z => ?_)
 replace Z := Z.n8 L (a0 := Zf 64 1 (Za ((T.vals.drop 1).set (T.s.next.toNat - 1) nv)) a1 c1) rfl
 refine WL.nil <| WC.seq <| WC.plan [([0, 1, 2, 3], some (4, [0, 1])), ([], some (5, [0])), ([], some (6, [])), ([7, 8], none)] (by kernel_rfl) (by kernel_rfl) ?_
 refine WQ.ldF rfl rfl 6 Z rfl rfl ZD <| WQ.r 1 rfl <| WQ.ldF rfl rfl 1 Z rfl rfl Z0 <| WQ.r 1 rfl <| WQ.nil ?_
 intro m5
 replace Z := Z.drewN m5; generalize hwm5 : World.drewN _ _ = w at *; clear hwm5
 refine WL.call rfl rfl (Zh8 (S := T.s.alloc) (ra := ra1) (oa := oa1) (rc := rc1) (oc := oc1) (i := T.s.next) (hO := hso) (hi := (by omega)) (hi0 := (by omega)) (Z := (Z.sel 4 [3, 0, 0, 0] rfl))) rfl ?_
 clear Z; rintro _ w ⟨rfl, Z⟩
 replace Z := Z.n8 L rfl
 refine WL.nil ?_
 refine ⟨by exact ⟨RQ.ldF rfl rfl 6 Z rfl rfl ZD rfl rfl, RQ.pure rfl rfl rfl rfl⟩, ?_⟩
 refine WQ.nil ?_
 intro m6
 replace Z := Z.drewN m6; generalize hwm6 : World.drewN _ _ = w at *; clear hwm6
 refine WL.call rfl rfl (Zjd (i := T.s.next) (n := T.s.alloc.genOf T.s.next) (hi := (by omega)) (hn := hso.gen_rng _) (Z := Z)) rfl ?_
 clear Z; rintro _ w ⟨rfl, Z⟩
 replace Z := Z.n8 L rfl
 refine WL.nil ?_
 refine ⟨by exact RQ.ldF rfl rfl 6 Z rfl rfl ZD rfl rfl, ?_⟩
 refine WQ.nil ?_
 intro m7
 replace Z := Z.drewN m7; generalize hwm7 : World.drewN _ _ = w at *; clear hwm7
 refine WL.stF rfl rfl rfl 5 Z rfl rfl rfl rfl rfl ZD (fun w Z => ?_)
 replace Z := Z.n8 L (a5 := Ze b2 #[.int .i64 T.s.alloc.cap, .slice ra1 (Za T.s.alloc.rel).length rc1, .int .i64 (T.s.alloc.fresh + 1), .slice ga1 (Za (T.s.alloc.gen.drop 1)).length gc1, .slice oa1 (Zc (T.s.alloc.used.drop 1)).length oc1, .slice a1 (Za (T.vals.drop 1)).length c1] 37) rfl
 refine WL.nil ?_
 refine ⟨by exact trivial, ?_⟩
 refine WQ.r 2 rfl <| WQ.nil ?_
 intro m8
 replace Z := Z.drewN m8; generalize hwm8 : World.drewN _ _ = w at *; clear hwm8
 as_aux_lemma =>
 refine WC.ret ?_
 have e5 : (T.open nv).vals.drop 1 = (T.vals.drop 1).set (T.s.next.toNat - 1) nv := Y4 _ (by omega) _; have l5 : (Za (T.vals.drop 1)).length = (Za ((T.open nv).vals.drop 1)).length := (by rw [e5]; simp); rw [l5, ← e5] at Z; replace Z := (Z.at_ 1 rfl).share.sel 8 [3, 1, 2, 0, 1] rfl
 replace Z : St g (Sh 64 1 (Za (T.open nv).s.rel) ra1 rc1 :: Sh 64 1 (Za ((T.open nv).s.gen.drop 1)) ga1 gc1 :: Sh 4 1 (Zc ((T.open nv).s.used.drop 1)) oa1 oc1 :: Sh 64 1 (Za ((T.open nv).vals.drop 1)) a1 c1 :: Ze b2 #[.int .i64 (T.open nv).s.cap, .slice ra1 (Za (T.open nv).s.rel).length rc1, .int .i64 ((T.open nv).s.fresh + 1), .slice ga1 (List.length (Za ((T.open nv).s.gen.drop 1))) gc1, .slice oa1 (List.length (Zc ((T.open nv).s.used.drop 1))) oc1, .slice a1 (List.length (Za ((T.open nv).vals.drop 1))) c1] 37 :: L) w := Z
 refine ⟨[.agg #[.int .i64 (T.open nv).s.cap, .slice ra1 (Za (T.open nv).s.rel).length rc1, .int .i64 ((T.open nv).s.fresh + 1), .slice ga1 (List.length (Za ((T.open nv).s.gen.drop 1))) gc1, .slice oa1 (List.length (Zc ((T.open nv).s.used.drop 1))) oc1, .slice a1 (List.length (Za ((T.open nv).vals.drop 1))) c1], .int .u64 ((T.s.alloc.genOf T.s.next) * 4294967296 + T.s.next), .int .i64 0], ⟨⟨_, rfl, Z.lvF 4 rfl ZD⟩, rfl, rfl⟩, ?_⟩
 replace Z := (Z.sel 5 [0, 0, 0, 0] rfl)
 exact ⟨_, _, _, _, _, _, _, _, rfl, Z⟩
theorem Zcx {g w : World} {L : List HP} (T : TM) (ra ga oa va : Option Addr) (rc gc oc vc : Nat) (h : Int) (hT : TOk T) (hh : 0 ≤ h ∧ h ≤ 18446744073709551615) (hn : T.s.opn h = false) (Z : St g (Sh 64 1 (Za T.s.rel) ra rc :: Sh 64 1 (Za (T.s.gen.drop 1)) ga gc :: Sh 4 1 (Zc (T.s.used.drop 1)) oa oc :: Sh 64 1 (Za (T.vals.drop 1)) va vc :: L) w) :
  Sp Tryz.prog 135 [.agg #[.int .i64 T.s.cap, .slice ra (Za T.s.rel).length rc, .int .i64 (T.s.fresh + 1), .slice ga (Za (T.s.gen.drop 1)).length gc, .slice oa (Zc (T.s.used.drop 1)).length oc, .slice va (Za (T.vals.drop 1)).length vc], .int .u64 h] w (fun v w' => v = .tuple #[.agg #[.int .i64 T.s.cap, .slice ra (Za T.s.rel).length rc, .int .i64 (T.s.fresh + 1), .slice ga (Za (T.s.gen.drop 1)).length gc, .slice oa (Zc (T.s.used.drop 1)).length oc, .slice va (Za (T.vals.drop 1)).length vc], .int .u32 0, .int .i64 5] ∧ St g (Sh 64 1 (Za T.s.rel) ra rc :: Sh 64 1 (Za (T.s.gen.drop 1)) ga gc :: Sh 4 1 (Zc (T.s.used.drop 1)) oa oc :: Sh 64 1 (Za (T.vals.drop 1)) va vc :: L) w') := by
 refine Sp.enter Tryz.func135 rfl (by kernel_rfl) (by kernel_rfl) ?_
 refine WC.seq <| WC.region <| WL.box rfl rfl #[.int .i64 T.s.cap, .slice ra (Za T.s.rel).length rc, .int .i64 (T.s.fresh + 1), .slice ga (Za (T.s.gen.drop 1)).length gc, .slice oa (Zc (T.s.used.drop 1)).length oc, .slice va (Za (T.vals.drop 1)).length vc] Z rfl rfl (fun b1 w Z => ?_)
 refine WL.new rfl rfl JG Z (fun b2 w Z => ?_)
 refine WL.r 2 rfl <| WL.nil <| WC.seq <| WC.region <| WL.ldF rfl rfl 1 Z rfl rfl ZD <| WL.r 1 rfl <| WL.call rfl rfl (Ql (T := T) (h := h) (hT := hT) (hh := hh) (Z := (Z.sel 6 [2, 2, 2, 2, 0, 0] rfl))) rfl ?_
 clear Z; rintro _ w ⟨rfl, Z⟩
 replace Z := Z.n6 L (a4 := Ze b2 #[.int .i64 0, .slice none 0 0, .int .i64 0, .slice none 0 0, .slice none 0 0, .slice none 0 0] 37) (a5 := Ze b1 #[.int .i64 T.s.cap, .slice ra (Za T.s.rel).length rc, .int .i64 (T.s.fresh + 1), .slice ga (Za (T.s.gen.drop 1)).length gc, .slice oa (Zc (T.s.used.drop 1)).length oc, .slice va (Za (T.vals.drop 1)).length vc] 37) rfl
 refine WL.r 1 rfl <| WL.nil <| WC.seq <| WC.seq <| WC.region <| WL.r 2 rfl <| WL.nil <| WC.ifT rfl (decide_eq_true ((by rw [hn]; rfl))) ?_
 refine WC.seq <| WC.region <| WL.ldF rfl rfl 5 Z rfl rfl ZD <| WL.stF rfl rfl rfl 4 Z rfl rfl rfl rfl rfl ZD (fun w Z => ?_)
 replace Z := Z.n6 L (a4 := Ze b2 #[.int .i64 T.s.cap, .slice ra (Za T.s.rel).length rc, .int .i64 (T.s.fresh + 1), .slice ga (Za (T.s.gen.drop 1)).length gc, .slice oa (Zc (T.s.used.drop 1)).length oc, .slice va (Za (T.vals.drop 1)).length vc] 37) rfl
 refine WL.r 2 rfl <| WL.nil ?_
 as_aux_lemma =>
 refine WC.ret ?_
 refine ⟨[.agg #[.int .i64 T.s.cap, .slice ra (Za T.s.rel).length rc, .int .i64 (T.s.fresh + 1), .slice ga (Za (T.s.gen.drop 1)).length gc, .slice oa (Zc (T.s.used.drop 1)).length oc, .slice va (Za (T.vals.drop 1)).length vc], .int .u32 0, .int .i64 5], ⟨⟨_, rfl, Z.lvF 4 rfl ZD⟩, rfl, rfl⟩, ?_⟩
 replace Z := (Z.sel 6 [0, 0, 0, 0] rfl)
 exact ⟨rfl, Z⟩
theorem Zl9 {g w : World} {L : List HP} (T : TM) (ra ga oa va : Option Addr) (rc gc oc vc : Nat) (h : Int) (hT : TOk T) (hh : 0 ≤ h ∧ h ≤ 18446744073709551615) (hn : T.s.opn h = true) (Z : St g (Sh 64 1 (Za T.s.rel) ra rc :: Sh 64 1 (Za (T.s.gen.drop 1)) ga gc :: Sh 4 1 (Zc (T.s.used.drop 1)) oa oc :: Sh 64 1 (Za (T.vals.drop 1)) va vc :: L) w) :
  Sp Tryz.prog 135 [.agg #[.int .i64 T.s.cap, .slice ra (Za T.s.rel).length rc, .int .i64 (T.s.fresh + 1), .slice ga (Za (T.s.gen.drop 1)).length gc, .slice oa (Zc (T.s.used.drop 1)).length oc, .slice va (Za (T.vals.drop 1)).length vc], .int .u64 h] w (fun v w' => ∃ (ra2 oa2 : Option Addr) (rc2 oc2 : Nat), v = .tuple #[.agg #[.int .i64 (T.close h).s.cap, .slice ra2 (Za (T.close h).s.rel).length rc2, .int .i64 ((T.close h).s.fresh + 1), .slice ga (List.length (Za ((T.close h).s.gen.drop 1))) gc, .slice oa2 (List.length (Zc ((T.close h).s.used.drop 1))) oc2, .slice va (List.length (Za ((T.close h).vals.drop 1))) vc], .int .u32 (T.val h), .int .i64 0] ∧ St g (Sh 64 1 (Za (T.close h).s.rel) ra2 rc2 :: Sh 64 1 (Za ((T.close h).s.gen.drop 1)) ga gc :: Sh 4 1 (Zc ((T.close h).s.used.drop 1)) oa2 oc2 :: Sh 64 1 (Za ((T.close h).vals.drop 1)) va vc :: L) w') := by
 refine Sp.enter Tryz.func135 rfl (by kernel_rfl) (by kernel_rfl) ?_
 refine WC.seq <| WC.region <| WL.box rfl rfl #[.int .i64 T.s.cap, .slice ra (Za T.s.rel).length rc, .int .i64 (T.s.fresh + 1), .slice ga (Za (T.s.gen.drop 1)).length gc, .slice oa (Zc (T.s.used.drop 1)).length oc, .slice va (Za (T.vals.drop 1)).length vc] Z rfl rfl (fun b1 w Z => ?_)
 refine WL.new rfl rfl JG Z (fun b2 w Z => ?_)
 refine WL.r 2 rfl <| WL.nil <| WC.seq <| WC.region ?_
 have hp := Zfw hT hh.1 hn; have hvl := hT.vl; have hv1 := Zk (T.vals.drop 1); have hdv : (T.vals.drop 1).length = T.vals.length - 1 := List.length_drop ..
 refine WL.ldF rfl rfl 1 Z rfl rfl ZD <| WL.r 1 rfl <| WL.call rfl rfl (Ql (T := T) (h := h) (hT := hT) (hh := hh) (Z := (Z.sel 6 [2, 2, 2, 2, 0, 0] rfl))) rfl ?_
 clear Z; rintro _ w ⟨rfl, Z⟩
 replace Z := Z.n6 L (a4 := Ze b2 #[.int .i64 0, .slice none 0 0, .int .i64 0, .slice none 0 0, .slice none 0 0, .slice none 0 0] 37) (a5 := Ze b1 #[.int .i64 T.s.cap, .slice ra (Za T.s.rel).length rc, .int .i64 (T.s.fresh + 1), .slice ga (Za (T.s.gen.drop 1)).length gc, .slice oa (Zc (T.s.used.drop 1)).length oc, .slice va (Za (T.vals.drop 1)).length vc] 37) rfl
 refine WL.r 1 rfl <| WL.nil <| WC.seq <| WC.seq <| WC.region <| WL.reb 7 (.int .u32 (h % 4294967296)) (congrArg (Value.int .u32) (if_pos hn)) <| WL.r 2 rfl <| WL.nil <| WC.ifF rfl (decide_eq_false ((by omega))) ?_
 refine WC.skip ?_
 as_aux_lemma =>
 refine WC.seq <| WC.region <| WL.r 1 rfl <| WL.ldC rfl rfl [.int .i64 T.s.cap, .slice ra (Za T.s.rel).length rc, .int .i64 (T.s.fresh + 1), .slice ga (Za (T.s.gen.drop 1)).length gc, .slice oa (Zc (T.s.used.drop 1)).length oc] Z0 rfl (Z.part 5 rfl rfl) <| WL.r 1 rfl <| WL.call rfl rfl (q_rel (S := T.s) (i := h % 4294967296) (hO := hT.s) (hi := (by omega)) (hk := (SM.opn_ok hn).1) (Z := Z)) rfl ?_
 clear Z; rintro _ w ⟨ra1, oa1, rc1, oc1, rfl, Z⟩
 replace Z := Z.n6 L (a0 := Sh 64 1 (Za (T.s.release (h % 4294967296)).rel) ra1 rc1) (a1 := Sh 64 1 (Za ((T.s.release (h % 4294967296)).gen.drop 1)) ga gc) (a2 := Sh 4 1 (Zc ((T.s.release (h % 4294967296)).used.drop 1)) oa1 oc1) rfl
 refine WL.r 3 rfl <| WL.new rfl rfl QU Z (fun b3 w Z => ?_)
 refine WL.stF rfl rfl rfl 0 Z rfl rfl rfl rfl rfl Z0 (fun w Z => ?_)
 replace Z := Z.n7 L (a0 := Ze b3 #[.int .i64 (T.s.release (h % 4294967296)).cap, .slice ra1 (List.length (Za (T.s.release (h % 4294967296)).rel)) rc1, .int .i64 ((T.s.release (h % 4294967296)).fresh + 1), .slice ga (List.length (Za ((T.s.release (h % 4294967296)).gen.drop 1))) gc, .slice oa1 (List.length (Zc ((T.s.release (h % 4294967296)).used.drop 1))) oc1] 35) rfl
 refine WL.r 1 rfl <| WL.nil <| WC.seq <| WC.region <| WL.ldF rfl rfl 0 Z rfl rfl Z0 <| WL.r 1 rfl <| WL.stP (ds := #[.int .i64 (T.s.release (h % 4294967296)).cap, .slice ra1 (List.length (Za (T.s.release (h % 4294967296)).rel)) rc1, .int .i64 ((T.s.release (h % 4294967296)).fresh + 1), .slice ga (List.length (Za ((T.s.release (h % 4294967296)).gen.drop 1))) gc, .slice oa1 (List.length (Zc ((T.s.release (h % 4294967296)).used.drop 1))) oc1, .slice va (Za (T.vals.drop 1)).length vc]) rfl rfl rfl 6 Z rfl rfl rfl rfl (Nat.le_of_ble_eq_true rfl) rfl Z0 (fun w Z => ?_)
 replace Z := Z.n7 L (a6 := Ze b1 #[.int .i64 (T.s.release (h % 4294967296)).cap, .slice ra1 (List.length (Za (T.s.release (h % 4294967296)).rel)) rc1, .int .i64 ((T.s.release (h % 4294967296)).fresh + 1), .slice ga (List.length (Za ((T.s.release (h % 4294967296)).gen.drop 1))) gc, .slice oa1 (List.length (Zc ((T.s.release (h % 4294967296)).used.drop 1))) oc1, .slice va (Za (T.vals.drop 1)).length vc] 37) rfl
 refine WL.nil <| WC.seq <| WC.plan [([0, 1, 3, 2, 4, 5, 6], some (7, [1, 2, 3, 4, 5, 6])), ([8, 9], none)] (by kernel_rfl) (by kernel_rfl) ?_
 refine WQ.ldF rfl rfl 6 Z rfl rfl ZD <| WQ.run 4 [.slice va (Za (T.vals.drop 1)).length vc] rfl (by exact Z.ld 6 rfl rfl) ?_
 refine WQ.nw 29 rfl (Yq (by omega)) ?_
 obtain ⟨v, hv⟩ : ∃ v, T.vals[(h % 4294967296).toNat]? = some v := ⟨_, List.getElem?_eq_getElem (by omega)⟩; have hve : T.val h = v := (by unfold TM.val; rw [hv]; rfl)
 refine WQ.ix rfl rfl (i := (h % 4294967296) - 1) ((h % 4294967296).toNat - 1) el_32 rfl rfl (by omega) (by omega) (Z.rdS 4 rfl (Zl (ZM (by omega) hv))).1 ?_
 refine WQ.run 1 [.int .u32 v] rfl (by exact (Z.rdS 4 rfl (Zl (ZM (by omega) hv))).2 0 _ rfl) ?_
 refine WQ.nil ?_
 intro m1
 replace Z := Z.drewN m1; generalize hwm1 : World.drewN _ _ = w at *; clear hwm1
 refine WL.stF rfl rfl rfl 5 Z rfl rfl rfl rfl rfl ZD (fun w Z => ?_)
 replace Z := Z.n7 L (a5 := Ze b2 #[.int .i64 (T.s.release (h % 4294967296)).cap, .slice ra1 (List.length (Za (T.s.release (h % 4294967296)).rel)) rc1, .int .i64 ((T.s.release (h % 4294967296)).fresh + 1), .slice ga (List.length (Za ((T.s.release (h % 4294967296)).gen.drop 1))) gc, .slice oa1 (List.length (Zc ((T.s.release (h % 4294967296)).used.drop 1))) oc1, .slice va (Za (T.vals.drop 1)).length vc] 37) rfl
 refine WL.nil ?_
 refine ⟨by exact ⟨RQ.pure rfl rfl rfl rfl, RQ.load rfl rfl rfl rfl (Z.ld 6 rfl rfl), RQ.pure rfl rfl rfl rfl, RQ.pure rfl rfl rfl (congrArg (Value.int .u32) (Eq.symm (Yq (by omega)))), RQ.ix rfl rfl (i := (h % 4294967296) - 1) ((h % 4294967296).toNat - 1) el_32 rfl rfl (by omega) (by omega) (Z.rdS 4 rfl (Zl (ZM (by omega) hv))).1 rfl rfl, RQ.load rfl rfl rfl rfl ((Z.rdS 4 rfl (Zl (ZM (by omega) hv))).2 0 _ rfl)⟩, ?_⟩
 refine WQ.r 2 rfl <| WQ.nil ?_
 intro m2
 replace Z := Z.drewN m2; generalize hwm2 : World.drewN _ _ = w at *; clear hwm2
 as_aux_lemma =>
 refine WC.ret ?_
 refine ⟨[.agg #[.int .i64 (T.s.release (h % 4294967296)).cap, .slice ra1 (List.length (Za (T.s.release (h % 4294967296)).rel)) rc1, .int .i64 ((T.s.release (h % 4294967296)).fresh + 1), .slice ga (List.length (Za ((T.s.release (h % 4294967296)).gen.drop 1))) gc, .slice oa1 (List.length (Zc ((T.s.release (h % 4294967296)).used.drop 1))) oc1, .slice va (Za (T.vals.drop 1)).length vc], .int .u32 v, .int .i64 0], ⟨⟨_, rfl, Z.lvF 5 rfl ZD⟩, rfl, rfl⟩, ?_⟩
 replace Z := (Z.sel 7 [1, 1, 1, 1] rfl)
 exact ⟨_, _, _, _, by rw [hve]; rfl, Z⟩
end Go.Proofs.YtbeacjcmdijdmaaGreat
namespace Go.Proofs.YtbeacjcmdijdmaaGreat
open Go Go.V
def Ja (S : SM) (k : Nat) : List Int := (List.range k).map fun i : Nat => S.fresh + 1 + (i : Int)
def SM.order (S : SM) : List Int := S.rel.reverse ++ Ja S (S.cap - S.fresh).toNat
theorem Zd1 {l : List Int} {k : Nat} {x : Int} (h : l[k]? = some x) : (l.drop k).reverse = (l.drop (k + 1)).reverse ++ [x] := by
 obtain ⟨hl, rfl⟩ := List.getElem?_eq_some_iff.1 h
 rw [List.drop_eq_getElem_cons hl, List.reverse_cons]
theorem Zal (S : SM) (k : Nat) : Ja S (k + 1) = Ja S k ++ [S.fresh + 1 + (k : Int)] := by
 unfold Ja; rw [List.range_succ, List.map_append]; rfl
theorem Xe {g w : World} {L : List HP} (s : Nat) (S : SM) (hO : SOk S) (Z : St g (Yp s S :: L) w) :
  Sp Tryz.prog 79 [.pointer (some ⟨s, 0, none⟩)] w (fun v w' => ∃ (a2 : Option Addr) (c2 : Nat), v = .slice a2 (Za (SM.order S)).length c2 ∧ St g (Zf 64 1 (Za (SM.order S)) a2 c2 :: Yp s S :: L) w') := by
 refine Sp.enter Tryz.func79 rfl (by kernel_rfl) (by kernel_rfl) ?_
 refine WC.seq <| WC.region ?_
 obtain ⟨⟨ua, uc, ga, gc, ra, rc⟩, Z⟩ := St.exOpen (f := YT s S) Z
 replace Z : St g (Ze s #[.slice ua (Zc S.used).length uc, .slice ga (Za S.gen).length gc, .slice ra (Za S.rel).length rc, .int .u32 S.fresh] 243 :: Zf 4 1 (Zc S.used) ua uc :: Zf 64 1 (Za S.gen) ga gc :: Zf 64 1 (Za S.rel) ra rc :: L) w := Z
 have hfr := hO.fr; have hcp : S.cap = (S.used.length : Int) - 1 := rfl; have hle := hO.le; have hrl := hO.rle; have hfd : S.free = (S.rel.length : Int) + S.cap - S.fresh := rfl; have hru := Zk S.rel; have hbu := Zv S.used
 refine WL.r 1 rfl <| WL.nil <| WC.seq <| WC.region <| WL.r 1 rfl <| WL.call rfl rfl (Zko (ua := ua) (ga := ga) (ra := ra) (n := List.length (Zc S.used)) (ng := List.length (Za S.gen)) (nr := List.length (Za S.rel)) (uc := uc) (gc := gc) (rc := rc) (fr := S.fresh) (hn := (by omega)) (Z := Z)) rfl ?_
 clear Z; rintro _ w ⟨rfl, Z⟩
 replace Z := Z.n4 L rfl
 refine WL.make rfl rfl (v := 0) (v' := (Za S.rel).length + ((Zc S.used).length - 1) - S.fresh) (0) (S.free.toNat) el_32 Z rfl (by omega) rfl (by omega) (by omega) (Rm.of (by omega) (by decide)) (fun b1 w Z => ?_)
 replace Z := Z.n5 L (a0 := Zf 64 1 [] (some ⟨b1, 0, none⟩) S.free.toNat) rfl
 refine WL.r 1 rfl <| WL.nil <| WC.seq <| WC.seq <| WC.region <| WL.run 6 [.slice ra (Za S.rel).length rc] rfl (by exact Z.ld 1 rfl rfl) ?_
 refine WL.nw 14 rfl (Zr (by omega)) ?_
 refine WL.r 1 rfl <| WL.nil ?_
 as_aux_lemma =>
 refine WC.block <| WC.loop [0, 2, 3, 4] (fun kM vs w => ∃ (j : Int) (out : List Int) (ub : Option Addr) (ud : Nat), vs = [.pointer (some ⟨s, 0, none⟩), .slice none 0 0, .slice ub (Za out).length ud, .int .i64 j] ∧ St g (Zf 64 1 (Za out) ub ud :: Ze s #[.slice ua (Zc S.used).length uc, .slice ga (Za S.gen).length gc, .slice ra (Za S.rel).length rc, .int .u32 S.fresh] 243 :: Zf 4 1 (Zc S.used) ua uc :: Zf 64 1 (Za S.gen) ga gc :: Zf 64 1 (Za S.rel) ra rc :: L) w ∧ (-1 ≤ j ∧ j < S.rel.length) ∧ (out = (S.rel.drop (j + 1).toNat).reverse) ∧ ((j + 1).toNat) = kM) ((((List.length (Za S.rel) : Int) - 1) + 1).toNat) ⟨((Za S.rel).length : Int) - 1, [], (some ⟨b1, 0, none⟩), S.free.toNat, rfl, Z, (by omega), (by rw [List.drop_eq_nil_of_le (by omega)]; rfl), rfl⟩ ?_
 clear Z; rintro _ _ w j ⟨j, out, ub, ud, rfl, Z, hj, ho, rfl⟩
 refine WC.seq <| WC.seq <| WC.region <| WL.r 2 rfl <| WL.nil <| WC.ifP rfl (fun cd1 => ?_) (fun cd1 => ?_)
 ·refine WC.skip <| WC.seq <| WC.block <| WC.region <| WL.run 6 [.slice ra (Za S.rel).length rc] rfl (by exact Z.ld 1 rfl rfl) ?_
  obtain ⟨x, hx⟩ : ∃ x, S.rel[j.toNat]? = some x := ⟨_, List.getElem?_eq_getElem (by omega)⟩; have hol : out.length ≤ S.rel.length := (by rw [ho, List.length_reverse, List.length_drop]; omega); have hoe := Zk out
  refine WL.ix rfl rfl (i := j) (j.toNat) el_32 rfl rfl (by omega) (by omega) (Z.rdO 4 rfl (Zl hx)).1 ?_
  refine WL.run 1 [.int .u32 x] rfl (by exact (Z.rdO 4 rfl (Zl hx)).2 0 _ rfl) ?_
  refine WL.lit rfl rfl (Za [x]) el_32 Z (by exact ⟨rfl, rfl⟩) (Yn _) rfl (Nat.le_of_ble_eq_true rfl) (fun b2 w Z => ?_)
  refine WL.app rfl rfl 1 (Za (out ++ [x])) el_32 Z rfl (Z.srcO 0 rfl) (Yg _ _).symm (Rm.of (by first | omega | (simp <;> omega)) (by decide)) rfl rfl (fun a1 c1 w Z => ?_)
  replace Z := Z.n6 L (a0 := Zf 64 1 (Za [x]) (some ⟨b2, 0, none⟩) (Za [x]).length) (a1 := Zf 64 1 (Za (out ++ [x])) a1 c1) rfl
  refine WL.r 1 rfl <| WL.nil <| WC.region <| WL.r 2 rfl <| WL.nw 18 rfl (Zr (by omega)) ?_
  refine WL.r 1 rfl <| WL.nil ?_
  exact ⟨_, by omega, j - 1, out ++ [x], a1, c1, rfl, (Z.sel 1 [] rfl), (by omega), (by rw [ho, show (j + 1).toNat = j.toNat + 1 by omega, show (j - 1 + 1).toNat = j.toNat by omega]; exact (Zd1 hx).symm), rfl⟩
 ·refine WC.exit <| WC.seq <| WC.seq <| WC.region ?_
  have hor : out = S.rel.reverse := (by rw [ho, show (j + 1).toNat = 0 by omega]; rfl)
  refine WL.run 5 [.int .u32 S.fresh] rfl (by exact Z.ld 1 rfl rfl) ?_
  refine WL.nw 33 rfl (Zr (by omega)) ?_
  refine WL.r 1 rfl <| WL.nw 34 rfl (Zr (by omega)) ?_
  refine WL.r 1 rfl <| WL.nil <| WC.block <| WC.loop [0, 2, 3, 5] (fun kM vs w => ∃ (k : Nat) (j2 : Int) (acc : List Int) (uf : Option Addr) (ud2 : Nat), vs = [.pointer (some ⟨s, 0, none⟩), .slice none 0 0, .slice uf (Za acc).length ud2, .int .i64 j2] ∧ St g (Zf 64 1 (Za acc) uf ud2 :: Ze s #[.slice ua (Zc S.used).length uc, .slice ga (Za S.gen).length gc, .slice ra (Za S.rel).length rc, .int .u32 S.fresh] 243 :: Zf 4 1 (Zc S.used) ua uc :: Zf 64 1 (Za S.gen) ga gc :: Zf 64 1 (Za S.rel) ra rc :: L) w ∧ ((k : Int) ≤ S.cap - S.fresh) ∧ (j2 = S.fresh + 1 + (k : Int)) ∧ (acc = S.rel.reverse ++ Ja S k) ∧ ((S.cap - S.fresh).toNat - k) = kM) ((S.cap - S.fresh).toNat - 0) ⟨0, S.fresh + 1, out, ub, ud, rfl, Z, (by omega), (by omega), (by rw [hor]; simp [Ja]), rfl⟩ ?_
  clear Z; rintro _ _ w j ⟨k, j2, acc, uf, ud2, rfl, Z, hk, hj2, ha, rfl⟩
  refine WC.seq <| WC.seq <| WC.region <| WL.r 2 rfl <| WL.call rfl rfl (Zb5 (ua := ua) (ga := ga) (ra := ra) (n := List.length (Zc S.used)) (ng := List.length (Za S.gen)) (nr := List.length (Za S.rel)) (uc := uc) (gc := gc) (rc := rc) (fr := S.fresh) (hn := (by omega)) (Z := (Z.sel 2 [1, 0] rfl))) rfl ?_
  clear Z; rintro _ w ⟨rfl, Z⟩
  replace Z := Z.n5 L rfl
  refine WL.r 1 rfl <| WL.nil ?_
  as_aux_lemma =>
  refine WC.ifP rfl (fun cd2 => ?_) (fun cd2 => ?_)
  ·refine WC.skip <| WC.seq <| WC.block <| WC.region ?_
   have hal : acc.length ≤ 140000 := (by rw [ha, List.length_append, List.length_reverse]; unfold Ja; simp; omega); have hac := Zk acc
   refine WL.r 3 rfl <| WL.nw 43 rfl (Yq (by omega)) ?_
   refine WL.lit rfl rfl (Za [j2]) el_32 Z (by exact ⟨rfl, rfl⟩) (Yn _) rfl (Nat.le_of_ble_eq_true rfl) (fun b2 w Z => ?_)
   refine WL.app rfl rfl 2 (Za (acc ++ [j2])) el_32 Z rfl (Z.srcO 0 rfl) (Yg _ _).symm (Rm.of (by first | omega | (simp <;> omega)) (by decide)) rfl rfl (fun a1 c1 w Z => ?_)
   replace Z := Z.n6 L (a0 := Zf 64 1 (Za [j2]) (some ⟨b2, 0, none⟩) (Za [j2]).length) (a2 := Zf 64 1 (Za (acc ++ [j2])) a1 c1) rfl
   refine WL.r 1 rfl <| WL.nil <| WC.region <| WL.r 2 rfl <| WL.nw 40 rfl (Zr (by omega)) ?_
   refine WL.r 1 rfl <| WL.nil ?_
   exact ⟨_, by omega, k + 1, j2 + 1, acc ++ [j2], a1, c1, rfl, (Z.sel 3 [2, 1] rfl), (by omega), (by omega), (by rw [hj2, ha, Zal, List.append_assoc]), rfl⟩
  ·refine WC.exit <| WC.seq <| WC.region <| WL.r 2 rfl <| WL.nil <| WC.ret ?_
   replace Z := St.exClose (f := YT s S) (L := Zf 64 1 (Za acc) uf ud2 :: L) ⟨ua, uc, ga, gc, ra, rc⟩ ((Z.sel 5 [0, 1, 1, 1, 0] rfl))
   replace Z := Z.n2 L (a0 := Yp s S) rfl
   refine ⟨[.slice uf (Za acc).length ud2], rfl, ?_⟩
   replace Z := (Z.sel 2 [1, 0] rfl)
   have hke : k = (S.cap - S.fresh).toNat := (by omega); subst hke; rw [show acc = SM.order S from ha] at Z ⊢; exact ⟨_, _, rfl, Z⟩
theorem Zf7 {S : SM} (hO : SOk S) : ((SM.order S).length : Int) = S.free := by
 have hfr := hO.fr
 unfold SM.order Ja SM.free
 simp only [List.length_append, List.length_reverse, List.length_map, List.length_range]; omega
theorem Za6 {n : Nat} : (SM.new n).cap = (n : Int) := by
 show ((List.replicate (n + 1) false).length : Int) - 1 = n
 rw [List.length_replicate]; omega
theorem Zb0 {n : Nat} : (Za ((SM.new n).gen.drop 1)).length = n := by
 rw [Zk]; show ((List.replicate (n + 1) (0 : Int)).drop 1).length = n; simp
theorem Zbq {n : Nat} : (Zc ((SM.new n).used.drop 1)).length = n := by
 rw [Zv]; show ((List.replicate (n + 1) false).drop 1).length = n; simp
theorem Zi4 {n : Nat} : (Za ((TM.new n).vals.drop 1)).length = n := by
 rw [Zk]; show ((List.replicate (n + 1) (0 : Int)).drop 1).length = n; simp
end Go.Proofs.YtbeacjcmdijdmaaGreat
