/-
  Slots: New, Allocated, Generation, Free, Capacity, Alloc, Release.
  Conditions: the slots are in order.
-/
import Derived.Test.YtlnlnebibgdjdaaTypes
import Derived.Test.YtlnlnebibgdjdaaTra
namespace Go.Proofs.Ytlnlnebibgdjdaa
open Go Go.V

theorem sl_cap0 {g w : World} {L : List HP} (s : Nat) (ua ga ra : Option Addr) (n ng nr uc gc rc : Nat) (fr : Int) (hn : n ≤ 65537) (hS : St g (cel s #[.slice ua n uc, .slice ga ng gc, .slice ra nr rc, .int .u32 fr] 164 :: L) w) :
    Sp Try.prog 68 [.pointer (some ⟨s, 0, none⟩)] w (fun v w' => v = .int .i64 (n - 1) ∧ St g (cel s #[.slice ua n uc, .slice ga ng gc, .slice ra nr rc, .int .u32 fr] 164 :: L) w') := by
  refine Sp.enter Try.func68 rfl (by kernel_rfl) (by kernel_rfl) ?_
  have _ := hn
  refine WC.seq ?_
  refine WC.region ?_
  refine WL.r 1 rfl ?_
  refine WL.nil ?_
  refine WC.seq ?_
  refine WC.region ?_
  refine WL.run 6 [.slice ua n uc] rfl (by exact hS.ld 0 rfl rfl) ?_
  refine WL.nw 8 rfl (w64 (by omega)) ?_
  refine WL.r 1 rfl ?_
  refine WL.nil ?_
  refine WC.ret ?_
  refine ⟨[.int .i64 ((n : Int) - 1)], rfl, ?_⟩
  exact ⟨rfl, hS⟩
theorem sl_free0 {g w : World} {L : List HP} (s : Nat) (ua ga ra : Option Addr) (n ng nr uc gc rc : Nat) (fr : Int) (hn : n ≤ 65537 ∧ nr ≤ 65537 ∧ 0 ≤ fr ∧ fr ≤ 65537) (hS : St g (cel s #[.slice ua n uc, .slice ga ng gc, .slice ra nr rc, .int .u32 fr] 164 :: L) w) :
    Sp Try.prog 48 [.pointer (some ⟨s, 0, none⟩)] w (fun v w' => v = .int .i64 (nr + (n - 1) - fr) ∧ St g (cel s #[.slice ua n uc, .slice ga ng gc, .slice ra nr rc, .int .u32 fr] 164 :: L) w') := by
  refine Sp.enter Try.func48 rfl (by kernel_rfl) (by kernel_rfl) ?_
  have _ := hn
  refine WC.seq ?_
  refine WC.region ?_
  refine WL.r 1 rfl ?_
  refine WL.nil ?_
  refine WC.seq ?_
  refine WC.plan [([0, 5, 8, 1, 9, 2, 10, 3, 11, 4, 12], some (6, [0, 1, 2, 3, 4, 8, 9, 10, 11, 12])), ([7, 13, 14], none)] (by kernel_rfl) (by kernel_rfl) ?_
  refine WQ.run 11 [.slice ra nr rc, .int .u32 fr] rfl (by exact ⟨hS.ld 0 rfl rfl, hS.ld 0 rfl rfl⟩) ?_
  refine WQ.nw 15 rfl (w64 (by omega)) ?_
  refine WQ.nil ?_
  intro m1
  replace hS := hS.drewN m1; generalize hwm1 : World.drewN _ _ = w at *; clear hwm1
  refine WL.call rfl rfl (sl_cap0 (s := s) (ua := ua) (ga := ga) (ra := ra) (n := n) (ng := ng) (nr := nr) (uc := uc) (gc := gc) (rc := rc) (fr := fr) (hn := (by omega)) (hS := hS)) rfl ?_
  clear hS; rintro _ w ⟨rfl, hS⟩
  replace hS : St g (cel s #[.slice ua n uc, .slice ga ng gc, .slice ra nr rc, .int .u32 fr] 164 :: L) w := hS
  refine WL.nil ?_
  refine ⟨by exact ⟨RQ.pure rfl rfl rfl rfl, RQ.pure rfl rfl rfl rfl, RQ.pure rfl rfl rfl rfl, RQ.load rfl rfl rfl rfl (hS.ld 0 rfl rfl), RQ.pure rfl rfl rfl rfl, RQ.pure rfl rfl rfl rfl, RQ.pure rfl rfl rfl rfl, RQ.pure rfl rfl rfl rfl, RQ.load rfl rfl rfl rfl (hS.ld 0 rfl rfl), RQ.pure rfl rfl rfl (congrArg (Value.int .i64) (Eq.symm (w64 (by omega))))⟩, ?_⟩
  refine WQ.r 1 rfl ?_
  refine WQ.nw 10 rfl (w64 (by omega)) ?_
  refine WQ.r 1 rfl ?_
  refine WQ.nw 16 rfl (w64 (by omega)) ?_
  refine WQ.r 1 rfl ?_
  refine WQ.nil ?_
  intro m2
  replace hS := hS.drewN m2; generalize hwm2 : World.drewN _ _ = w at *; clear hwm2
  as_aux_lemma =>
    refine WC.ret ?_
    refine ⟨[.int .i64 (((nr : Int) + (n - 1)) - fr)], rfl, ?_⟩
    exact ⟨rfl, hS⟩
theorem sl_cap {g w : World} {L : List HP} (s : Nat) (S : SM) (hl : S.used.length ≤ 65537) (hS : St g (Slt s S :: L) w) :
    Sp Try.prog 68 [.pointer (some ⟨s, 0, none⟩)] w (fun v w' => v = .int .i64 S.cap ∧ St g (Slt s S :: L) w') := by
  refine Sp.enter Try.func68 rfl (by kernel_rfl) (by kernel_rfl) ?_
  have _ := hl
  refine WC.seq ?_
  refine WC.region ?_
  obtain ⟨⟨ua, uc, ga, gc, ra, rc⟩, hS⟩ := St.exOpen (f := sltF s S) hS; have hbu := bos_len S.used; have hbg := u32s_len S.gen; have hbr := u32s_len S.rel
  replace hS : St g (cel s #[.slice ua (List.length (bos S.used)) uc, .slice ga (List.length (u32s S.gen)) gc, .slice ra (List.length (u32s S.rel)) rc, .int .u32 S.fresh] 164 :: Own 4 1 (bos S.used) ua uc :: Own 40 1 (u32s S.gen) ga gc :: Own 40 1 (u32s S.rel) ra rc :: L) w := hS
  refine WL.r 1 rfl ?_
  refine WL.nil ?_
  refine WC.seq ?_
  refine WC.region ?_
  refine WL.run 6 [.slice ua (List.length (bos S.used)) uc] rfl (by exact hS.ld 0 rfl rfl) ?_
  refine WL.nw 8 rfl (w64 (by omega)) ?_
  refine WL.r 1 rfl ?_
  refine WL.nil ?_
  refine WC.ret ?_
  replace hS := St.exClose (f := sltF s S) ⟨ua, uc, ga, gc, ra, rc⟩ hS
  replace hS : St g (Slt s S :: L) w := hS
  refine ⟨[.int .i64 ((List.length (bos S.used) : Int) - 1)], rfl, ?_⟩
  exact ⟨congrArg (Value.int .i64) (by rw [bos_len]; rfl), hS⟩
theorem sl_free {g w : World} {L : List HP} (s : Nat) (S : SM) (hO : SOk S) (hS : St g (Slt s S :: L) w) :
    Sp Try.prog 48 [.pointer (some ⟨s, 0, none⟩)] w (fun v w' => v = .int .i64 S.free ∧ St g (Slt s S :: L) w') := by
  refine Sp.enter Try.func48 rfl (by kernel_rfl) (by kernel_rfl) ?_
  refine WC.seq ?_
  refine WC.region ?_
  have hfr := hO.fr; have hcp : S.cap = (S.used.length : Int) - 1 := rfl; have hle := hO.le; have hrl := hO.rle
  obtain ⟨⟨ua, uc, ga, gc, ra, rc⟩, hS⟩ := St.exOpen (f := sltF s S) hS; have hbu := bos_len S.used; have hbg := u32s_len S.gen; have hbr := u32s_len S.rel
  replace hS : St g (cel s #[.slice ua (List.length (bos S.used)) uc, .slice ga (List.length (u32s S.gen)) gc, .slice ra (List.length (u32s S.rel)) rc, .int .u32 S.fresh] 164 :: Own 4 1 (bos S.used) ua uc :: Own 40 1 (u32s S.gen) ga gc :: Own 40 1 (u32s S.rel) ra rc :: L) w := hS
  refine WL.r 1 rfl ?_
  refine WL.nil ?_
  refine WC.seq ?_
  refine WC.plan [([0, 5, 8, 1, 9, 2, 10, 3, 11, 4, 12], some (6, [0, 1, 2, 3, 4, 8, 9, 10, 11, 12])), ([7, 13, 14], none)] (by kernel_rfl) (by kernel_rfl) ?_
  refine WQ.run 11 [.slice ra (List.length (u32s S.rel)) rc, .int .u32 S.fresh] rfl (by exact ⟨hS.ld 0 rfl rfl, hS.ld 0 rfl rfl⟩) ?_
  refine WQ.nw 15 rfl (w64 (by omega)) ?_
  refine WQ.nil ?_
  intro m1
  replace hS := hS.drewN m1; generalize hwm1 : World.drewN _ _ = w at *; clear hwm1
  refine WL.call rfl rfl (sl_cap0 (s := s) (ua := ua) (ga := ga) (ra := ra) (n := List.length (bos S.used)) (ng := List.length (u32s S.gen)) (nr := List.length (u32s S.rel)) (uc := uc) (gc := gc) (rc := rc) (fr := S.fresh) (hn := (by omega)) (hS := hS)) rfl ?_
  clear hS; rintro _ w ⟨rfl, hS⟩
  replace hS : St g (cel s #[.slice ua (List.length (bos S.used)) uc, .slice ga (List.length (u32s S.gen)) gc, .slice ra (List.length (u32s S.rel)) rc, .int .u32 S.fresh] 164 :: Own 4 1 (bos S.used) ua uc :: Own 40 1 (u32s S.gen) ga gc :: Own 40 1 (u32s S.rel) ra rc :: L) w := hS
  refine WL.nil ?_
  refine ⟨by exact ⟨RQ.pure rfl rfl rfl rfl, RQ.pure rfl rfl rfl rfl, RQ.pure rfl rfl rfl rfl, RQ.load rfl rfl rfl rfl (hS.ld 0 rfl rfl), RQ.pure rfl rfl rfl rfl, RQ.pure rfl rfl rfl rfl, RQ.pure rfl rfl rfl rfl, RQ.pure rfl rfl rfl rfl, RQ.load rfl rfl rfl rfl (hS.ld 0 rfl rfl), RQ.pure rfl rfl rfl (congrArg (Value.int .i64) (Eq.symm (w64 (by omega))))⟩, ?_⟩
  refine WQ.r 1 rfl ?_
  refine WQ.nw 10 rfl (w64 (by omega)) ?_
  refine WQ.r 1 rfl ?_
  refine WQ.nw 16 rfl (w64 (by omega)) ?_
  refine WQ.r 1 rfl ?_
  refine WQ.nil ?_
  intro m2
  replace hS := hS.drewN m2; generalize hwm2 : World.drewN _ _ = w at *; clear hwm2
  as_aux_lemma =>
    refine WC.ret ?_
    replace hS := St.exClose (f := sltF s S) ⟨ua, uc, ga, gc, ra, rc⟩ hS
    replace hS : St g (Slt s S :: L) w := hS
    refine ⟨[.int .i64 (((List.length (u32s S.rel) : Int) + ((List.length (bos S.used)) - 1)) - S.fresh)], rfl, ?_⟩
    exact ⟨congrArg (Value.int .i64) (by unfold SM.free; omega), hS⟩
theorem sl_ok {g w : World} {L : List HP} (s : Nat) (S : SM) (i : Int) (hl : S.used.length ≤ 65537) (hi : 0 ≤ i ∧ i < 4294967296) (hS : St g (Slt s S :: L) w) :
    Sp Try.prog 63 [.pointer (some ⟨s, 0, none⟩), .int .u32 i] w (fun v w' => v = .bool (S.ok i) ∧ St g (Slt s S :: L) w') := by
  refine Sp.enter Try.func63 rfl (by kernel_rfl) (by kernel_rfl) ?_
  have _ := hi
  have _ := hl
  refine WC.seq ?_
  refine WC.region ?_
  obtain ⟨⟨ua, uc, ga, gc, ra, rc⟩, hS⟩ := St.exOpen (f := sltF s S) hS; have hbu := bos_len S.used; have hbg := u32s_len S.gen; have hbr := u32s_len S.rel
  replace hS : St g (cel s #[.slice ua (List.length (bos S.used)) uc, .slice ga (List.length (u32s S.gen)) gc, .slice ra (List.length (u32s S.rel)) rc, .int .u32 S.fresh] 164 :: Own 4 1 (bos S.used) ua uc :: Own 40 1 (u32s S.gen) ga gc :: Own 40 1 (u32s S.rel) ra rc :: L) w := hS
  refine WL.r 1 rfl ?_
  refine WL.nil ?_
  refine WC.seq ?_
  refine WC.region ?_
  refine WL.r 2 rfl ?_
  refine WL.nw 6 rfl (w64 (by omega)) ?_
  refine WL.run 7 [.slice ua (List.length (bos S.used)) uc] rfl (by exact hS.ld 0 rfl rfl) ?_
  by_cases cg1 : i < (List.length (bos S.used) : Int)
  · refine WL.reb 13 (.bool true) (congrArg Value.bool (decide_eq_true cg1)) ?_
    refine WL.ung rfl rfl rfl ?_
    refine WL.r 1 rfl ?_
    refine WL.ung rfl rfl rfl ?_
    refine WL.r 1 rfl ?_
    refine WL.ung rfl rfl rfl ?_
    refine WL.r 1 rfl ?_
    refine WL.ung rfl rfl rfl ?_
    refine WL.run 1 [.slice ua (List.length (bos S.used)) uc] rfl (by exact hS.ld 0 rfl rfl) ?_
    refine WL.ung rfl rfl rfl ?_
    refine WL.r 1 rfl ?_
    refine WL.ung rfl rfl rfl ?_
    obtain ⟨x, hx⟩ : ∃ x, S.used[i.toNat]? = some x := ⟨_, List.getElem?_eq_getElem (by omega)⟩
    refine WL.ix rfl rfl (i := i) (i.toNat) el_162 rfl rfl (by omega) (by omega) (hS.rdO 1 rfl (bos_at hx)).1 ?_
    refine WL.ung rfl rfl rfl ?_
    refine WL.run 3 [.bool x] rfl (by exact (hS.rdO 1 rfl (bos_at hx)).2 0 _ rfl) ?_
    refine WL.nil ?_
    as_aux_lemma =>
      refine WC.ret ?_
      replace hS := St.exClose (f := sltF s S) ⟨ua, uc, ga, gc, ra, rc⟩ hS
      replace hS : St g (Slt s S :: L) w := hS
      refine ⟨[.bool x], rfl, ?_⟩
      first | exact ⟨congrArg Value.bool (by unfold SM.ok; rw [hx]; rfl), hS⟩ | exact ⟨congrArg Value.bool (by unfold SM.ok; rw [List.getElem?_eq_none (by omega)]; rfl), hS⟩
  · refine WL.reb 13 (.bool false) (congrArg Value.bool (decide_eq_false cg1)) ?_
    refine WL.skp rfl rfl rfl rfl ?_
    refine WL.skp rfl rfl rfl rfl ?_
    refine WL.skp rfl rfl rfl rfl ?_
    refine WL.skp rfl rfl rfl rfl ?_
    refine WL.skp rfl rfl rfl rfl ?_
    refine WL.skp rfl rfl rfl rfl ?_
    refine WL.skp rfl rfl rfl rfl ?_
    refine WL.r 2 rfl ?_
    refine WL.nil ?_
    refine WC.ret ?_
    replace hS := St.exClose (f := sltF s S) ⟨ua, uc, ga, gc, ra, rc⟩ hS
    replace hS : St g (Slt s S :: L) w := hS
    refine ⟨[.bool false], rfl, ?_⟩
    first | exact ⟨congrArg Value.bool (by unfold SM.ok; rw [hx]; rfl), hS⟩ | exact ⟨congrArg Value.bool (by unfold SM.ok; rw [List.getElem?_eq_none (by omega)]; rfl), hS⟩
theorem sl_gen {g w : World} {L : List HP} (s : Nat) (S : SM) (i : Int) (hl : S.gen.length ≤ 65537) (hi : 0 ≤ i ∧ i < 4294967296) (hS : St g (Slt s S :: L) w) :
    Sp Try.prog 118 [.pointer (some ⟨s, 0, none⟩), .int .u32 i] w (fun v w' => v = .int .u32 (S.genOf i) ∧ St g (Slt s S :: L) w') := by
  refine Sp.enter Try.func118 rfl (by kernel_rfl) (by kernel_rfl) ?_
  have _ := hi
  have _ := hl
  refine WC.seq ?_
  refine WC.region ?_
  refine WL.r 1 rfl ?_
  refine WL.nil ?_
  refine WC.seq ?_
  refine WC.seq ?_
  refine WC.region ?_
  obtain ⟨⟨ua, uc, ga, gc, ra, rc⟩, hS⟩ := St.exOpen (f := sltF s S) hS; have hbu := bos_len S.used; have hbg := u32s_len S.gen; have hbr := u32s_len S.rel
  replace hS : St g (cel s #[.slice ua (List.length (bos S.used)) uc, .slice ga (List.length (u32s S.gen)) gc, .slice ra (List.length (u32s S.rel)) rc, .int .u32 S.fresh] 164 :: Own 4 1 (bos S.used) ua uc :: Own 40 1 (u32s S.gen) ga gc :: Own 40 1 (u32s S.rel) ra rc :: L) w := hS
  refine WL.r 2 rfl ?_
  refine WL.nw 6 rfl (w64 (by omega)) ?_
  refine WL.run 6 [.slice ga (List.length (u32s S.gen)) gc] rfl (by exact hS.ld 0 rfl rfl) ?_
  refine WL.nil ?_
  refine WC.ifP rfl (fun cd1 => ?_) (fun cd1 => ?_)
  · refine WC.seq ?_
    refine WC.region ?_
    refine WL.r 1 rfl ?_
    refine WL.nil ?_
    refine WC.ret ?_
    replace hS := St.exClose (f := sltF s S) ⟨ua, uc, ga, gc, ra, rc⟩ hS
    replace hS : St g (Slt s S :: L) w := hS
    refine ⟨[.int .u32 0], rfl, ?_⟩
    exact ⟨congrArg (Value.int .u32) (by unfold SM.genOf; rw [List.getElem?_eq_none (by omega)]; rfl), hS⟩
  · refine WC.skip ?_
    refine WC.seq ?_
    refine WC.region ?_
    refine WL.run 5 [.slice ga (List.length (u32s S.gen)) gc] rfl (by exact hS.ld 0 rfl rfl) ?_
    obtain ⟨x, hx⟩ : ∃ x, S.gen[i.toNat]? = some x := ⟨_, List.getElem?_eq_getElem (by omega)⟩
    refine WL.ix rfl rfl (i := i) (i.toNat) el_54 rfl rfl (by omega) (by omega) (hS.rdO 2 rfl (u32s_at hx)).1 ?_
    refine WL.run 2 [.int .u32 x] rfl (by exact (hS.rdO 2 rfl (u32s_at hx)).2 0 _ rfl) ?_
    refine WL.nil ?_
    refine WC.ret ?_
    replace hS := St.exClose (f := sltF s S) ⟨ua, uc, ga, gc, ra, rc⟩ hS
    replace hS : St g (Slt s S :: L) w := hS
    refine ⟨[.int .u32 x], rfl, ?_⟩
    exact ⟨congrArg (Value.int .u32) (by unfold SM.genOf; rw [hx]; rfl), hS⟩
end Go.Proofs.Ytlnlnebibgdjdaa
