/-
  Slots: New, Alloc, Release.
  Conditions: the slots are in order.
-/
import Derived.Test.YtlnlnebibgdjdaaS1
namespace Go.Proofs.Ytlnlnebibgdjdaa
open Go Go.V

theorem rel_nil {S : SM} (h : ¬ 0 ≤ (List.length (u32s S.rel) : Int) - 1) : S.rel = [] := by
  rw [u32s_len] at h
  exact List.length_eq_zero_iff.1 (by omega)
theorem sl_new_close {g w : World} {L : List HP} {n s : Nat} {ua ga : Option Addr} {uc gc : Nat} (hS : St g (cel s #[.slice ua (n + 1) uc, .slice ga (n + 1) gc, .slice none 0 0, .int .u32 0] 164 :: Own 4 1 (bos (List.replicate (n + 1) false)) ua uc :: Own 40 1 (u32s (List.replicate (n + 1) 0)) ga gc :: Own 40 1 [] none 0 :: L) w) : St g (sltF s (SM.new n) ⟨ua, uc, ga, gc, none, 0⟩ ++ L) w := by
  have e1 : (bos (SM.new n).used).length = n + 1 := by simp [SM.new]
  have e2 : (u32s (SM.new n).gen).length = n + 1 := by simp [SM.new]
  unfold sltF
  rw [e1, e2]
  exact hS
theorem sl_new_bad {g w : World} {L : List HP} (cap : Int) (hc : ¬ (1 ≤ cap ∧ cap ≤ 65536)) (hS : St g (L) w) :
    Sp Try.prog 84 [.int .i64 cap] w (fun v w' => v = .tuple #[.pointer none, .int .i64 1] ∧ St g (L) w') := by
  refine Sp.enter Try.func84 rfl (by kernel_rfl) (by kernel_rfl) ?_
  have _ := hc
  refine WC.seq ?_
  refine WC.region ?_
  refine WL.r 2 rfl ?_
  refine WL.nil ?_
  refine WC.seq ?_
  refine WC.seq ?_
  refine WC.region ?_
  refine WL.r 2 rfl ?_
  refine WL.rG 4 rfl (fun j => ?_)
  refine WL.prop 9 rfl (bor (dd _) (dd _)) ?_
  refine WL.nil ?_
  refine WC.ifT rfl (decide_eq_true ((by omega))) ?_
  refine WC.seq ?_
  refine WC.region ?_
  refine WL.r 2 rfl ?_
  refine WL.nil ?_
  refine WC.ret ?_
  refine ⟨[.pointer none, .int .i64 1], ⟨rfl, rfl⟩, ?_⟩
  exact ⟨rfl, hS⟩
theorem sl_new_ok {g w : World} {L : List HP} (cap : Int) (hc : 1 ≤ cap ∧ cap ≤ 65536) (hS : St g (L) w) :
    Sp Try.prog 84 [.int .i64 cap] w (fun v w' => ∃ (s : Nat), v = .tuple #[.pointer (some ⟨s, 0, none⟩), .int .i64 0] ∧ St g (Slt s (SM.new cap.toNat) :: L) w') := by
  refine Sp.enter Try.func84 rfl (by kernel_rfl) (by kernel_rfl) ?_
  have _ := hc
  refine WC.seq ?_
  refine WC.region ?_
  refine WL.r 2 rfl ?_
  refine WL.nil ?_
  refine WC.seq ?_
  refine WC.seq ?_
  refine WC.region ?_
  refine WL.r 2 rfl ?_
  refine WL.rG 4 rfl (fun j => ?_)
  refine WL.prop 9 rfl (bor (dd _) (dd _)) ?_
  refine WL.nil ?_
  refine WC.ifF rfl (decide_eq_false ((by omega))) ?_
  refine WC.skip ?_
  refine WC.seq ?_
  refine WC.tree (.two [0, 3, 1, 4] 2 [3, 4] (.one [] 5 [0, 1] (.one [6] 7 [] (.seg [8, 9] .nil))) 5 [0, 1] (.one [] 2 [3, 4] (.one [6] 7 [] (.seg [8, 9] .nil)))) (by kernel_rfl) (by kernel_rfl) ?_
  refine WQ.r 3 rfl ?_
  refine WQ.nw 11 rfl (w64 (by omega)) ?_
  refine WQ.r 1 rfl ?_
  refine WQ.nw 14 rfl (w64 (by omega)) ?_
  refine WQ.nil ?_
  intro m1
  replace hS := hS.drewN m1; generalize hwm1 : World.drewN _ _ = w at *; clear hwm1
  refine ⟨?_, ?_⟩
  · refine WL.make rfl rfl (v := cap + 1) (v' := cap + 1) (cap.toNat + 1) (cap.toNat + 1) el_162 hS rfl (by omega) rfl (by omega) (by omega) (Rm.of (by omega) (by decide)) (fun b1 w hS => ?_)
    replace hS : St g (Own 4 1 (List.replicate (cap.toNat + 1) [.bool false]) (some ⟨b1, 0, none⟩) (cap.toNat + 1) :: L) w := hS
    refine WL.nil ?_
    refine ⟨by exact ⟨RQ.pure rfl rfl rfl rfl, RQ.pure rfl rfl rfl (congrArg (Value.int .i64) (Eq.symm (w64 (by omega))))⟩, ?_⟩
    refine WQ.nil ?_
    intro m2
    replace hS := hS.drewN m2; generalize hwm2 : World.drewN _ _ = w at *; clear hwm2
    refine WL.make rfl rfl (v := cap + 1) (v' := cap + 1) (cap.toNat + 1) (cap.toNat + 1) el_54 hS rfl (by omega) rfl (by omega) (by omega) (Rm.of (by omega) (by decide)) (fun b2 w hS => ?_)
    replace hS : St g (Own 40 1 (List.replicate (cap.toNat + 1) [.int .u32 0]) (some ⟨b2, 0, none⟩) (cap.toNat + 1) :: Own 4 1 (List.replicate (cap.toNat + 1) [.bool false]) (some ⟨b1, 0, none⟩) (cap.toNat + 1) :: L) w := hS
    refine WL.nil ?_
    refine ⟨by exact ⟨RQ.pure rfl rfl rfl rfl, RQ.pure rfl rfl rfl (congrArg (Value.int .i64) (Eq.symm (w64 (by omega))))⟩, ?_⟩
    refine WQ.build rfl rfl (cs := [.slice (some ⟨b1, 0, none⟩) (cap.toNat + 1) (cap.toNat + 1), .slice (some ⟨b2, 0, none⟩) (cap.toNat + 1) (cap.toNat + 1), .slice none 0 0, .int .u32 0]) zv_164 rfl rfl ?_
    refine WQ.nil ?_
    intro m3
    replace hS := hS.drewN m3; generalize hwm3 : World.drewN _ _ = w at *; clear hwm3
    refine WL.box rfl rfl #[.slice (some ⟨b1, 0, none⟩) (cap.toNat + 1) (cap.toNat + 1), .slice (some ⟨b2, 0, none⟩) (cap.toNat + 1) (cap.toNat + 1), .slice none 0 0, .int .u32 0] hS rfl rfl (fun b3 w hS => ?_)
    refine WL.nil ?_
    refine ⟨by exact trivial, ?_⟩
    refine WQ.r 2 rfl ?_
    refine WQ.nil ?_
    intro m4
    replace hS := hS.drewN m4; generalize hwm4 : World.drewN _ _ = w at *; clear hwm4
    as_aux_lemma =>
      refine WC.ret ?_
      rw [bos_rep, u32s_rep] at hS
      first
      | (replace hS : St g (cel b3 #[.slice (some ⟨b1, 0, none⟩) (cap.toNat + 1) (cap.toNat + 1), .slice (some ⟨b2, 0, none⟩) (cap.toNat + 1) (cap.toNat + 1), .slice none 0 0, .int .u32 0] 164 :: Own 4 1 (bos (List.replicate (cap.toNat + 1) false)) (some ⟨b1, 0, none⟩) (cap.toNat + 1) :: Own 40 1 (u32s (List.replicate (cap.toNat + 1) 0)) (some ⟨b2, 0, none⟩) (cap.toNat + 1) :: Own 40 1 [] none 0 :: L) w := (hS.nil_ 40 1).sel 4 [1, 2, 1, 0] rfl; replace hS := St.exClose (f := sltF b3 (SM.new cap.toNat)) ⟨some ⟨b1, 0, none⟩, cap.toNat + 1, some ⟨b2, 0, none⟩, cap.toNat + 1, none, 0⟩ (sl_new_close hS))
      | (replace hS : St g (cel b3 #[.slice (some ⟨b2, 0, none⟩) (cap.toNat + 1) (cap.toNat + 1), .slice (some ⟨b1, 0, none⟩) (cap.toNat + 1) (cap.toNat + 1), .slice none 0 0, .int .u32 0] 164 :: Own 4 1 (bos (List.replicate (cap.toNat + 1) false)) (some ⟨b2, 0, none⟩) (cap.toNat + 1) :: Own 40 1 (u32s (List.replicate (cap.toNat + 1) 0)) (some ⟨b1, 0, none⟩) (cap.toNat + 1) :: Own 40 1 [] none 0 :: L) w := (hS.nil_ 40 1).sel 4 [1, 1, 1, 0] rfl; replace hS := St.exClose (f := sltF b3 (SM.new cap.toNat)) ⟨some ⟨b2, 0, none⟩, cap.toNat + 1, some ⟨b1, 0, none⟩, cap.toNat + 1, none, 0⟩ (sl_new_close hS))
      replace hS : St g (Slt b3 (SM.new cap.toNat) :: L) w := hS
      refine ⟨[.pointer (some ⟨b3, 0, none⟩), .int .i64 0], ⟨rfl, rfl⟩, ?_⟩
      exact ⟨_, rfl, hS⟩
  · refine WL.make rfl rfl (v := cap + 1) (v' := cap + 1) (cap.toNat + 1) (cap.toNat + 1) el_54 hS rfl (by omega) rfl (by omega) (by omega) (Rm.of (by omega) (by decide)) (fun b1 w hS => ?_)
    replace hS : St g (Own 40 1 (List.replicate (cap.toNat + 1) [.int .u32 0]) (some ⟨b1, 0, none⟩) (cap.toNat + 1) :: L) w := hS
    refine WL.nil ?_
    refine ⟨by exact ⟨RQ.pure rfl rfl rfl rfl, RQ.pure rfl rfl rfl (congrArg (Value.int .i64) (Eq.symm (w64 (by omega))))⟩, ?_⟩
    refine WQ.nil ?_
    intro m2
    replace hS := hS.drewN m2; generalize hwm2 : World.drewN _ _ = w at *; clear hwm2
    refine WL.make rfl rfl (v := cap + 1) (v' := cap + 1) (cap.toNat + 1) (cap.toNat + 1) el_162 hS rfl (by omega) rfl (by omega) (by omega) (Rm.of (by omega) (by decide)) (fun b2 w hS => ?_)
    replace hS : St g (Own 4 1 (List.replicate (cap.toNat + 1) [.bool false]) (some ⟨b2, 0, none⟩) (cap.toNat + 1) :: Own 40 1 (List.replicate (cap.toNat + 1) [.int .u32 0]) (some ⟨b1, 0, none⟩) (cap.toNat + 1) :: L) w := hS
    refine WL.nil ?_
    refine ⟨by exact ⟨RQ.pure rfl rfl rfl rfl, RQ.pure rfl rfl rfl (congrArg (Value.int .i64) (Eq.symm (w64 (by omega))))⟩, ?_⟩
    refine WQ.build rfl rfl (cs := [.slice (some ⟨b2, 0, none⟩) (cap.toNat + 1) (cap.toNat + 1), .slice (some ⟨b1, 0, none⟩) (cap.toNat + 1) (cap.toNat + 1), .slice none 0 0, .int .u32 0]) zv_164 rfl rfl ?_
    refine WQ.nil ?_
    intro m3
    replace hS := hS.drewN m3; generalize hwm3 : World.drewN _ _ = w at *; clear hwm3
    refine WL.box rfl rfl #[.slice (some ⟨b2, 0, none⟩) (cap.toNat + 1) (cap.toNat + 1), .slice (some ⟨b1, 0, none⟩) (cap.toNat + 1) (cap.toNat + 1), .slice none 0 0, .int .u32 0] hS rfl rfl (fun b3 w hS => ?_)
    refine WL.nil ?_
    refine ⟨by exact trivial, ?_⟩
    refine WQ.r 2 rfl ?_
    refine WQ.nil ?_
    intro m4
    replace hS := hS.drewN m4; generalize hwm4 : World.drewN _ _ = w at *; clear hwm4
    as_aux_lemma =>
      refine WC.ret ?_
      rw [bos_rep, u32s_rep] at hS
      first
      | (replace hS : St g (cel b3 #[.slice (some ⟨b1, 0, none⟩) (cap.toNat + 1) (cap.toNat + 1), .slice (some ⟨b2, 0, none⟩) (cap.toNat + 1) (cap.toNat + 1), .slice none 0 0, .int .u32 0] 164 :: Own 4 1 (bos (List.replicate (cap.toNat + 1) false)) (some ⟨b1, 0, none⟩) (cap.toNat + 1) :: Own 40 1 (u32s (List.replicate (cap.toNat + 1) 0)) (some ⟨b2, 0, none⟩) (cap.toNat + 1) :: Own 40 1 [] none 0 :: L) w := (hS.nil_ 40 1).sel 4 [1, 2, 1, 0] rfl; replace hS := St.exClose (f := sltF b3 (SM.new cap.toNat)) ⟨some ⟨b1, 0, none⟩, cap.toNat + 1, some ⟨b2, 0, none⟩, cap.toNat + 1, none, 0⟩ (sl_new_close hS))
      | (replace hS : St g (cel b3 #[.slice (some ⟨b2, 0, none⟩) (cap.toNat + 1) (cap.toNat + 1), .slice (some ⟨b1, 0, none⟩) (cap.toNat + 1) (cap.toNat + 1), .slice none 0 0, .int .u32 0] 164 :: Own 4 1 (bos (List.replicate (cap.toNat + 1) false)) (some ⟨b2, 0, none⟩) (cap.toNat + 1) :: Own 40 1 (u32s (List.replicate (cap.toNat + 1) 0)) (some ⟨b1, 0, none⟩) (cap.toNat + 1) :: Own 40 1 [] none 0 :: L) w := (hS.nil_ 40 1).sel 4 [1, 1, 1, 0] rfl; replace hS := St.exClose (f := sltF b3 (SM.new cap.toNat)) ⟨some ⟨b2, 0, none⟩, cap.toNat + 1, some ⟨b1, 0, none⟩, cap.toNat + 1, none, 0⟩ (sl_new_close hS))
      replace hS : St g (Slt b3 (SM.new cap.toNat) :: L) w := hS
      refine ⟨[.pointer (some ⟨b3, 0, none⟩), .int .i64 0], ⟨rfl, rfl⟩, ?_⟩
      exact ⟨_, rfl, hS⟩
theorem sl_alloc_full {g w : World} {L : List HP} (s : Nat) (S : SM) (hO : SOk S) (hf : S.free = 0) (hS : St g (Slt s S :: L) w) :
    Sp Try.prog 99 [.pointer (some ⟨s, 0, none⟩)] w (fun v w' => v = .tuple #[.int .u32 0, .int .i64 2] ∧ St g (Slt s S :: L) w') := by
  refine Sp.enter Try.func99 rfl (by kernel_rfl) (by kernel_rfl) ?_
  have _ := hO
  refine WC.seq ?_
  refine WC.region ?_
  refine WL.r 2 rfl ?_
  refine WL.nil ?_
  refine WC.seq ?_
  refine WC.seq ?_
  refine WC.region ?_
  refine WL.r 1 rfl ?_
  refine WL.call rfl rfl (sl_free (s := s) (S := S) (hO := (by assumption)) (hS := hS)) rfl ?_
  clear hS; rintro _ w ⟨rfl, hS⟩
  replace hS : St g (Slt s S :: L) w := hS
  refine WL.r 1 rfl ?_
  refine WL.nil ?_
  refine WC.ifT rfl (decide_eq_true (hf)) ?_
  refine WC.seq ?_
  refine WC.region ?_
  refine WL.r 2 rfl ?_
  refine WL.nil ?_
  refine WC.ret ?_
  refine ⟨[.int .u32 0, .int .i64 2], ⟨rfl, rfl⟩, ?_⟩
  exact ⟨rfl, hS⟩
theorem sl_alloc_ok {g w : World} {L : List HP} (s : Nat) (S : SM) (hO : SOk S) (hf : 0 < S.free) (hS : St g (Slt s S :: L) w) :
    Sp Try.prog 99 [.pointer (some ⟨s, 0, none⟩)] w (fun v w' => v = .tuple #[.int .u32 S.next, .int .i64 0] ∧ St g (Slt s S.alloc :: L) w') := by
  refine Sp.enter Try.func99 rfl (by kernel_rfl) (by kernel_rfl) ?_
  refine WC.seq ?_
  refine WC.region ?_
  refine WL.r 2 rfl ?_
  refine WL.nil ?_
  refine WC.seq ?_
  refine WC.seq ?_
  refine WC.region ?_
  refine WL.r 1 rfl ?_
  refine WL.call rfl rfl (sl_free (s := s) (S := S) (hO := (by assumption)) (hS := hS)) rfl ?_
  clear hS; rintro _ w ⟨rfl, hS⟩
  replace hS : St g (Slt s S :: L) w := hS
  refine WL.r 1 rfl ?_
  refine WL.nil ?_
  refine WC.ifF rfl (decide_eq_false ((by omega))) ?_
  refine WC.skip ?_
  refine WC.seq ?_
  refine WC.region ?_
  refine WL.r 1 rfl ?_
  refine WL.nil ?_
  refine WC.seq ?_
  refine WC.seq ?_
  refine WC.region ?_
  have hfr := hO.fr; have hcp : S.cap = (S.used.length : Int) - 1 := rfl; have hle := hO.cap; have hrl := hO.rle; have hnx := S.next_rng hO hf; have hgl := hO.gl
  obtain ⟨⟨ua, uc, ga, gc, ra, rc⟩, hS⟩ := St.exOpen (f := sltF s S) hS; have hbu := bos_len S.used; have hbg := u32s_len S.gen; have hbr := u32s_len S.rel
  replace hS : St g (cel s #[.slice ua (List.length (bos S.used)) uc, .slice ga (List.length (u32s S.gen)) gc, .slice ra (List.length (u32s S.rel)) rc, .int .u32 S.fresh] 164 :: Own 4 1 (bos S.used) ua uc :: Own 40 1 (u32s S.gen) ga gc :: Own 40 1 (u32s S.rel) ra rc :: L) w := hS
  refine WL.run 6 [.slice ra (List.length (u32s S.rel)) rc] rfl (by exact hS.ld 0 rfl rfl) ?_
  refine WL.nw 14 rfl (w64 (by omega)) ?_
  refine WL.r 1 rfl ?_
  refine WL.nil ?_
  as_aux_lemma =>
    refine WC.seq ?_
    refine WC.region ?_
    refine WL.r 2 rfl ?_
    refine WL.nil ?_
    refine WC.cut [0, 2, 3, 4] (fun vs w => ∃ (nx : Int) (rl : List Int) (fr : Int) (ra2 : Option Addr) (rc2 : Nat), vs = [.pointer (some ⟨s, 0, none⟩), .int .u32 0, .int .i64 0, .int .u32 nx] ∧ St g (cel s #[.slice ua (List.length (bos S.used)) uc, .slice ga (List.length (u32s S.gen)) gc, .slice ra2 (List.length (u32s rl)) rc2, .int .u32 fr] 164 :: Own 4 1 (bos S.used) ua uc :: Own 40 1 (u32s S.gen) ga gc :: Own 40 1 (u32s rl) ra2 rc2 :: L) w ∧ (nx = S.next) ∧ (rl = S.alloc.rel) ∧ (fr = S.alloc.fresh)) ?_ ?_
    · refine WC.ifP rfl (fun cd1 => ?_) (fun cd1 => ?_)
      · refine WC.seq ?_
        refine WC.region ?_
        refine WL.run 5 [.slice ra (List.length (u32s S.rel)) rc] rfl (by exact hS.ld 0 rfl rfl) ?_
        have hne : S.rel ≠ [] := (fun e => by have h9 := congrArg List.length e; rw [List.length_nil] at h9; omega); have hx : S.rel[S.rel.length - 1]? = some S.next := by rw [rel_split hne]; simp
        refine WL.ix rfl rfl (i := (List.length (u32s S.rel) : Int) - 1) (S.rel.length - 1) el_54 rfl rfl (by omega) (by omega) (hS.rdO 3 rfl (u32s_at hx)).1 ?_
        refine WL.run 2 [.int .u32 S.next] rfl (by exact (hS.rdO 3 rfl (u32s_at hx)).2 0 _ rfl) ?_
        refine WL.nil ?_
        refine WC.region ?_
        refine WL.run 6 [.slice ra (List.length (u32s S.rel)) rc] rfl (by exact hS.ld 0 rfl rfl) ?_
        refine WL.slOwn rfl rfl (v := (List.length (u32s S.rel) : Int) - 1) 3 (S.rel.length - 1) (u32s (S.rel.take (S.rel.length - 1))) el_54 hS rfl rfl rfl (by omega) (by omega) (u32s_take _ _) (fun hS => ?_)
        replace hS : St g (cel s #[.slice ua (List.length (bos S.used)) uc, .slice ga (List.length (u32s S.gen)) gc, .slice ra (List.length (u32s S.rel)) rc, .int .u32 S.fresh] 164 :: Own 4 1 (bos S.used) ua uc :: Own 40 1 (u32s S.gen) ga gc :: Own 40 1 (u32s (S.rel.take ((List.length S.rel) - 1))) ra rc :: L) w := hS
        refine WL.r 2 rfl ?_
        refine WL.st rfl rfl rfl 0 hS rfl rfl rfl rfl rfl rfl (fun w hS => ?_)
        replace hS : St g (cel s #[.slice ua (List.length (bos S.used)) uc, .slice ga (List.length (u32s S.gen)) gc, .slice ra (List.length (u32s (S.rel.take ((List.length S.rel) - 1)))) rc, .int .u32 S.fresh] 164 :: Own 4 1 (bos S.used) ua uc :: Own 40 1 (u32s S.gen) ga gc :: Own 40 1 (u32s (S.rel.take ((List.length S.rel) - 1))) ra rc :: L) w := hS
        refine WL.nil ?_
        exact ⟨S.next, S.rel.take (S.rel.length - 1), S.fresh, ra, rc, rfl, hS, (rfl), (List.dropLast_eq_take (l := S.rel)).symm, (if_neg hne).symm⟩
      · refine WC.seq ?_
        refine WC.region ?_
        refine WL.run 5 [.int .u32 S.fresh] rfl (by exact hS.ld 0 rfl rfl) ?_
        refine WL.nw 37 rfl (wu32 (by omega)) ?_
        refine WL.r 2 rfl ?_
        refine WL.st rfl rfl rfl 0 hS rfl rfl rfl rfl rfl rfl (fun w hS => ?_)
        replace hS : St g (cel s #[.slice ua (List.length (bos S.used)) uc, .slice ga (List.length (u32s S.gen)) gc, .slice ra (List.length (u32s S.rel)) rc, .int .u32 (S.fresh + 1)] 164 :: Own 4 1 (bos S.used) ua uc :: Own 40 1 (u32s S.gen) ga gc :: Own 40 1 (u32s S.rel) ra rc :: L) w := hS
        refine WL.nil ?_
        refine WC.region ?_
        refine WL.run 5 [.int .u32 (S.fresh + 1)] rfl (by exact hS.ld 0 rfl rfl) ?_
        refine WL.nil ?_
        exact ⟨S.fresh + 1, S.rel, S.fresh + 1, ra, rc, rfl, hS, (SM.next_nil (rel_nil cd1)).symm, (by show S.rel = S.rel.dropLast; rw [rel_nil cd1]; rfl), (if_pos (rel_nil cd1)).symm⟩
    clear hS; rintro _ w j ⟨nx, rl, fr, ra2, rc2, rfl, hS, hnx, hrl, hfr⟩
    refine WC.seq ?_
    refine WC.region ?_
    refine WL.run 5 [.slice ua (List.length (bos S.used)) uc] rfl (by exact hS.ld 0 rfl rfl) ?_
    obtain ⟨u, hu⟩ : ∃ u, S.used[nx.toNat]? = some u := ⟨_, List.getElem?_eq_getElem (by omega)⟩
    refine WL.ix rfl rfl (i := nx) (nx.toNat) el_162 rfl rfl (by omega) (by omega) (hS.rdO 1 rfl (bos_at hu)).1 ?_
    refine WL.stE rfl rfl rfl 1 (nx.toNat) 0 [.bool u] (bos (S.used.set nx.toNat true)) hS rfl (bos_at hu) rfl rfl rfl rfl rfl (bos_set _ _ _) (fun w hS => ?_)
    replace hS : St g (cel s #[.slice ua (List.length (bos S.used)) uc, .slice ga (List.length (u32s S.gen)) gc, .slice ra2 (List.length (u32s rl)) rc2, .int .u32 fr] 164 :: Own 4 1 (bos (S.used.set nx.toNat true)) ua uc :: Own 40 1 (u32s S.gen) ga gc :: Own 40 1 (u32s rl) ra2 rc2 :: L) w := hS
    refine WL.nil ?_
    refine WC.seq ?_
    refine WC.region ?_
    refine WL.run 5 [.slice ga (List.length (u32s S.gen)) gc] rfl (by exact hS.ld 0 rfl rfl) ?_
    obtain ⟨v, hv⟩ : ∃ v, S.gen[nx.toNat]? = some v := ⟨_, List.getElem?_eq_getElem (by omega)⟩
    refine WL.ix rfl rfl (i := nx) (nx.toNat) el_54 rfl rfl (by omega) (by omega) (hS.rdO 2 rfl (u32s_at hv)).1 ?_
    refine WL.run 2 [.int .u32 v] rfl (by exact (hS.rdO 2 rfl (u32s_at hv)).2 0 _ rfl) ?_
    refine WL.reb 57 (.int .u32 ((v + 1) % 4294967296)) (congrArg (Value.int .u32) (by rfl)) ?_
    refine WL.ix rfl rfl (i := nx) (nx.toNat) el_54 rfl rfl (by omega) (by omega) (hS.rdO 2 rfl (u32s_at hv)).1 ?_
    refine WL.stE rfl rfl rfl 2 (nx.toNat) 0 [.int .u32 v] (u32s (S.gen.set nx.toNat ((v + 1) % 4294967296))) hS rfl (u32s_at hv) rfl rfl rfl rfl rfl (u32s_set _ _ _) (fun w hS => ?_)
    replace hS : St g (cel s #[.slice ua (List.length (bos S.used)) uc, .slice ga (List.length (u32s S.gen)) gc, .slice ra2 (List.length (u32s rl)) rc2, .int .u32 fr] 164 :: Own 4 1 (bos (S.used.set nx.toNat true)) ua uc :: Own 40 1 (u32s (S.gen.set nx.toNat ((v + 1) % 4294967296))) ga gc :: Own 40 1 (u32s rl) ra2 rc2 :: L) w := hS
    refine WL.nil ?_
    as_aux_lemma =>
      refine WC.seq ?_
      refine WC.region ?_
      refine WL.r 3 rfl ?_
      refine WL.nil ?_
      refine WC.ret ?_
      replace hS := St.exClose (f := sltF s S.alloc) ⟨ua, uc, ga, gc, ra2, rc2⟩ (by
        subst hnx; subst hrl; subst hfr
        have hge : S.genOf S.next = v := by unfold SM.genOf; rw [hv]; rfl
        have e1 : (bos S.alloc.used).length = (bos S.used).length := by simp [SM.alloc]
        have e2 : (u32s S.alloc.gen).length = (u32s S.gen).length := by simp [SM.alloc]
        have e3 : S.alloc.gen = S.gen.set S.next.toNat ((v + 1) % 4294967296) := by rw [← hge]; rfl
        unfold sltF
        rw [e1, e2, e3]
        exact hS)
      replace hS : St g (Slt s S.alloc :: L) w := hS
      refine ⟨[.int .u32 nx, .int .i64 0], ⟨rfl, rfl⟩, ?_⟩
      exact ⟨by rw [hnx]; rfl, hS⟩
theorem sl_release_bad {g w : World} {L : List HP} (s : Nat) (S : SM) (i : Int) (hO : SOk S) (hi : 0 ≤ i ∧ i < 4294967296) (hn : S.ok i = false) (hS : St g (Slt s S :: L) w) :
    Sp Try.prog 64 [.pointer (some ⟨s, 0, none⟩), .int .u32 i] w (fun v w' => v = .int .i64 3 ∧ St g (Slt s S :: L) w') := by
  refine Sp.enter Try.func64 rfl (by kernel_rfl) (by kernel_rfl) ?_
  have _ := hi
  have _ := hO
  refine WC.seq ?_
  refine WC.region ?_
  refine WL.r 1 rfl ?_
  refine WL.nil ?_
  refine WC.seq ?_
  refine WC.seq ?_
  refine WC.region ?_
  refine WL.r 2 rfl ?_
  refine WL.call rfl rfl (sl_ok (s := s) (S := S) (i := i) (hl := (by first | assumption | exact SOk.le (by assumption))) (hi := (by omega)) (hS := hS)) rfl ?_
  clear hS; rintro _ w ⟨rfl, hS⟩
  replace hS : St g (Slt s S :: L) w := hS
  refine WL.r 1 rfl ?_
  refine WL.nil ?_
  refine WC.ifT rfl (by rw [hn]; rfl) ?_
  refine WC.seq ?_
  refine WC.region ?_
  refine WL.r 1 rfl ?_
  refine WL.nil ?_
  refine WC.ret ?_
  refine ⟨[.int .i64 3], rfl, ?_⟩
  exact ⟨rfl, hS⟩
theorem sl_release_ok {g w : World} {L : List HP} (s : Nat) (S : SM) (i : Int) (hO : SOk S) (hi : 0 ≤ i ∧ i < 4294967296) (hn : S.ok i = true) (hS : St g (Slt s S :: L) w) :
    Sp Try.prog 64 [.pointer (some ⟨s, 0, none⟩), .int .u32 i] w (fun v w' => v = .int .i64 0 ∧ St g (Slt s (S.release i) :: L) w') := by
  refine Sp.enter Try.func64 rfl (by kernel_rfl) (by kernel_rfl) ?_
  refine WC.seq ?_
  refine WC.region ?_
  refine WL.r 1 rfl ?_
  refine WL.nil ?_
  refine WC.seq ?_
  refine WC.seq ?_
  refine WC.region ?_
  refine WL.r 2 rfl ?_
  refine WL.call rfl rfl (sl_ok (s := s) (S := S) (i := i) (hl := (by first | assumption | exact SOk.le (by assumption))) (hi := (by omega)) (hS := hS)) rfl ?_
  clear hS; rintro _ w ⟨rfl, hS⟩
  replace hS : St g (Slt s S :: L) w := hS
  refine WL.r 1 rfl ?_
  refine WL.nil ?_
  refine WC.ifF rfl (by rw [hn]; decide) ?_
  refine WC.skip ?_
  refine WC.seq ?_
  refine WC.region ?_
  have hrg := SM.ok_rng hO hi.1 hn; have hrl := hO.rle
  obtain ⟨⟨ua, uc, ga, gc, ra, rc⟩, hS⟩ := St.exOpen (f := sltF s S) hS; have hbu := bos_len S.used; have hbg := u32s_len S.gen; have hbr := u32s_len S.rel
  replace hS : St g (cel s #[.slice ua (List.length (bos S.used)) uc, .slice ga (List.length (u32s S.gen)) gc, .slice ra (List.length (u32s S.rel)) rc, .int .u32 S.fresh] 164 :: Own 4 1 (bos S.used) ua uc :: Own 40 1 (u32s S.gen) ga gc :: Own 40 1 (u32s S.rel) ra rc :: L) w := hS
  refine WL.run 5 [.slice ua (List.length (bos S.used)) uc] rfl (by exact hS.ld 0 rfl rfl) ?_
  obtain ⟨u, hu⟩ : ∃ u, S.used[i.toNat]? = some u := ⟨_, List.getElem?_eq_getElem (by omega)⟩
  refine WL.ix rfl rfl (i := i) (i.toNat) el_162 rfl rfl (by omega) (by omega) (hS.rdO 1 rfl (bos_at hu)).1 ?_
  refine WL.stE rfl rfl rfl 1 (i.toNat) 0 [.bool u] (bos (S.used.set i.toNat false)) hS rfl (bos_at hu) rfl rfl rfl rfl rfl (bos_set _ _ _) (fun w hS => ?_)
  replace hS : St g (cel s #[.slice ua (List.length (bos S.used)) uc, .slice ga (List.length (u32s S.gen)) gc, .slice ra (List.length (u32s S.rel)) rc, .int .u32 S.fresh] 164 :: Own 4 1 (bos (S.used.set i.toNat false)) ua uc :: Own 40 1 (u32s S.gen) ga gc :: Own 40 1 (u32s S.rel) ra rc :: L) w := hS
  refine WL.nil ?_
  as_aux_lemma =>
    refine WC.seq ?_
    refine WC.region ?_
    refine WL.run 6 [.slice ra (List.length (u32s S.rel)) rc] rfl (by exact hS.ld 0 rfl rfl) ?_
    refine WL.lit rfl rfl (u32s [i]) el_54 hS (by exact ⟨rfl, rfl⟩) (u32s_ok _) rfl (by decide) (fun b1 w hS => ?_)
    refine WL.app rfl rfl 4 (u32s (S.rel ++ [i])) el_54 hS rfl (hS.srcO 0 rfl) (u32s_app _ _).symm (Rm.of (by first | omega | (simp <;> omega)) (by decide)) rfl rfl (fun a1 c1 w hS => ?_)
    replace hS : St g (Own 40 1 (u32s [i]) (some ⟨b1, 0, none⟩) (List.length (u32s [i])) :: cel s #[.slice ua (List.length (bos S.used)) uc, .slice ga (List.length (u32s S.gen)) gc, .slice ra (List.length (u32s S.rel)) rc, .int .u32 S.fresh] 164 :: Own 4 1 (bos (S.used.set i.toNat false)) ua uc :: Own 40 1 (u32s S.gen) ga gc :: Own 40 1 (u32s (S.rel ++ [i])) a1 c1 :: L) w := hS
    refine WL.r 2 rfl ?_
    refine WL.st rfl rfl rfl 1 hS rfl rfl rfl rfl rfl rfl (fun w hS => ?_)
    replace hS : St g (Own 40 1 (u32s [i]) (some ⟨b1, 0, none⟩) (List.length (u32s [i])) :: cel s #[.slice ua (List.length (bos S.used)) uc, .slice ga (List.length (u32s S.gen)) gc, .slice a1 (List.length (u32s (S.rel ++ [i]))) c1, .int .u32 S.fresh] 164 :: Own 4 1 (bos (S.used.set i.toNat false)) ua uc :: Own 40 1 (u32s S.gen) ga gc :: Own 40 1 (u32s (S.rel ++ [i])) a1 c1 :: L) w := hS
    refine WL.nil ?_
    refine WC.seq ?_
    refine WC.region ?_
    refine WL.r 1 rfl ?_
    refine WL.nil ?_
    refine WC.ret ?_
    replace hS := St.exClose (f := sltF s (S.release i)) ⟨ua, uc, ga, gc, a1, c1⟩ (by
      have e1 : (bos (S.release i).used).length = (bos S.used).length := by simp [SM.release]
      unfold sltF
      rw [e1]
      exact hS.sel 5 [1, 1, 1, 1] rfl)
    replace hS : St g (Slt s (S.release i) :: L) w := hS
    refine ⟨[.int .i64 0], rfl, ?_⟩
    exact ⟨rfl, hS⟩
end Go.Proofs.Ytlnlnebibgdjdaa
