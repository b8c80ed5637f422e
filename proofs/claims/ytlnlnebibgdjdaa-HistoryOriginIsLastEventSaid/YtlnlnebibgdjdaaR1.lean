/-
  Arenas: New, Free, Capacity, Retain, Count, Generation.
  Conditions: the arena is one.
-/
import Derived.Test.YtlnlnebibgdjdaaS2
import Derived.Test.YtlnlnebibgdjdaaTra
namespace Go.Proofs.Ytlnlnebibgdjdaa
open Go Go.V

theorem arn_new1 {n : Nat} : (nds (AM.new n).nodes).length = n + 1 := by simp [AM.new]
theorem arn_new2 {n : Nat} : (i64s (AM.new n).cnt).length = n + 1 := by simp [AM.new]
theorem ar_new_bad {g w : World} {L : List HP} (cap : Int) (hc : ¬ (1 ≤ cap ∧ cap ≤ 65536)) (hS : St g (L) w) :
    Sp Try.prog 42 [.int .i64 cap] w (fun v w' => v = .tuple #[.pointer none, .int .i64 1] ∧ St g (L) w') := by
  refine Sp.enter Try.func42 rfl (by kernel_rfl) (by kernel_rfl) ?_
  refine WC.seq ?_
  refine WC.region ?_
  refine WL.r 2 rfl ?_
  refine WL.nil ?_
  refine WC.seq ?_
  refine WC.region ?_
  refine WL.r 1 rfl ?_
  refine WL.call rfl rfl (sl_new_bad (cap := cap) (hc := hc) (hS := hS)) rfl ?_
  clear hS; rintro _ w ⟨rfl, hS⟩
  replace hS : St g (L) w := hS
  refine WL.r 5 rfl ?_
  refine WL.nil ?_
  refine WC.seq ?_
  refine WC.seq ?_
  refine WC.region ?_
  refine WL.r 2 rfl ?_
  refine WL.nil ?_
  refine WC.ifT rfl (decide_eq_true ((by decide))) ?_
  refine WC.seq ?_
  refine WC.region ?_
  refine WL.r 3 rfl ?_
  refine WL.nil ?_
  refine WC.ret ?_
  refine ⟨[.pointer none, .int .i64 1], ⟨rfl, rfl⟩, ?_⟩
  exact ⟨rfl, hS⟩
theorem ar_new_ok {g w : World} {L : List HP} (cap : Int) (hc : 1 ≤ cap ∧ cap ≤ 65536) (hS : St g (L) w) :
    Sp Try.prog 42 [.int .i64 cap] w (fun v w' => ∃ (a : Nat), v = .tuple #[.pointer (some ⟨a, 0, none⟩), .int .i64 0] ∧ St g (Arn a (AM.new cap.toNat) :: L) w') := by
  refine Sp.enter Try.func42 rfl (by kernel_rfl) (by kernel_rfl) ?_
  refine WC.seq ?_
  refine WC.region ?_
  refine WL.r 2 rfl ?_
  refine WL.nil ?_
  refine WC.seq ?_
  refine WC.region ?_
  refine WL.r 1 rfl ?_
  refine WL.call rfl rfl (sl_new_ok (cap := cap) (hc := hc) (hS := hS)) rfl ?_
  clear hS; rintro _ w ⟨s1, rfl, hS⟩
  replace hS : St g (Slt s1 (SM.new cap.toNat) :: L) w := hS
  refine WL.r 5 rfl ?_
  refine WL.nil ?_
  refine WC.seq ?_
  refine WC.seq ?_
  refine WC.region ?_
  refine WL.r 2 rfl ?_
  refine WL.nil ?_
  refine WC.ifF rfl (decide_eq_false ((by decide))) ?_
  refine WC.skip ?_
  refine WC.seq ?_
  refine WC.tree (.two [0, 1, 4, 2, 5] 3 [0, 4, 5] (.one [] 6 [0, 1, 2] (.one [7] 8 [] (.seg [9, 10] .nil))) 6 [0, 1, 2] (.one [] 3 [0, 4, 5] (.one [7] 8 [] (.seg [9, 10] .nil)))) (by kernel_rfl) (by kernel_rfl) ?_
  refine WQ.r 4 rfl ?_
  refine WQ.nw 16 rfl (w64 (by omega)) ?_
  refine WQ.r 1 rfl ?_
  refine WQ.nw 19 rfl (w64 (by omega)) ?_
  refine WQ.nil ?_
  intro m1
  replace hS := hS.drewN m1; generalize hwm1 : World.drewN _ _ = w at *; clear hwm1
  refine ⟨?_, ?_⟩
  · refine WL.make rfl rfl (v := cap + 1) (v' := cap + 1) (cap.toNat + 1) (cap.toNat + 1) el_104 hS rfl (by omega) rfl (by omega) (by omega) (Rm.of (by omega) (by decide)) (fun b1 w hS => ?_)
    replace hS : St g (Own 123 8 (List.replicate (cap.toNat + 1) [.int .i64 0, .int .i64 0, .int .u32 0, .int .u32 0, .int .i64 0, .int .i64 0, .int .i64 0, .int .i64 0]) (some ⟨b1, 0, none⟩) (cap.toNat + 1) :: Slt s1 (SM.new cap.toNat) :: L) w := hS
    refine WL.nil ?_
    refine ⟨by exact ⟨RQ.pure rfl rfl rfl rfl, RQ.pure rfl rfl rfl rfl, RQ.pure rfl rfl rfl (congrArg (Value.int .i64) (Eq.symm (w64 (by omega))))⟩, ?_⟩
    refine WQ.nil ?_
    intro m2
    replace hS := hS.drewN m2; generalize hwm2 : World.drewN _ _ = w at *; clear hwm2
    refine WL.make rfl rfl (v := cap + 1) (v' := cap + 1) (cap.toNat + 1) (cap.toNat + 1) el_33 hS rfl (by omega) rfl (by omega) (by omega) (Rm.of (by omega) (by decide)) (fun b2 w hS => ?_)
    replace hS : St g (Own 3 1 (List.replicate (cap.toNat + 1) [.int .i64 0]) (some ⟨b2, 0, none⟩) (cap.toNat + 1) :: Own 123 8 (List.replicate (cap.toNat + 1) [.int .i64 0, .int .i64 0, .int .u32 0, .int .u32 0, .int .i64 0, .int .i64 0, .int .i64 0, .int .i64 0]) (some ⟨b1, 0, none⟩) (cap.toNat + 1) :: Slt s1 (SM.new cap.toNat) :: L) w := hS
    refine WL.nil ?_
    refine ⟨by exact ⟨RQ.pure rfl rfl rfl rfl, RQ.pure rfl rfl rfl rfl, RQ.pure rfl rfl rfl (congrArg (Value.int .i64) (Eq.symm (w64 (by omega))))⟩, ?_⟩
    refine WQ.build rfl rfl (cs := [.pointer (some ⟨s1, 0, none⟩), .slice (some ⟨b1, 0, none⟩) (cap.toNat + 1) (cap.toNat + 1), .slice (some ⟨b2, 0, none⟩) (cap.toNat + 1) (cap.toNat + 1), .int .u64 0]) zv_106 rfl rfl ?_
    refine WQ.nil ?_
    intro m3
    replace hS := hS.drewN m3; generalize hwm3 : World.drewN _ _ = w at *; clear hwm3
    refine WL.box rfl rfl #[.pointer (some ⟨s1, 0, none⟩), .slice (some ⟨b1, 0, none⟩) (cap.toNat + 1) (cap.toNat + 1), .slice (some ⟨b2, 0, none⟩) (cap.toNat + 1) (cap.toNat + 1), .int .u64 0] hS rfl rfl (fun b3 w hS => ?_)
    refine WL.nil ?_
    refine ⟨by exact trivial, ?_⟩
    refine WQ.r 2 rfl ?_
    refine WQ.nil ?_
    intro m4
    replace hS := hS.drewN m4; generalize hwm4 : World.drewN _ _ = w at *; clear hwm4
    as_aux_lemma =>
      refine WC.ret ?_
      rw [nds_rep, i64s_rep] at hS
      first
      | (replace hS := St.exClose (f := arnF b3 (AM.new cap.toNat)) ⟨s1, some ⟨b1, 0, none⟩, cap.toNat + 1, some ⟨b2, 0, none⟩, cap.toNat + 1, 0⟩ (by
          unfold arnF
          rw [arn_new1, arn_new2]
          exact hS.sel 4 [0, 2, 1, 0] rfl))
      | (replace hS := St.exClose (f := arnF b3 (AM.new cap.toNat)) ⟨s1, some ⟨b2, 0, none⟩, cap.toNat + 1, some ⟨b1, 0, none⟩, cap.toNat + 1, 0⟩ (by
          unfold arnF
          rw [arn_new1, arn_new2]
          exact hS.sel 4 [0, 2, 0, 0] rfl))
      replace hS : St g (Arn b3 (AM.new cap.toNat) :: L) w := hS
      refine ⟨[.pointer (some ⟨b3, 0, none⟩), .int .i64 0], ⟨rfl, rfl⟩, ?_⟩
      exact ⟨_, rfl, hS⟩
  · refine WL.make rfl rfl (v := cap + 1) (v' := cap + 1) (cap.toNat + 1) (cap.toNat + 1) el_33 hS rfl (by omega) rfl (by omega) (by omega) (Rm.of (by omega) (by decide)) (fun b1 w hS => ?_)
    replace hS : St g (Own 3 1 (List.replicate (cap.toNat + 1) [.int .i64 0]) (some ⟨b1, 0, none⟩) (cap.toNat + 1) :: Slt s1 (SM.new cap.toNat) :: L) w := hS
    refine WL.nil ?_
    refine ⟨by exact ⟨RQ.pure rfl rfl rfl rfl, RQ.pure rfl rfl rfl rfl, RQ.pure rfl rfl rfl (congrArg (Value.int .i64) (Eq.symm (w64 (by omega))))⟩, ?_⟩
    refine WQ.nil ?_
    intro m2
    replace hS := hS.drewN m2; generalize hwm2 : World.drewN _ _ = w at *; clear hwm2
    refine WL.make rfl rfl (v := cap + 1) (v' := cap + 1) (cap.toNat + 1) (cap.toNat + 1) el_104 hS rfl (by omega) rfl (by omega) (by omega) (Rm.of (by omega) (by decide)) (fun b2 w hS => ?_)
    replace hS : St g (Own 123 8 (List.replicate (cap.toNat + 1) [.int .i64 0, .int .i64 0, .int .u32 0, .int .u32 0, .int .i64 0, .int .i64 0, .int .i64 0, .int .i64 0]) (some ⟨b2, 0, none⟩) (cap.toNat + 1) :: Own 3 1 (List.replicate (cap.toNat + 1) [.int .i64 0]) (some ⟨b1, 0, none⟩) (cap.toNat + 1) :: Slt s1 (SM.new cap.toNat) :: L) w := hS
    refine WL.nil ?_
    refine ⟨by exact ⟨RQ.pure rfl rfl rfl rfl, RQ.pure rfl rfl rfl rfl, RQ.pure rfl rfl rfl (congrArg (Value.int .i64) (Eq.symm (w64 (by omega))))⟩, ?_⟩
    refine WQ.build rfl rfl (cs := [.pointer (some ⟨s1, 0, none⟩), .slice (some ⟨b2, 0, none⟩) (cap.toNat + 1) (cap.toNat + 1), .slice (some ⟨b1, 0, none⟩) (cap.toNat + 1) (cap.toNat + 1), .int .u64 0]) zv_106 rfl rfl ?_
    refine WQ.nil ?_
    intro m3
    replace hS := hS.drewN m3; generalize hwm3 : World.drewN _ _ = w at *; clear hwm3
    refine WL.box rfl rfl #[.pointer (some ⟨s1, 0, none⟩), .slice (some ⟨b2, 0, none⟩) (cap.toNat + 1) (cap.toNat + 1), .slice (some ⟨b1, 0, none⟩) (cap.toNat + 1) (cap.toNat + 1), .int .u64 0] hS rfl rfl (fun b3 w hS => ?_)
    refine WL.nil ?_
    refine ⟨by exact trivial, ?_⟩
    refine WQ.r 2 rfl ?_
    refine WQ.nil ?_
    intro m4
    replace hS := hS.drewN m4; generalize hwm4 : World.drewN _ _ = w at *; clear hwm4
    as_aux_lemma =>
      refine WC.ret ?_
      rw [nds_rep, i64s_rep] at hS
      first
      | (replace hS := St.exClose (f := arnF b3 (AM.new cap.toNat)) ⟨s1, some ⟨b1, 0, none⟩, cap.toNat + 1, some ⟨b2, 0, none⟩, cap.toNat + 1, 0⟩ (by
          unfold arnF
          rw [arn_new1, arn_new2]
          exact hS.sel 4 [0, 2, 1, 0] rfl))
      | (replace hS := St.exClose (f := arnF b3 (AM.new cap.toNat)) ⟨s1, some ⟨b2, 0, none⟩, cap.toNat + 1, some ⟨b1, 0, none⟩, cap.toNat + 1, 0⟩ (by
          unfold arnF
          rw [arn_new1, arn_new2]
          exact hS.sel 4 [0, 2, 0, 0] rfl))
      replace hS : St g (Arn b3 (AM.new cap.toNat) :: L) w := hS
      refine ⟨[.pointer (some ⟨b3, 0, none⟩), .int .i64 0], ⟨rfl, rfl⟩, ?_⟩
      exact ⟨_, rfl, hS⟩
theorem ar_free {g w : World} {L : List HP} (a : Nat) (A : AM) (hA : AWf A) (hS : St g (Arn a A :: L) w) :
    Sp Try.prog 13 [.pointer (some ⟨a, 0, none⟩)] w (fun v w' => v = .int .i64 A.s.free ∧ St g (Arn a A :: L) w') := by
  refine Sp.enter Try.func13 rfl (by kernel_rfl) (by kernel_rfl) ?_
  refine WC.seq ?_
  refine WC.region ?_
  obtain ⟨⟨p, na, nc, ca, cc, rd⟩, hS⟩ := St.exOpen (f := arnF a A) hS; have hAs := hA.s; have hcp := hAs.cap; have hnl := hA.nl; have hcl := hA.cl; have hbn := nds_len A.nodes; have hbc := i64s_len A.cnt
  replace hS : St g (cel a #[.pointer (some ⟨p, 0, none⟩), .slice na (List.length (nds A.nodes)) nc, .slice ca (List.length (i64s A.cnt)) cc, .int .u64 rd] 106 :: Slt p A.s :: Own 123 8 (nds A.nodes) na nc :: Own 3 1 (i64s A.cnt) ca cc :: L) w := hS
  refine WL.r 1 rfl ?_
  refine WL.nil ?_
  refine WC.seq ?_
  refine WC.region ?_
  refine WL.run 4 [.pointer (some ⟨p, 0, none⟩)] rfl (by exact hS.ld 0 rfl rfl) ?_
  refine WL.call rfl rfl (sl_free (s := p) (S := A.s) (hO := (by assumption)) (hS := (hS.sel 2 [1, 0] rfl))) rfl ?_
  clear hS; rintro _ w ⟨rfl, hS⟩
  replace hS : St g (Slt p A.s :: cel a #[.pointer (some ⟨p, 0, none⟩), .slice na (List.length (nds A.nodes)) nc, .slice ca (List.length (i64s A.cnt)) cc, .int .u64 rd] 106 :: Own 123 8 (nds A.nodes) na nc :: Own 3 1 (i64s A.cnt) ca cc :: L) w := hS
  refine WL.r 1 rfl ?_
  refine WL.nil ?_
  refine WC.ret ?_
  replace hS := St.exClose (f := arnF a A) ⟨p, na, nc, ca, cc, rd⟩ (by first | exact hS | exact hS.sel 4 [1, 0, 0, 0] rfl)
  replace hS : St g (Arn a A :: L) w := hS
  refine ⟨[.int .i64 A.s.free], rfl, ?_⟩
  exact ⟨rfl, hS⟩
theorem ar_retain {g w : World} {L : List HP} (a : Nat) (A : AM) (i : Int) (hA : AWf A) (hi : 0 ≤ i ∧ i < 4294967296) (hS : St g (Arn a A :: L) w) :
    Sp Try.prog 61 [.pointer (some ⟨a, 0, none⟩), .int .u32 i] w (fun v w' => v = .int .i64 (A.retE i) ∧ St g (Arn a (A.ret i) :: L) w') := by
  refine Sp.enter Try.func61 rfl (by kernel_rfl) (by kernel_rfl) ?_
  refine WC.seq ?_
  refine WC.region ?_
  obtain ⟨⟨p, na, nc, ca, cc, rd⟩, hS⟩ := St.exOpen (f := arnF a A) hS; have hAs := hA.s; have hcp := hAs.cap; have hnl := hA.nl; have hcl := hA.cl; have hbn := nds_len A.nodes; have hbc := i64s_len A.cnt
  replace hS : St g (cel a #[.pointer (some ⟨p, 0, none⟩), .slice na (List.length (nds A.nodes)) nc, .slice ca (List.length (i64s A.cnt)) cc, .int .u64 rd] 106 :: Slt p A.s :: Own 123 8 (nds A.nodes) na nc :: Own 3 1 (i64s A.cnt) ca cc :: L) w := hS
  refine WL.r 1 rfl ?_
  refine WL.nil ?_
  refine WC.seq ?_
  refine WC.seq ?_
  refine WC.region ?_
  refine WL.r 2 rfl ?_
  refine WL.nil ?_
  refine WC.ifP rfl (fun cd1 => ?_) (fun cd1 => ?_)
  · refine WC.seq ?_
    refine WC.region ?_
    refine WL.r 1 rfl ?_
    refine WL.nil ?_
    refine WC.ret ?_
    replace hS := St.exClose (f := arnF a A) ⟨p, na, nc, ca, cc, rd⟩ hS; replace hS : St g (Arn a (A.ret i) :: L) w := by rw [AM.ret, if_neg (fun h => h.1 cd1)]; exact hS
    replace hS : St g (Arn a (A.ret i) :: L) w := hS
    refine ⟨[.int .i64 0], rfl, ?_⟩
    exact ⟨congrArg (Value.int .i64) (if_pos (.inl cd1)).symm, hS⟩
  · refine WC.skip ?_
    refine WC.seq ?_
    refine WC.seq ?_
    refine WC.region ?_
    refine WL.run 5 [.pointer (some ⟨p, 0, none⟩)] rfl (by exact hS.ld 0 rfl rfl) ?_
    refine WL.call rfl rfl (sl_ok (s := p) (S := A.s) (i := i) (hl := (by first | assumption | exact SOk.le (by assumption))) (hi := (by omega)) (hS := (hS.sel 2 [1, 0] rfl))) rfl ?_
    clear hS; rintro _ w ⟨rfl, hS⟩
    replace hS : St g (Slt p A.s :: cel a #[.pointer (some ⟨p, 0, none⟩), .slice na (List.length (nds A.nodes)) nc, .slice ca (List.length (i64s A.cnt)) cc, .int .u64 rd] 106 :: Own 123 8 (nds A.nodes) na nc :: Own 3 1 (i64s A.cnt) ca cc :: L) w := hS
    refine WL.r 1 rfl ?_
    refine WL.nil ?_
    refine WC.if_ rfl (fun cd2 => ?_) (fun cd2 => ?_)
    · refine WC.seq ?_
      refine WC.region ?_
      refine WL.r 1 rfl ?_
      refine WL.nil ?_
      as_aux_lemma =>
        refine WC.ret ?_
        replace hS := St.exClose (f := arnF a A) ⟨p, na, nc, ca, cc, rd⟩ (by first | exact hS | exact hS.sel 4 [1, 0, 0, 0] rfl); replace hS : St g (Arn a (A.ret i) :: L) w := by rw [AM.ret, if_neg (fun h => by rw [h.2] at cd2; cases cd2)]; exact hS
        replace hS : St g (Arn a (A.ret i) :: L) w := hS
        refine ⟨[.int .i64 3], rfl, ?_⟩
        exact ⟨congrArg (Value.int .i64) (if_neg (fun h => h.elim cd1 (fun k => by rw [k] at cd2; cases cd2))).symm, hS⟩
    · refine WC.skip ?_
      as_aux_lemma =>
        refine WC.seq ?_
        refine WC.region ?_
        have hik := SM.ok_rng hAs hi.1 (by simpa using cd2)
        refine WL.run 5 [.slice ca (List.length (i64s A.cnt)) cc] rfl (by exact hS.ld 1 rfl rfl) ?_
        obtain ⟨x, hx⟩ : ∃ x, A.cnt[i.toNat]? = some x := ⟨_, List.getElem?_eq_getElem (by omega)⟩
        refine WL.ix rfl rfl (i := i) (i.toNat) el_33 rfl rfl (by omega) (by omega) (hS.rdO 3 rfl (i64s_at hx)).1 ?_
        refine WL.run 2 [.int .i64 x] rfl (by exact (hS.rdO 3 rfl (i64s_at hx)).2 0 _ rfl) ?_
        refine WL.ix rfl rfl (i := i) (i.toNat) el_33 rfl rfl (by omega) (by omega) (hS.rdO 3 rfl (i64s_at hx)).1 ?_
        refine WL.stE rfl rfl rfl 3 (i.toNat) 0 [.int .i64 x] (i64s (A.cnt.set i.toNat (IntKind.i64.wrap (x + 1)))) hS rfl (i64s_at hx) rfl rfl rfl rfl rfl (i64s_set _ _ _) (fun w hS => ?_)
        replace hS : St g (Slt p A.s :: cel a #[.pointer (some ⟨p, 0, none⟩), .slice na (List.length (nds A.nodes)) nc, .slice ca (List.length (i64s A.cnt)) cc, .int .u64 rd] 106 :: Own 123 8 (nds A.nodes) na nc :: Own 3 1 (i64s (A.cnt.set i.toNat (IntKind.i64.wrap (x + 1)))) ca cc :: L) w := hS
        refine WL.nil ?_
        refine WC.seq ?_
        refine WC.region ?_
        refine WL.r 1 rfl ?_
        refine WL.nil ?_
        refine WC.ret ?_
        replace hS := St.exClose (f := arnF a (A.inc i)) ⟨p, na, nc, ca, cc, rd⟩ (by
          have e1 : (i64s (A.inc i).cnt).length = (i64s A.cnt).length := by simp [AM.inc]
          have e2 : (A.inc i).cnt = A.cnt.set i.toNat (IntKind.i64.wrap (x + 1)) := by unfold AM.inc AM.cntOf; rw [hx]; rfl
          unfold arnF
          rw [e1, e2]
          first | exact hS | exact hS.sel 4 [1, 0, 0, 0] rfl)
        replace hS : St g (Arn a (A.ret i) :: L) w := by rw [AM.ret, if_pos ⟨cd1, by simpa using cd2⟩]; exact hS
        replace hS : St g (Arn a (A.ret i) :: L) w := hS
        refine ⟨[.int .i64 0], rfl, ?_⟩
        exact ⟨congrArg (Value.int .i64) (if_pos (.inr (by simpa using cd2))).symm, hS⟩
theorem ar_release0 {g w : World} {L : List HP} (a : Nat) (A : AM) (hS : St g (Arn a A :: L) w) :
    Sp Try.prog 21 [.pointer (some ⟨a, 0, none⟩), .int .u32 0] w (fun v w' => v = .tuple #[.int .i64 0, .int .i64 0] ∧ St g (Arn a A :: L) w') := by
  refine Sp.enter Try.func21 rfl (by kernel_rfl) (by kernel_rfl) ?_
  refine WC.seq ?_
  refine WC.region ?_
  refine WL.r 2 rfl ?_
  refine WL.nil ?_
  refine WC.seq ?_
  refine WC.seq ?_
  refine WC.region ?_
  refine WL.r 2 rfl ?_
  refine WL.nil ?_
  refine WC.ifT rfl (decide_eq_true ((by decide))) ?_
  refine WC.seq ?_
  refine WC.region ?_
  refine WL.r 2 rfl ?_
  refine WL.nil ?_
  refine WC.ret ?_
  refine ⟨[.int .i64 0, .int .i64 0], ⟨rfl, rfl⟩, ?_⟩
  exact ⟨rfl, hS⟩
end Go.Proofs.Ytlnlnebibgdjdaa
