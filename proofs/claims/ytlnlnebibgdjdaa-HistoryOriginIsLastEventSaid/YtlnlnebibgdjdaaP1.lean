/-
  One side of a traversal: push, top, pop, expand.
  Conditions: the parts are subtrees of the arena.
-/
import Derived.Test.YtlnlnebibgdjdaaW1
import Derived.Test.YtlnlnebibgdjdaaPb
namespace Go.Proofs.Ytlnlnebibgdjdaa
open Go Go.V

theorem sd_push {g w : World} {L : List HP} (s a : Nat) (P : List Pt) (A : AM) (R : List Int) (i : Int) (t : Tr) (hA : ARf A R) (hi : Is A t i) (hl : P.length ≤ 900000000) (hS : St g (Sid s P :: Arn a A :: L) w) :
    Sp Try.prog 151 [.pointer (some ⟨s, 0, none⟩), .pointer (some ⟨a, 0, none⟩), .int .u32 i] w (fun v w' => v = .tuple #[] ∧ St g (Sid s (pushP P i t) :: Arn a A :: L) w') := by
  refine Sp.enter Try.func151 rfl (by kernel_rfl) (by kernel_rfl) ?_
  have _ := hl
  refine WC.seq ?_
  refine WC.region ?_
  refine WL.r 2 rfl ?_
  refine WL.nil ?_
  refine WC.ifP rfl (fun hne => ?_) (fun hne => ?_)
  · refine WC.plan [([0, 1, 5, 6, 7, 2, 3, 4], some (8, [0, 1, 2, 3, 4, 5])), ([], some (9, [0, 1, 2, 3, 4])), ([], some (10, [0, 1, 2, 3, 4])), ([], some (11, [0])), ([12, 13], some (14, []))] (by kernel_rfl) (by kernel_rfl) ?_
    obtain ⟨⟨su, sc⟩, hS⟩ := St.exOpen (f := sidF s P) hS
    replace hS : St g (cel s #[.slice su (List.length (pts P)) sc] 225 :: Own 228 5 (pts P) su sc :: Arn a A :: L) w := hS
    have hpl := pts_len P
    refine WQ.run 8 [.slice su (List.length (pts P)) sc] rfl (by exact hS.ld 0 rfl rfl) ?_
    refine WQ.nil ?_
    intro m1
    replace hS := hS.drewN m1; generalize hwm1 : World.drewN _ _ = w at *; clear hwm1
    refine WL.call rfl rfl (tr_size (a := a) (A := A) (R := R) (i := i) (t := t) (hA := hA) (hi := hi) (hS := (hS.sel 3 [2, 0, 0] rfl))) rfl ?_
    clear hS; rintro _ w ⟨rfl, hS⟩
    replace hS : St g (Arn a A :: cel s #[.slice su (List.length (pts P)) sc] 225 :: Own 228 5 (pts P) su sc :: L) w := hS
    refine WL.nil ?_
    refine ⟨by exact ⟨RQ.pure rfl rfl rfl rfl, RQ.pure rfl rfl rfl rfl, RQ.pure rfl rfl rfl rfl, RQ.pure rfl rfl rfl rfl, RQ.load rfl rfl rfl rfl (hS.ld 1 rfl rfl), RQ.pure rfl rfl rfl rfl⟩, ?_⟩
    refine WQ.nil ?_
    intro m2
    replace hS := hS.drewN m2; generalize hwm2 : World.drewN _ _ = w at *; clear hwm2
    refine WL.build rfl rfl (cs := [.int .u32 i, .int .i64 (t.n : Int), .int .i64 0, .int .i64 0, .bool false]) zv_228 rfl rfl ?_
    refine WL.nil ?_
    refine ⟨by exact ⟨RQ.pure rfl rfl rfl rfl, RQ.pure rfl rfl rfl rfl, RQ.pure rfl rfl rfl rfl, RQ.pure rfl rfl rfl rfl, RQ.load rfl rfl rfl rfl (hS.ld 1 rfl rfl)⟩, ?_⟩
    refine WQ.nil ?_
    intro m3
    replace hS := hS.drewN m3; generalize hwm3 : World.drewN _ _ = w at *; clear hwm3
    refine WL.lit rfl rfl (pts [Pt.sub i t]) el_223 hS (by exact ⟨rfl, rfl⟩) (pts_ok _) rfl (by decide) (fun b1 w hS => ?_)
    refine WL.nil ?_
    refine ⟨by exact ⟨RQ.pure rfl rfl rfl rfl, RQ.pure rfl rfl rfl rfl, RQ.pure rfl rfl rfl rfl, RQ.pure rfl rfl rfl rfl, RQ.load rfl rfl rfl rfl (hS.ld 2 rfl rfl)⟩, ?_⟩
    refine WQ.nil ?_
    intro m4
    replace hS := hS.drewN m4; generalize hwm4 : World.drewN _ _ = w at *; clear hwm4
    refine WL.app rfl rfl 3 (pts (P ++ [Pt.sub i t])) el_223 hS rfl (hS.srcO 0 rfl) (pts_app _ _).symm (Rm.of (by first | omega | (simp <;> omega)) (by decide)) rfl rfl (fun a1 c1 w hS => ?_)
    replace hS : St g (Own 228 5 (pts [Pt.sub i t]) (some ⟨b1, 0, none⟩) (List.length (pts [Pt.sub i t])) :: Arn a A :: cel s #[.slice su (List.length (pts P)) sc] 225 :: Own 228 5 (pts (P ++ [Pt.sub i t])) a1 c1 :: L) w := hS
    refine WL.nil ?_
    refine ⟨by exact RQ.pure rfl rfl rfl rfl, ?_⟩
    refine WQ.r 2 rfl ?_
    refine WQ.nil ?_
    intro m5
    replace hS := hS.drewN m5; generalize hwm5 : World.drewN _ _ = w at *; clear hwm5
    refine WL.st rfl rfl rfl 2 hS rfl rfl rfl rfl rfl rfl (fun w hS => ?_)
    replace hS : St g (Own 228 5 (pts [Pt.sub i t]) (some ⟨b1, 0, none⟩) (List.length (pts [Pt.sub i t])) :: Arn a A :: cel s #[.slice a1 (List.length (pts (P ++ [Pt.sub i t]))) c1] 225 :: Own 228 5 (pts (P ++ [Pt.sub i t])) a1 c1 :: L) w := hS
    refine WL.nil ?_
    refine ⟨by exact trivial, ?_⟩
    intro m6
    replace hS := hS.drewN m6; generalize hwm6 : World.drewN _ _ = w at *; clear hwm6
    replace hS := St.exClose (f := sidF s (P ++ [Pt.sub i t])) (L := Own 228 5 (pts [Pt.sub i t]) (some ⟨b1, 0, none⟩) (List.length (pts [Pt.sub i t])) :: Arn a A :: L) ⟨a1, c1⟩ ((hS.sel 4 [2, 2, 0, 0] rfl))
    replace hS : St g (Sid s (P ++ [Pt.sub i t]) :: Own 228 5 (pts [Pt.sub i t]) (some ⟨b1, 0, none⟩) (List.length (pts [Pt.sub i t])) :: Arn a A :: L) w := hS
    refine ⟨[], trivial, ?_⟩
    replace hS := (hS.sel 2 [0] rfl)
    exact ⟨rfl, by unfold pushP; first | (rw [if_neg hne]; exact hS) | (rw [if_pos (by omega)]; exact hS)⟩
  · refine WC.skip ?_
    refine ⟨[], trivial, ?_⟩
    exact ⟨rfl, by unfold pushP; first | (rw [if_neg hne]; exact hS) | (rw [if_pos (by omega)]; exact hS)⟩
theorem sd_top {g w : World} {L : List HP} (s : Nat) (P : List Pt) (hl : P.length ≤ 900000000) (hS : St g (Sid s P :: L) w) :
    Sp Try.prog 152 [.pointer (some ⟨s, 0, none⟩)] w (fun v w' => v = .tuple #[.agg #[.int .u32 (pI (topP P)), .int .i64 (pN (topP P)), .int .i64 (pK (topP P)), .int .i64 (pV (topP P)), .bool (pS (topP P))], .bool (topP P).isSome] ∧ St g (Sid s P :: L) w') := by
  refine Sp.enter Try.func152 rfl (by kernel_rfl) (by kernel_rfl) ?_
  have _ := hl
  refine WC.seq ?_
  refine WC.region ?_
  obtain ⟨⟨su, sc⟩, hS⟩ := St.exOpen (f := sidF s P) hS
  replace hS : St g (cel s #[.slice su (List.length (pts P)) sc] 225 :: Own 228 5 (pts P) su sc :: L) w := hS
  have hpl := pts_len P
  refine WL.new rfl rfl zv_228 hS (fun b1 w hS => ?_)
  refine WL.r 1 rfl ?_
  refine WL.nil ?_
  refine WC.seq ?_
  refine WC.seq ?_
  refine WC.region ?_
  refine WL.run 6 [.slice su (List.length (pts P)) sc] rfl (by exact hS.ld 1 rfl rfl) ?_
  refine WL.nil ?_
  refine WC.ifP rfl (fun he => ?_) (fun he => ?_)
  · refine WC.seq ?_
    refine WC.region ?_
    refine WL.build rfl rfl (cs := [.int .u32 0, .int .i64 0, .int .i64 0, .int .i64 0, .bool false]) zv_228 rfl rfl ?_
    refine WL.stF rfl rfl rfl 0 hS rfl rfl rfl rfl rfl ag_228 (fun w hS => ?_)
    replace hS : St g (cel b1 #[.int .u32 0, .int .i64 0, .int .i64 0, .int .i64 0, .bool false] 228 :: cel s #[.slice su (List.length (pts P)) sc] 225 :: Own 228 5 (pts P) su sc :: L) w := hS
    refine WL.r 1 rfl ?_
    refine WL.nil ?_
    refine WC.ret ?_
    replace hS := St.exClose (f := sidF s P) (L := cel b1 #[.int .u32 0, .int .i64 0, .int .i64 0, .int .i64 0, .bool false] 228 :: L) ⟨su, sc⟩ ((hS.sel 3 [1, 1, 0] rfl))
    replace hS : St g (Sid s P :: cel b1 #[.int .u32 0, .int .i64 0, .int .i64 0, .int .i64 0, .bool false] 228 :: L) w := hS
    refine ⟨[.agg #[.int .u32 0, .int .i64 0, .int .i64 0, .int .i64 0, .bool false], .bool false], ⟨⟨_, rfl, hS.lvF 1 rfl ag_228⟩, rfl⟩, ?_⟩
    replace hS := (hS.sel 2 [0] rfl)
    have hn : P = [] := List.length_eq_zero_iff.1 (by omega); subst hn; exact ⟨rfl, hS⟩
  · refine WC.skip ?_
    refine WC.seq ?_
    refine WC.plan [([0, 4, 1, 5, 2, 6, 3, 7, 8, 9], some (10, [])), ([], some (11, [])), ([], some (12, [])), ([13], none)] (by kernel_rfl) (by kernel_rfl) ?_
    refine WQ.run 10 [.slice su (List.length (pts P)) sc, .slice su (List.length (pts P)) sc] rfl (by exact ⟨hS.ld 1 rfl rfl, hS.ld 1 rfl rfl⟩) ?_
    refine WQ.nw 20 rfl (w64 (by omega)) ?_
    refine WQ.nil ?_
    intro m1
    replace hS := hS.drewN m1; generalize hwm1 : World.drewN _ _ = w at *; clear hwm1
    obtain ⟨x, hx⟩ : ∃ x, P[P.length - 1]? = some x := ⟨_, List.getElem?_eq_getElem (by omega)⟩; have hgl : topP P = some x := (by unfold topP; rw [List.getLast?_eq_getElem?]; exact hx)
    refine WL.ix rfl rfl (i := (List.length (pts P) : Int) - 1) (P.length - 1) el_223 rfl rfl (by omega) (by omega) (hS.rdO 2 rfl (pts_at hx)).1 ?_
    refine WL.nil ?_
    refine ⟨by exact trivial, ?_⟩
    refine WQ.nil ?_
    intro m2
    replace hS := hS.drewN m2; generalize hwm2 : World.drewN _ _ = w at *; clear hwm2
    refine WL.ldC rfl rfl [.int .u32 (pI (some x)), .int .i64 (pN (some x)), .int .i64 (pK (some x)), .int .i64 (pV (some x)), .bool (pS (some x))] ag_228 rfl (hS.rdO 2 rfl (pts_at hx)).2 ?_
    refine WL.nil ?_
    refine ⟨by exact trivial, ?_⟩
    refine WQ.nil ?_
    intro m3
    replace hS := hS.drewN m3; generalize hwm3 : World.drewN _ _ = w at *; clear hwm3
    refine WL.stF rfl rfl rfl 0 hS rfl rfl rfl rfl rfl ag_228 (fun w hS => ?_)
    replace hS : St g (cel b1 #[.int .u32 (pI (some x)), .int .i64 (pN (some x)), .int .i64 (pK (some x)), .int .i64 (pV (some x)), .bool (pS (some x))] 228 :: cel s #[.slice su (List.length (pts P)) sc] 225 :: Own 228 5 (pts P) su sc :: L) w := hS
    refine WL.nil ?_
    refine ⟨by exact trivial, ?_⟩
    refine WQ.r 1 rfl ?_
    refine WQ.nil ?_
    intro m4
    replace hS := hS.drewN m4; generalize hwm4 : World.drewN _ _ = w at *; clear hwm4
    as_aux_lemma =>
      refine WC.ret ?_
      replace hS := St.exClose (f := sidF s P) (L := cel b1 #[.int .u32 (pI (some x)), .int .i64 (pN (some x)), .int .i64 (pK (some x)), .int .i64 (pV (some x)), .bool (pS (some x))] 228 :: L) ⟨su, sc⟩ ((hS.sel 3 [1, 1, 0] rfl))
      replace hS : St g (Sid s P :: cel b1 #[.int .u32 (pI (some x)), .int .i64 (pN (some x)), .int .i64 (pK (some x)), .int .i64 (pV (some x)), .bool (pS (some x))] 228 :: L) w := hS
      refine ⟨[.agg #[.int .u32 (pI (some x)), .int .i64 (pN (some x)), .int .i64 (pK (some x)), .int .i64 (pV (some x)), .bool (pS (some x))], .bool true], ⟨⟨_, rfl, hS.lvF 1 rfl ag_228⟩, rfl⟩, ?_⟩
      replace hS := (hS.sel 2 [0] rfl)
      exact ⟨by rw [hgl]; rfl, hS⟩
theorem sd_pop {g w : World} {L : List HP} (s : Nat) (P : List Pt) (hl : P.length ≤ 900000000) (hne : P ≠ []) (hS : St g (Sid s P :: L) w) :
    Sp Try.prog 153 [.pointer (some ⟨s, 0, none⟩)] w (fun v w' => v = .tuple #[] ∧ St g (Sid s P.dropLast :: L) w') := by
  refine Sp.enter Try.func153 rfl (by kernel_rfl) (by kernel_rfl) ?_
  have _ := hl
  refine WC.plan [([0, 1, 5, 2, 6, 3, 7, 4, 8, 9, 10], some (11, [0])), ([12, 13], some (14, []))] (by kernel_rfl) (by kernel_rfl) ?_
  obtain ⟨⟨su, sc⟩, hS⟩ := St.exOpen (f := sidF s P) hS
  replace hS : St g (cel s #[.slice su (List.length (pts P)) sc] 225 :: Own 228 5 (pts P) su sc :: L) w := hS
  have hpl := pts_len P; have hpos := List.length_pos_iff.2 hne
  refine WQ.run 11 [.slice su (List.length (pts P)) sc, .slice su (List.length (pts P)) sc] rfl (by exact ⟨hS.ld 0 rfl rfl, hS.ld 0 rfl rfl⟩) ?_
  refine WQ.nw 12 rfl (w64 (by omega)) ?_
  refine WQ.nil ?_
  intro m1
  replace hS := hS.drewN m1; generalize hwm1 : World.drewN _ _ = w at *; clear hwm1
  refine WL.slOwn rfl rfl (v := (List.length (pts P) : Int) - 1) 1 (P.length - 1) (pts P.dropLast) el_223 hS rfl rfl rfl (by omega) (by omega) (by rw [List.dropLast_eq_take, pts_take]) (fun hS => ?_)
  replace hS : St g (cel s #[.slice su (List.length (pts P)) sc] 225 :: Own 228 5 (pts P.dropLast) su sc :: L) w := hS
  refine WL.nil ?_
  refine ⟨by exact RQ.pure rfl rfl rfl rfl, ?_⟩
  refine WQ.r 2 rfl ?_
  refine WQ.nil ?_
  intro m2
  replace hS := hS.drewN m2; generalize hwm2 : World.drewN _ _ = w at *; clear hwm2
  refine WL.st rfl rfl rfl 0 hS rfl rfl rfl rfl rfl rfl (fun w hS => ?_)
  replace hS : St g (cel s #[.slice su (List.length (pts P.dropLast)) sc] 225 :: Own 228 5 (pts P.dropLast) su sc :: L) w := hS
  refine WL.nil ?_
  refine ⟨by exact trivial, ?_⟩
  intro m3
  replace hS := hS.drewN m3; generalize hwm3 : World.drewN _ _ = w at *; clear hwm3
  replace hS := St.exClose (f := sidF s P.dropLast) (L := L) ⟨su, sc⟩ (hS)
  replace hS : St g (Sid s P.dropLast :: L) w := hS
  refine ⟨[], trivial, ?_⟩
  exact ⟨rfl, hS⟩
set_option maxHeartbeats 1000000 in
set_option maxRecDepth 8192 in
theorem sd_exp {g w : World} {L : List HP} (s a : Nat) (P : List Pt) (A : AM) (R : List Int) (i k z : Int) (tl tr : Tr) (hA : ARf A R) (hP : (topP P) = some (.sub i (.node tl k z tr))) (hi : Is A (.node tl k z tr) i) (hl : P.length ≤ 800000000) (hS : St g (Sid s P :: Arn a A :: L) w) :
    Sp Try.prog 154 [.pointer (some ⟨s, 0, none⟩), .pointer (some ⟨a, 0, none⟩)] w (fun v w' => v = .tuple #[] ∧ St g (Sid s (expP P.dropLast A i k z tl tr) :: Arn a A :: L) w') := by
  refine Sp.enter Try.func154 rfl (by kernel_rfl) (by kernel_rfl) ?_
  have _ := hl
  refine WC.seq ?_
  refine WC.region ?_
  have hne : P ≠ [] := (fun e => by subst e; cases hP); have hri := hA.okrng hi.ref; have hpI : pI (topP P) = i := (by rw [hP]; rfl); have hdl : P.dropLast.length ≤ P.length := (by rw [List.length_dropLast]; omega)
  refine WL.r 1 rfl ?_
  refine WL.call rfl rfl (sd_top (s := s) (P := P) (hl := (by omega)) (hS := hS)) rfl ?_
  clear hS; rintro _ w ⟨rfl, hS⟩
  replace hS : St g (Sid s P :: Arn a A :: L) w := hS
  refine WL.r 3 rfl ?_
  refine WL.new rfl rfl zv_228 hS (fun b1 w hS => ?_)
  refine WL.stF rfl rfl rfl 0 hS rfl rfl rfl rfl rfl ag_228 (fun w hS => ?_)
  replace hS : St g (cel b1 #[.int .u32 (pI (topP P)), .int .i64 (pN (topP P)), .int .i64 (pK (topP P)), .int .i64 (pV (topP P)), .bool (pS (topP P))] 228 :: Sid s P :: Arn a A :: L) w := hS
  refine WL.r 1 rfl ?_
  refine WL.nil ?_
  refine WC.seq ?_
  refine WC.region ?_
  refine WL.r 1 rfl ?_
  refine WL.call rfl rfl (sd_pop (s := s) (P := P) (hl := (by omega)) (hne := hne) (hS := (hS.sel 2 [1, 0] rfl))) rfl ?_
  clear hS; rintro _ w ⟨rfl, hS⟩
  replace hS : St g (Sid s P.dropLast :: cel b1 #[.int .u32 (pI (topP P)), .int .i64 (pN (topP P)), .int .i64 (pK (topP P)), .int .i64 (pV (topP P)), .bool (pS (topP P))] 228 :: Arn a A :: L) w := hS
  refine WL.nil ?_
  refine WC.seq ?_
  refine WC.region ?_
  refine WL.run 3 [.int .u32 (pI (topP P))] rfl (by exact hS.ld 1 rfl rfl) ?_
  refine WL.call rfl rfl (ar_node (a := a) (A := A) (i := pI (topP P)) (hA := hA.toAWf) (hi := (by omega)) (hio := (by rw [hpI]; exact hi.2.1)) (hS := (hS.sel 3 [2, 0, 0] rfl))) rfl ?_
  clear hS; rintro _ w ⟨rfl, hS⟩
  replace hS : St g (Arn a A :: Sid s P.dropLast :: cel b1 #[.int .u32 (pI (topP P)), .int .i64 (pN (topP P)), .int .i64 (pK (topP P)), .int .i64 (pV (topP P)), .bool (pS (topP P))] 228 :: L) w := hS
  refine WL.r 3 rfl ?_
  refine WL.new rfl rfl zv_123 hS (fun b2 w hS => ?_)
  refine WL.stF rfl rfl rfl 0 hS rfl rfl rfl rfl rfl ag_123 (fun w hS => ?_)
  replace hS : St g (cel b2 #[.int .i64 (A.nd (pI (topP P))).key, .int .i64 (A.nd (pI (topP P))).val, .int .u32 (A.nd (pI (topP P))).lf, .int .u32 (A.nd (pI (topP P))).rg, .int .i64 (A.nd (pI (topP P))).size, .int .i64 (A.nd (pI (topP P))).sum, .int .i64 (A.nd (pI (topP P))).mn, .int .i64 (A.nd (pI (topP P))).mx] 123 :: Arn a A :: Sid s P.dropLast :: cel b1 #[.int .u32 (pI (topP P)), .int .i64 (pN (topP P)), .int .i64 (pK (topP P)), .int .i64 (pV (topP P)), .bool (pS (topP P))] 228 :: L) w := hS
  refine WL.r 1 rfl ?_
  refine WL.nil ?_
  as_aux_lemma =>
    refine WC.seq ?_
    refine WC.seq ?_
    refine WC.region ?_
    refine WL.r 2 rfl ?_
    refine WL.nil ?_
    refine WC.ifF rfl rfl ?_
    refine WC.skip ?_
    refine WC.seq ?_
    refine WC.region ?_
    have hir : Is A tr (A.nd (pI (topP P))).rg := (by rw [hpI]; exact hi.2.2.2.2.2); have hil : Is A tl (A.nd (pI (topP P))).lf := (by rw [hpI]; exact hi.2.2.2.2.1); have hpl2 := pushP_len P.dropLast (A.nd (pI (topP P))).rg tr
    refine WL.run 4 [.int .u32 (A.nd (pI (topP P))).rg] rfl (by exact hS.ld 0 rfl rfl) ?_
    refine WL.call rfl rfl (sd_push (s := s) (a := a) (P := P.dropLast) (A := A) (R := R) (i := (A.nd (pI (topP P))).rg) (t := tr) (hA := hA) (hi := hir) (hl := (by omega)) (hS := (hS.sel 3 [2, 1, 0] rfl))) rfl ?_
    clear hS; rintro _ w ⟨rfl, hS⟩
    replace hS : St g (Sid s (pushP P.dropLast (A.nd (pI (topP P))).rg tr) :: Arn a A :: cel b2 #[.int .i64 (A.nd (pI (topP P))).key, .int .i64 (A.nd (pI (topP P))).val, .int .u32 (A.nd (pI (topP P))).lf, .int .u32 (A.nd (pI (topP P))).rg, .int .i64 (A.nd (pI (topP P))).size, .int .i64 (A.nd (pI (topP P))).sum, .int .i64 (A.nd (pI (topP P))).mn, .int .i64 (A.nd (pI (topP P))).mx] 123 :: cel b1 #[.int .u32 (pI (topP P)), .int .i64 (pN (topP P)), .int .i64 (pK (topP P)), .int .i64 (pV (topP P)), .bool (pS (topP P))] 228 :: L) w := hS
    refine WL.nil ?_
    refine WC.seq ?_
    refine WC.plan [([0, 1, 5, 7, 2, 6, 8, 3, 4], some (9, [0, 1, 2, 3, 4])), ([], some (10, [0, 1, 2, 3, 4])), ([], some (11, [0, 1, 2, 3, 4])), ([], some (12, [0])), ([13, 14], some (15, []))] (by kernel_rfl) (by kernel_rfl) ?_
    obtain ⟨⟨su, sc⟩, hS⟩ := St.exOpen (f := sidF s (pushP P.dropLast (A.nd (pI (topP P))).rg tr)) hS
    replace hS : St g (cel s #[.slice su (List.length (pts (pushP P.dropLast (A.nd (pI (topP P))).rg tr))) sc] 225 :: Own 228 5 (pts (pushP P.dropLast (A.nd (pI (topP P))).rg tr)) su sc :: Arn a A :: cel b2 #[.int .i64 (A.nd (pI (topP P))).key, .int .i64 (A.nd (pI (topP P))).val, .int .u32 (A.nd (pI (topP P))).lf, .int .u32 (A.nd (pI (topP P))).rg, .int .i64 (A.nd (pI (topP P))).size, .int .i64 (A.nd (pI (topP P))).sum, .int .i64 (A.nd (pI (topP P))).mn, .int .i64 (A.nd (pI (topP P))).mx] 123 :: cel b1 #[.int .u32 (pI (topP P)), .int .i64 (pN (topP P)), .int .i64 (pK (topP P)), .int .i64 (pV (topP P)), .bool (pS (topP P))] 228 :: L) w := hS
    have hpl3 := pts_len (pushP P.dropLast (A.nd (pI (topP P))).rg tr)
    refine WQ.run 9 [.int .i64 (A.nd (pI (topP P))).key, .int .i64 (A.nd (pI (topP P))).val, .slice su (List.length (pts (pushP P.dropLast (A.nd (pI (topP P))).rg tr))) sc] rfl (by exact ⟨hS.ld 3 rfl rfl, hS.ld 3 rfl rfl, hS.ld 0 rfl rfl⟩) ?_
    refine WQ.nil ?_
    intro m1
    replace hS := hS.drewN m1; generalize hwm1 : World.drewN _ _ = w at *; clear hwm1
    refine WL.build rfl rfl (cs := [.int .i64 (A.nd (pI (topP P))).key, .int .i64 (A.nd (pI (topP P))).val]) zv_46 rfl rfl ?_
    refine WL.nil ?_
    refine ⟨by exact ⟨RQ.pure rfl rfl rfl rfl, RQ.pure rfl rfl rfl rfl, RQ.pure rfl rfl rfl rfl, RQ.pure rfl rfl rfl rfl, RQ.load rfl rfl rfl rfl (hS.ld 0 rfl rfl)⟩, ?_⟩
    refine WQ.nil ?_
    intro m2
    replace hS := hS.drewN m2; generalize hwm2 : World.drewN _ _ = w at *; clear hwm2
    refine WL.build rfl rfl (cs := [.int .u32 0, .int .i64 0, .int .i64 (A.nd (pI (topP P))).key, .int .i64 (A.nd (pI (topP P))).val, .bool true]) zv_228 rfl rfl ?_
    refine WL.nil ?_
    refine ⟨by exact ⟨RQ.pure rfl rfl rfl rfl, RQ.pure rfl rfl rfl rfl, RQ.pure rfl rfl rfl rfl, RQ.pure rfl rfl rfl rfl, RQ.load rfl rfl rfl rfl (hS.ld 0 rfl rfl)⟩, ?_⟩
    refine WQ.nil ?_
    intro m3
    replace hS := hS.drewN m3; generalize hwm3 : World.drewN _ _ = w at *; clear hwm3
    refine WL.lit rfl rfl (pts [Pt.one (A.nd (pI (topP P))).key (A.nd (pI (topP P))).val]) el_223 hS (by exact ⟨rfl, rfl⟩) (pts_ok _) rfl (by decide) (fun b3 w hS => ?_)
    refine WL.nil ?_
    refine ⟨by exact ⟨RQ.pure rfl rfl rfl rfl, RQ.pure rfl rfl rfl rfl, RQ.pure rfl rfl rfl rfl, RQ.pure rfl rfl rfl rfl, RQ.load rfl rfl rfl rfl (hS.ld 1 rfl rfl)⟩, ?_⟩
    refine WQ.nil ?_
    intro m4
    replace hS := hS.drewN m4; generalize hwm4 : World.drewN _ _ = w at *; clear hwm4
    refine WL.app rfl rfl 2 (pts ((pushP P.dropLast (A.nd (pI (topP P))).rg tr) ++ [Pt.one (A.nd (pI (topP P))).key (A.nd (pI (topP P))).val])) el_223 hS rfl (hS.srcO 0 rfl) (pts_app _ _).symm (Rm.of (by first | omega | (simp <;> omega)) (by decide)) rfl rfl (fun a1 c1 w hS => ?_)
    replace hS : St g (Own 228 5 (pts [Pt.one (A.nd (pI (topP P))).key (A.nd (pI (topP P))).val]) (some ⟨b3, 0, none⟩) (List.length (pts [Pt.one (A.nd (pI (topP P))).key (A.nd (pI (topP P))).val])) :: cel s #[.slice su (List.length (pts (pushP P.dropLast (A.nd (pI (topP P))).rg tr))) sc] 225 :: Own 228 5 (pts ((pushP P.dropLast (A.nd (pI (topP P))).rg tr) ++ [Pt.one (A.nd (pI (topP P))).key (A.nd (pI (topP P))).val])) a1 c1 :: Arn a A :: cel b2 #[.int .i64 (A.nd (pI (topP P))).key, .int .i64 (A.nd (pI (topP P))).val, .int .u32 (A.nd (pI (topP P))).lf, .int .u32 (A.nd (pI (topP P))).rg, .int .i64 (A.nd (pI (topP P))).size, .int .i64 (A.nd (pI (topP P))).sum, .int .i64 (A.nd (pI (topP P))).mn, .int .i64 (A.nd (pI (topP P))).mx] 123 :: cel b1 #[.int .u32 (pI (topP P)), .int .i64 (pN (topP P)), .int .i64 (pK (topP P)), .int .i64 (pV (topP P)), .bool (pS (topP P))] 228 :: L) w := hS
    refine WL.nil ?_
    refine ⟨by exact RQ.pure rfl rfl rfl rfl, ?_⟩
    refine WQ.r 2 rfl ?_
    refine WQ.nil ?_
    intro m5
    replace hS := hS.drewN m5; generalize hwm5 : World.drewN _ _ = w at *; clear hwm5
    refine WL.st rfl rfl rfl 1 hS rfl rfl rfl rfl rfl rfl (fun w hS => ?_)
    replace hS : St g (Own 228 5 (pts [Pt.one (A.nd (pI (topP P))).key (A.nd (pI (topP P))).val]) (some ⟨b3, 0, none⟩) (List.length (pts [Pt.one (A.nd (pI (topP P))).key (A.nd (pI (topP P))).val])) :: cel s #[.slice a1 (List.length (pts ((pushP P.dropLast (A.nd (pI (topP P))).rg tr) ++ [Pt.one (A.nd (pI (topP P))).key (A.nd (pI (topP P))).val]))) c1] 225 :: Own 228 5 (pts ((pushP P.dropLast (A.nd (pI (topP P))).rg tr) ++ [Pt.one (A.nd (pI (topP P))).key (A.nd (pI (topP P))).val])) a1 c1 :: Arn a A :: cel b2 #[.int .i64 (A.nd (pI (topP P))).key, .int .i64 (A.nd (pI (topP P))).val, .int .u32 (A.nd (pI (topP P))).lf, .int .u32 (A.nd (pI (topP P))).rg, .int .i64 (A.nd (pI (topP P))).size, .int .i64 (A.nd (pI (topP P))).sum, .int .i64 (A.nd (pI (topP P))).mn, .int .i64 (A.nd (pI (topP P))).mx] 123 :: cel b1 #[.int .u32 (pI (topP P)), .int .i64 (pN (topP P)), .int .i64 (pK (topP P)), .int .i64 (pV (topP P)), .bool (pS (topP P))] 228 :: L) w := hS
    refine WL.nil ?_
    refine ⟨by exact trivial, ?_⟩
    intro m6
    replace hS := hS.drewN m6; generalize hwm6 : World.drewN _ _ = w at *; clear hwm6
    as_aux_lemma =>
      refine WC.region ?_
      replace hS := St.exClose (f := sidF s (pushP P.dropLast (A.nd (pI (topP P))).rg tr ++ [Pt.one (A.nd (pI (topP P))).key (A.nd (pI (topP P))).val])) (L := Own 228 5 (pts [Pt.one (A.nd (pI (topP P))).key (A.nd (pI (topP P))).val]) (some ⟨b3, 0, none⟩) (List.length (pts [Pt.one (A.nd (pI (topP P))).key (A.nd (pI (topP P))).val])) :: Arn a A :: cel b2 #[.int .i64 (A.nd (pI (topP P))).key, .int .i64 (A.nd (pI (topP P))).val, .int .u32 (A.nd (pI (topP P))).lf, .int .u32 (A.nd (pI (topP P))).rg, .int .i64 (A.nd (pI (topP P))).size, .int .i64 (A.nd (pI (topP P))).sum, .int .i64 (A.nd (pI (topP P))).mn, .int .i64 (A.nd (pI (topP P))).mx] 123 :: cel b1 #[.int .u32 (pI (topP P)), .int .i64 (pN (topP P)), .int .i64 (pK (topP P)), .int .i64 (pV (topP P)), .bool (pS (topP P))] 228 :: L) ⟨a1, c1⟩ ((hS.sel 3 [1, 1, 0] rfl))
      replace hS : St g (Sid s (pushP P.dropLast (A.nd (pI (topP P))).rg tr ++ [Pt.one (A.nd (pI (topP P))).key (A.nd (pI (topP P))).val]) :: Own 228 5 (pts [Pt.one (A.nd (pI (topP P))).key (A.nd (pI (topP P))).val]) (some ⟨b3, 0, none⟩) (List.length (pts [Pt.one (A.nd (pI (topP P))).key (A.nd (pI (topP P))).val])) :: Arn a A :: cel b2 #[.int .i64 (A.nd (pI (topP P))).key, .int .i64 (A.nd (pI (topP P))).val, .int .u32 (A.nd (pI (topP P))).lf, .int .u32 (A.nd (pI (topP P))).rg, .int .i64 (A.nd (pI (topP P))).size, .int .i64 (A.nd (pI (topP P))).sum, .int .i64 (A.nd (pI (topP P))).mn, .int .i64 (A.nd (pI (topP P))).mx] 123 :: cel b1 #[.int .u32 (pI (topP P)), .int .i64 (pN (topP P)), .int .i64 (pK (topP P)), .int .i64 (pV (topP P)), .bool (pS (topP P))] 228 :: L) w := hS
      refine WL.run 4 [.int .u32 (A.nd (pI (topP P))).lf] rfl (by exact hS.ld 3 rfl rfl) ?_
      refine WL.call rfl rfl (sd_push (s := s) (a := a) (P := pushP P.dropLast (A.nd (pI (topP P))).rg tr ++ [Pt.one (A.nd (pI (topP P))).key (A.nd (pI (topP P))).val]) (A := A) (R := R) (i := (A.nd (pI (topP P))).lf) (t := tl) (hA := hA) (hi := hil) (hl := (by simp; omega)) (hS := (hS.sel 3 [0, 1, 0] rfl))) rfl ?_
      clear hS; rintro _ w ⟨rfl, hS⟩
      replace hS : St g (Sid s (pushP (pushP P.dropLast (A.nd (pI (topP P))).rg tr ++ [Pt.one (A.nd (pI (topP P))).key (A.nd (pI (topP P))).val]) (A.nd (pI (topP P))).lf tl) :: Arn a A :: Own 228 5 (pts [Pt.one (A.nd (pI (topP P))).key (A.nd (pI (topP P))).val]) (some ⟨b3, 0, none⟩) (List.length (pts [Pt.one (A.nd (pI (topP P))).key (A.nd (pI (topP P))).val])) :: cel b2 #[.int .i64 (A.nd (pI (topP P))).key, .int .i64 (A.nd (pI (topP P))).val, .int .u32 (A.nd (pI (topP P))).lf, .int .u32 (A.nd (pI (topP P))).rg, .int .i64 (A.nd (pI (topP P))).size, .int .i64 (A.nd (pI (topP P))).sum, .int .i64 (A.nd (pI (topP P))).mn, .int .i64 (A.nd (pI (topP P))).mx] 123 :: cel b1 #[.int .u32 (pI (topP P)), .int .i64 (pN (topP P)), .int .i64 (pK (topP P)), .int .i64 (pV (topP P)), .bool (pS (topP P))] 228 :: L) w := hS
      refine WL.nil ?_
      refine ⟨[], trivial, ?_⟩
      replace hS := (hS.sel 5 [0, 0] rfl)
      exact ⟨rfl, by unfold expP; rw [hpI, hi.2.2.1, hi.2.2.2.1] at hS; exact hS⟩
end Go.Proofs.Ytlnlnebibgdjdaa
