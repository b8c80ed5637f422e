/-
  The row of HistoryOrigins: for every input the law returns true, and the arguments read as before.
  Conditions: none.
-/
import Derived.Test.YtlnlnebibgdjdaaGreatJhorq
import Derived.Test.YtlnlnebibgdjdaaGreatZorD
/-! ## D3 -/
namespace Go.Proofs.YtlnlnebibgdjdaaGreat
open Go Go.V
theorem dmp_nd {A : AM} (h : AWf A) {k : Nat} (hk : (k : Int) < A.s.cap) : ∃ nd, A.nodes[k + 1]? = some nd ∧ (A.dmpAt ((k : Int) + 1)).nd = nd := by
  have hn := h.nl
  have hc : A.s.cap = (A.s.used.length : Int) - 1 := rfl
  have h1 : A.nodes[k + 1]? = some (A.nodes[k + 1]'(by omega)) := List.getElem?_eq_getElem (by omega)
  refine ⟨_, h1, ?_⟩
  show (A.nodes[((k : Int) + 1).toNat]?).getD Nd.zero = _
  rw [show ((k : Int) + 1).toNat = k + 1 by omega, h1]; rfl
theorem dmp_zero (A : AM) : List.replicate A.s.cap.toNat [.bool false, .int .i64 0, .int .u32 0, .int .i64 0, .int .i64 0, .int .u32 0, .int .u32 0, .int .i64 0, .int .i64 0, .int .i64 0, .int .i64 0] = sls (A.dmpK 0) := A.dmpK_0.symm
theorem dmp_st {A : AM} {k : Nat} {nd : Nd} (h : (A.dmpAt ((k : Int) + 1)).nd = nd) : (sls (A.dmpK k)).set k [.bool (A.s.ok ((k : Int) + 1)), .int .i64 (A.cntD ((k : Int) + 1)), .int .u32 (A.s.genOf ((k : Int) + 1)), .int .i64 nd.key, .int .i64 nd.val, .int .u32 nd.lf, .int .u32 nd.rg, .int .i64 nd.size, .int .i64 nd.sum, .int .i64 nd.mn, .int .i64 nd.mx] = sls (A.dmpK (k + 1)) := by
  subst h
  exact (sls_set (A.dmpK k) k (A.dmpAt ((k : Int) + 1))).trans (congrArg sls A.dmpK_set)
set_option maxHeartbeats 2000000 in
set_option maxRecDepth 8192 in
theorem ar_dump {g w : World} {L : List HP} (a : Nat) (A : AM) (hA : AWf A) (hS : St g (Arn a A :: L) w) :
    Sp Tryz.prog 20 [.pointer (some ⟨a, 0, none⟩)] w (fun v w' => ∃ (a2 : Option Addr) (c2 : Nat) (a4 : Option Addr) (c4 : Nat), v = .agg #[.slice a2 (List.length (sls (AM.dmp A))) c2, .slice a4 (List.length (u32s (SM.order A.s))) c4] ∧ St g (Own 167 11 (sls (AM.dmp A)) a2 c2 :: Own 64 1 (u32s (SM.order A.s)) a4 c4 :: Arn a A :: L) w') := by
  refine Sp.enter Tryz.func20 rfl (by kernel_rfl) (by kernel_rfl) ?_
  refine WC.seq ?_
  refine WC.region ?_
  obtain ⟨⟨xp, xna, xnc, xca, xcc, xrd⟩, hS⟩ := St.exOpen (f := arnF a A) hS
  replace hS : St g (cel a #[.pointer (some ⟨xp, 0, none⟩), .slice xna (List.length (nds A.nodes)) xnc, .slice xca (List.length (i64s A.cnt)) xcc, .int .u64 xrd] 153 :: Slt xp A.s :: Own 165 8 (nds A.nodes) xna xnc :: Own 3 1 (i64s A.cnt) xca xcc :: L) w := hS
  have hs := hA.s; have hle := hA.s.le; have hcp : A.s.cap = (A.s.used.length : Int) - 1 := rfl; have hce := hA.s.cap
  refine WL.new rfl rfl zv_62 hS (fun b1 w hS => ?_)
  refine WL.nil ?_
  refine WC.seq ?_
  refine WC.cut [0, 2, 3] (fun vs w => ∃ (b : Nat) (ua : Option Addr) (ub : Option Addr) (ud : Nat), vs = [.pointer (some ⟨a, 0, none⟩), .pointer (some ⟨b1, 0, none⟩), .pointer (some ⟨b, 0, none⟩)] ∧ St g (cel b #[.slice ua A.s.cap.toNat A.s.cap.toNat, .slice ub (List.length (u32s (SM.order A.s))) ud] 62 :: Own 167 11 (List.replicate A.s.cap.toNat [.bool false, .int .i64 0, .int .u32 0, .int .i64 0, .int .i64 0, .int .u32 0, .int .u32 0, .int .i64 0, .int .i64 0, .int .i64 0, .int .i64 0]) ua A.s.cap.toNat :: Own 64 1 (u32s (SM.order A.s)) ub ud :: cel b1 #[.slice none 0 0, .slice none 0 0] 62 :: cel a #[.pointer (some ⟨xp, 0, none⟩), .slice xna (List.length (nds A.nodes)) xnc, .slice xca (List.length (i64s A.cnt)) xcc, .int .u64 xrd] 153 :: Slt xp A.s :: Own 165 8 (nds A.nodes) xna xnc :: Own 3 1 (i64s A.cnt) xca xcc :: L) w) ?_ ?_
  · refine WC.tree (.two [0, 3, 4, 5, 6] 1 [3, 4, 5, 6] (.three [] 2 [3, 4, 5, 6] (.two [] 7 [] (.one [8] 9 [0, 3, 4, 5, 6, 8] (.one [] 10 [] .nil)) 9 [0, 3, 4, 5, 6] (.one [] 7 [] (.one [8] 10 [] .nil))) 7 [] (.two [] 2 [3, 4, 5, 6] (.one [8] 9 [0, 3, 4, 5, 6, 8] (.one [] 10 [] .nil)) 9 [0, 3, 4, 5, 6] (.one [] 2 [3, 4, 5, 6] (.one [8] 10 [] .nil))) 9 [0, 3, 4, 5, 6] (.two [] 2 [3, 4, 5, 6] (.one [] 7 [] (.one [8] 10 [] .nil)) 7 [] (.one [] 2 [3, 4, 5, 6] (.one [8] 10 [] .nil)))) 9 [0, 3, 4, 5, 6] (.one [] 1 [3, 4, 5, 6] (.two [] 2 [3, 4, 5, 6] (.one [] 7 [] (.one [8] 10 [] .nil)) 7 [] (.one [] 2 [3, 4, 5, 6] (.one [8] 10 [] .nil))))) (by kernel_rfl) (by kernel_rfl) ?_
    refine WQ.run 5 [.pointer (some ⟨xp, 0, none⟩)] rfl (by exact hS.ld 1 rfl rfl) ?_
    refine WQ.nil ?_
    intro m1
    replace hS := hS.drewN m1; generalize hwm1 : World.drewN _ _ = w at *; clear hwm1
    refine ⟨?_, ?_⟩
    · refine WL.call rfl rfl (ar_cap_o (a := a) (p := xp) (A := A) (na := xna) (nc := xnc) (ca := xca) (cc := xcc) (rd := xrd) (hA := hA) (hS := (hS.sel 5 [1, 1, 1, 1, 0] rfl))) rfl ?_
      clear hS; rintro _ w ⟨rfl, hS⟩
      replace hS : St g (cel a #[.pointer (some ⟨xp, 0, none⟩), .slice xna (List.length (nds A.nodes)) xnc, .slice xca (List.length (i64s A.cnt)) xcc, .int .u64 xrd] 153 :: Slt xp A.s :: Own 165 8 (nds A.nodes) xna xnc :: Own 3 1 (i64s A.cnt) xca xcc :: cel b1 #[.slice none 0 0, .slice none 0 0] 62 :: L) w := hS
      refine WL.nil ?_
      refine ⟨by exact ⟨RQ.pure rfl rfl rfl rfl, RQ.pure rfl rfl rfl rfl, RQ.pure rfl rfl rfl rfl, RQ.load rfl rfl rfl rfl (hS.ld 0 rfl rfl)⟩, ?_⟩
      refine WQ.nil ?_
      intro m2
      replace hS := hS.drewN m2; generalize hwm2 : World.drewN _ _ = w at *; clear hwm2
      refine ⟨?_, ?_, ?_⟩
      · refine WL.make rfl rfl (v := A.s.cap) (v' := A.s.cap) (A.s.cap.toNat) (A.s.cap.toNat) el_60 hS rfl (by omega) rfl (by omega) (by omega) (Rm.of (by omega) (by decide)) (fun b2 w hS => ?_)
        replace hS : St g (Own 167 11 (List.replicate A.s.cap.toNat [.bool false, .int .i64 0, .int .u32 0, .int .i64 0, .int .i64 0, .int .u32 0, .int .u32 0, .int .i64 0, .int .i64 0, .int .i64 0, .int .i64 0]) (some ⟨b2, 0, none⟩) A.s.cap.toNat :: cel a #[.pointer (some ⟨xp, 0, none⟩), .slice xna (List.length (nds A.nodes)) xnc, .slice xca (List.length (i64s A.cnt)) xcc, .int .u64 xrd] 153 :: Slt xp A.s :: Own 165 8 (nds A.nodes) xna xnc :: Own 3 1 (i64s A.cnt) xca xcc :: cel b1 #[.slice none 0 0, .slice none 0 0] 62 :: L) w := hS
        refine WL.nil ?_
        refine ⟨by exact ⟨RQ.pure rfl rfl rfl rfl, RQ.pure rfl rfl rfl rfl, RQ.pure rfl rfl rfl rfl, RQ.load rfl rfl rfl rfl (hS.ld 1 rfl rfl)⟩, ?_⟩
        refine WQ.nil ?_
        intro m3
        replace hS := hS.drewN m3; generalize hwm3 : World.drewN _ _ = w at *; clear hwm3
        refine ⟨?_, ?_⟩
        · refine WL.call rfl rfl (sl_order (s := xp) (S := A.s) (hO := hs) (hS := (hS.sel 3 [2, 0, 0] rfl))) rfl ?_
          clear hS; rintro _ w ⟨a1, c1, rfl, hS⟩
          replace hS : St g (Own 64 1 (u32s (SM.order A.s)) a1 c1 :: Slt xp A.s :: Own 167 11 (List.replicate A.s.cap.toNat [.bool false, .int .i64 0, .int .u32 0, .int .i64 0, .int .i64 0, .int .u32 0, .int .u32 0, .int .i64 0, .int .i64 0, .int .i64 0, .int .i64 0]) (some ⟨b2, 0, none⟩) A.s.cap.toNat :: cel a #[.pointer (some ⟨xp, 0, none⟩), .slice xna (List.length (nds A.nodes)) xnc, .slice xca (List.length (i64s A.cnt)) xcc, .int .u64 xrd] 153 :: Own 165 8 (nds A.nodes) xna xnc :: Own 3 1 (i64s A.cnt) xca xcc :: cel b1 #[.slice none 0 0, .slice none 0 0] 62 :: L) w := hS
          refine WL.nil ?_
          refine ⟨by exact trivial, ?_⟩
          refine WQ.build rfl rfl (cs := [.slice (some ⟨b2, 0, none⟩) A.s.cap.toNat A.s.cap.toNat, .slice a1 (List.length (u32s (SM.order A.s))) c1]) zv_62 rfl rfl ?_
          refine WQ.nil ?_
          intro m4
          replace hS := hS.drewN m4; generalize hwm4 : World.drewN _ _ = w at *; clear hwm4
          refine WL.new rfl rfl zv_62 hS (fun b3 w hS => ?_)
          refine WL.nil ?_
          refine ⟨by exact ⟨RQ.pure rfl rfl rfl rfl, RQ.pure rfl rfl rfl rfl, RQ.pure rfl rfl rfl rfl, RQ.pure rfl rfl rfl rfl, RQ.load rfl rfl rfl rfl (hS.ld 4 rfl rfl), RQ.build rfl rfl (cs := [.slice (some ⟨b2, 0, none⟩) A.s.cap.toNat A.s.cap.toNat, .slice a1 (List.length (u32s (SM.order A.s))) c1]) zv_62 rfl rfl rfl rfl⟩, ?_⟩
          refine WQ.nil ?_
          intro m5
          replace hS := hS.drewN m5; generalize hwm5 : World.drewN _ _ = w at *; clear hwm5
          refine WL.stF rfl rfl rfl 0 hS rfl rfl rfl rfl rfl ag_62 (fun w hS => ?_)
          replace hS : St g (cel b3 #[.slice (some ⟨b2, 0, none⟩) A.s.cap.toNat A.s.cap.toNat, .slice a1 (List.length (u32s (SM.order A.s))) c1] 62 :: Own 64 1 (u32s (SM.order A.s)) a1 c1 :: Slt xp A.s :: Own 167 11 (List.replicate A.s.cap.toNat [.bool false, .int .i64 0, .int .u32 0, .int .i64 0, .int .i64 0, .int .u32 0, .int .u32 0, .int .i64 0, .int .i64 0, .int .i64 0, .int .i64 0]) (some ⟨b2, 0, none⟩) A.s.cap.toNat :: cel a #[.pointer (some ⟨xp, 0, none⟩), .slice xna (List.length (nds A.nodes)) xnc, .slice xca (List.length (i64s A.cnt)) xcc, .int .u64 xrd] 153 :: Own 165 8 (nds A.nodes) xna xnc :: Own 3 1 (i64s A.cnt) xca xcc :: cel b1 #[.slice none 0 0, .slice none 0 0] 62 :: L) w := hS
          refine WL.nil ?_
          refine ⟨by exact trivial, ?_⟩
          intro m6
          replace hS := hS.drewN m6; generalize hwm6 : World.drewN _ _ = w at *; clear hwm6
          exact ⟨b3, (some ⟨b2, 0, none⟩), a1, c1, rfl, (hS.sel 8 [0, 2, 0, 4, 1, 0, 0, 0] rfl)⟩
        · refine WL.new rfl rfl zv_62 hS (fun b3 w hS => ?_)
          refine WL.nil ?_
          refine ⟨by exact ⟨RQ.pure rfl rfl rfl rfl, RQ.pure rfl rfl rfl rfl, RQ.pure rfl rfl rfl rfl, RQ.pure rfl rfl rfl rfl, RQ.load rfl rfl rfl rfl (hS.ld 2 rfl rfl)⟩, ?_⟩
          refine WQ.nil ?_
          intro m4
          replace hS := hS.drewN m4; generalize hwm4 : World.drewN _ _ = w at *; clear hwm4
          refine WL.call rfl rfl (sl_order (s := xp) (S := A.s) (hO := hs) (hS := (hS.sel 4 [3, 0, 0, 0] rfl))) rfl ?_
          clear hS; rintro _ w ⟨a1, c1, rfl, hS⟩
          replace hS : St g (Own 64 1 (u32s (SM.order A.s)) a1 c1 :: Slt xp A.s :: cel b3 #[.slice none 0 0, .slice none 0 0] 62 :: Own 167 11 (List.replicate A.s.cap.toNat [.bool false, .int .i64 0, .int .u32 0, .int .i64 0, .int .i64 0, .int .u32 0, .int .u32 0, .int .i64 0, .int .i64 0, .int .i64 0, .int .i64 0]) (some ⟨b2, 0, none⟩) A.s.cap.toNat :: cel a #[.pointer (some ⟨xp, 0, none⟩), .slice xna (List.length (nds A.nodes)) xnc, .slice xca (List.length (i64s A.cnt)) xcc, .int .u64 xrd] 153 :: Own 165 8 (nds A.nodes) xna xnc :: Own 3 1 (i64s A.cnt) xca xcc :: cel b1 #[.slice none 0 0, .slice none 0 0] 62 :: L) w := hS
          refine WL.nil ?_
          refine ⟨by exact trivial, ?_⟩
          refine WQ.build rfl rfl (cs := [.slice (some ⟨b2, 0, none⟩) A.s.cap.toNat A.s.cap.toNat, .slice a1 (List.length (u32s (SM.order A.s))) c1]) zv_62 rfl rfl ?_
          refine WQ.nil ?_
          intro m5
          replace hS := hS.drewN m5; generalize hwm5 : World.drewN _ _ = w at *; clear hwm5
          refine WL.stF rfl rfl rfl 2 hS rfl rfl rfl rfl rfl ag_62 (fun w hS => ?_)
          replace hS : St g (Own 64 1 (u32s (SM.order A.s)) a1 c1 :: Slt xp A.s :: cel b3 #[.slice (some ⟨b2, 0, none⟩) A.s.cap.toNat A.s.cap.toNat, .slice a1 (List.length (u32s (SM.order A.s))) c1] 62 :: Own 167 11 (List.replicate A.s.cap.toNat [.bool false, .int .i64 0, .int .u32 0, .int .i64 0, .int .i64 0, .int .u32 0, .int .u32 0, .int .i64 0, .int .i64 0, .int .i64 0, .int .i64 0]) (some ⟨b2, 0, none⟩) A.s.cap.toNat :: cel a #[.pointer (some ⟨xp, 0, none⟩), .slice xna (List.length (nds A.nodes)) xnc, .slice xca (List.length (i64s A.cnt)) xcc, .int .u64 xrd] 153 :: Own 165 8 (nds A.nodes) xna xnc :: Own 3 1 (i64s A.cnt) xca xcc :: cel b1 #[.slice none 0 0, .slice none 0 0] 62 :: L) w := hS
          refine WL.nil ?_
          refine ⟨by exact trivial, ?_⟩
          intro m6
          replace hS := hS.drewN m6; generalize hwm6 : World.drewN _ _ = w at *; clear hwm6
          exact ⟨b3, (some ⟨b2, 0, none⟩), a1, c1, rfl, (hS.sel 8 [2, 2, 0, 4, 1, 0, 0, 0] rfl)⟩
      · refine WL.call rfl rfl (sl_order (s := xp) (S := A.s) (hO := hs) (hS := (hS.sel 2 [1, 0] rfl))) rfl ?_
        clear hS; rintro _ w ⟨a1, c1, rfl, hS⟩
        replace hS : St g (Own 64 1 (u32s (SM.order A.s)) a1 c1 :: Slt xp A.s :: cel a #[.pointer (some ⟨xp, 0, none⟩), .slice xna (List.length (nds A.nodes)) xnc, .slice xca (List.length (i64s A.cnt)) xcc, .int .u64 xrd] 153 :: Own 165 8 (nds A.nodes) xna xnc :: Own 3 1 (i64s A.cnt) xca xcc :: cel b1 #[.slice none 0 0, .slice none 0 0] 62 :: L) w := hS
        refine WL.nil ?_
        refine ⟨by exact trivial, ?_⟩
        refine WQ.nil ?_
        intro m3
        replace hS := hS.drewN m3; generalize hwm3 : World.drewN _ _ = w at *; clear hwm3
        refine ⟨?_, ?_⟩
        · refine WL.make rfl rfl (v := A.s.cap) (v' := A.s.cap) (A.s.cap.toNat) (A.s.cap.toNat) el_60 hS rfl (by omega) rfl (by omega) (by omega) (Rm.of (by omega) (by decide)) (fun b2 w hS => ?_)
          replace hS : St g (Own 167 11 (List.replicate A.s.cap.toNat [.bool false, .int .i64 0, .int .u32 0, .int .i64 0, .int .i64 0, .int .u32 0, .int .u32 0, .int .i64 0, .int .i64 0, .int .i64 0, .int .i64 0]) (some ⟨b2, 0, none⟩) A.s.cap.toNat :: Own 64 1 (u32s (SM.order A.s)) a1 c1 :: Slt xp A.s :: cel a #[.pointer (some ⟨xp, 0, none⟩), .slice xna (List.length (nds A.nodes)) xnc, .slice xca (List.length (i64s A.cnt)) xcc, .int .u64 xrd] 153 :: Own 165 8 (nds A.nodes) xna xnc :: Own 3 1 (i64s A.cnt) xca xcc :: cel b1 #[.slice none 0 0, .slice none 0 0] 62 :: L) w := hS
          refine WL.nil ?_
          refine ⟨by exact ⟨RQ.pure rfl rfl rfl rfl, RQ.pure rfl rfl rfl rfl, RQ.pure rfl rfl rfl rfl, RQ.load rfl rfl rfl rfl (hS.ld 3 rfl rfl)⟩, ?_⟩
          refine WQ.build rfl rfl (cs := [.slice (some ⟨b2, 0, none⟩) A.s.cap.toNat A.s.cap.toNat, .slice a1 (List.length (u32s (SM.order A.s))) c1]) zv_62 rfl rfl ?_
          refine WQ.nil ?_
          intro m4
          replace hS := hS.drewN m4; generalize hwm4 : World.drewN _ _ = w at *; clear hwm4
          refine WL.new rfl rfl zv_62 hS (fun b3 w hS => ?_)
          refine WL.nil ?_
          refine ⟨by exact ⟨RQ.pure rfl rfl rfl rfl, RQ.pure rfl rfl rfl rfl, RQ.pure rfl rfl rfl rfl, RQ.pure rfl rfl rfl rfl, RQ.load rfl rfl rfl rfl (hS.ld 4 rfl rfl), RQ.build rfl rfl (cs := [.slice (some ⟨b2, 0, none⟩) A.s.cap.toNat A.s.cap.toNat, .slice a1 (List.length (u32s (SM.order A.s))) c1]) zv_62 rfl rfl rfl rfl⟩, ?_⟩
          refine WQ.nil ?_
          intro m5
          replace hS := hS.drewN m5; generalize hwm5 : World.drewN _ _ = w at *; clear hwm5
          refine WL.stF rfl rfl rfl 0 hS rfl rfl rfl rfl rfl ag_62 (fun w hS => ?_)
          replace hS : St g (cel b3 #[.slice (some ⟨b2, 0, none⟩) A.s.cap.toNat A.s.cap.toNat, .slice a1 (List.length (u32s (SM.order A.s))) c1] 62 :: Own 167 11 (List.replicate A.s.cap.toNat [.bool false, .int .i64 0, .int .u32 0, .int .i64 0, .int .i64 0, .int .u32 0, .int .u32 0, .int .i64 0, .int .i64 0, .int .i64 0, .int .i64 0]) (some ⟨b2, 0, none⟩) A.s.cap.toNat :: Own 64 1 (u32s (SM.order A.s)) a1 c1 :: Slt xp A.s :: cel a #[.pointer (some ⟨xp, 0, none⟩), .slice xna (List.length (nds A.nodes)) xnc, .slice xca (List.length (i64s A.cnt)) xcc, .int .u64 xrd] 153 :: Own 165 8 (nds A.nodes) xna xnc :: Own 3 1 (i64s A.cnt) xca xcc :: cel b1 #[.slice none 0 0, .slice none 0 0] 62 :: L) w := hS
          refine WL.nil ?_
          refine ⟨by exact trivial, ?_⟩
          intro m6
          replace hS := hS.drewN m6; generalize hwm6 : World.drewN _ _ = w at *; clear hwm6
          exact ⟨b3, (some ⟨b2, 0, none⟩), a1, c1, rfl, (hS.sel 8 [0, 0, 0, 4, 1, 0, 0, 0] rfl)⟩
        · refine WL.new rfl rfl zv_62 hS (fun b2 w hS => ?_)
          refine WL.nil ?_
          refine ⟨by exact ⟨RQ.pure rfl rfl rfl rfl, RQ.pure rfl rfl rfl rfl, RQ.pure rfl rfl rfl rfl, RQ.pure rfl rfl rfl rfl, RQ.load rfl rfl rfl rfl (hS.ld 3 rfl rfl)⟩, ?_⟩
          refine WQ.nil ?_
          intro m4
          replace hS := hS.drewN m4; generalize hwm4 : World.drewN _ _ = w at *; clear hwm4
          refine WL.make rfl rfl (v := A.s.cap) (v' := A.s.cap) (A.s.cap.toNat) (A.s.cap.toNat) el_60 hS rfl (by omega) rfl (by omega) (by omega) (Rm.of (by omega) (by decide)) (fun b3 w hS => ?_)
          replace hS : St g (Own 167 11 (List.replicate A.s.cap.toNat [.bool false, .int .i64 0, .int .u32 0, .int .i64 0, .int .i64 0, .int .u32 0, .int .u32 0, .int .i64 0, .int .i64 0, .int .i64 0, .int .i64 0]) (some ⟨b3, 0, none⟩) A.s.cap.toNat :: cel b2 #[.slice none 0 0, .slice none 0 0] 62 :: Own 64 1 (u32s (SM.order A.s)) a1 c1 :: Slt xp A.s :: cel a #[.pointer (some ⟨xp, 0, none⟩), .slice xna (List.length (nds A.nodes)) xnc, .slice xca (List.length (i64s A.cnt)) xcc, .int .u64 xrd] 153 :: Own 165 8 (nds A.nodes) xna xnc :: Own 3 1 (i64s A.cnt) xca xcc :: cel b1 #[.slice none 0 0, .slice none 0 0] 62 :: L) w := hS
          refine WL.nil ?_
          refine ⟨by exact ⟨RQ.pure rfl rfl rfl rfl, RQ.pure rfl rfl rfl rfl, RQ.pure rfl rfl rfl rfl, RQ.load rfl rfl rfl rfl (hS.ld 4 rfl rfl)⟩, ?_⟩
          refine WQ.build rfl rfl (cs := [.slice (some ⟨b3, 0, none⟩) A.s.cap.toNat A.s.cap.toNat, .slice a1 (List.length (u32s (SM.order A.s))) c1]) zv_62 rfl rfl ?_
          refine WQ.nil ?_
          intro m5
          replace hS := hS.drewN m5; generalize hwm5 : World.drewN _ _ = w at *; clear hwm5
          refine WL.stF rfl rfl rfl 1 hS rfl rfl rfl rfl rfl ag_62 (fun w hS => ?_)
          replace hS : St g (Own 167 11 (List.replicate A.s.cap.toNat [.bool false, .int .i64 0, .int .u32 0, .int .i64 0, .int .i64 0, .int .u32 0, .int .u32 0, .int .i64 0, .int .i64 0, .int .i64 0, .int .i64 0]) (some ⟨b3, 0, none⟩) A.s.cap.toNat :: cel b2 #[.slice (some ⟨b3, 0, none⟩) A.s.cap.toNat A.s.cap.toNat, .slice a1 (List.length (u32s (SM.order A.s))) c1] 62 :: Own 64 1 (u32s (SM.order A.s)) a1 c1 :: Slt xp A.s :: cel a #[.pointer (some ⟨xp, 0, none⟩), .slice xna (List.length (nds A.nodes)) xnc, .slice xca (List.length (i64s A.cnt)) xcc, .int .u64 xrd] 153 :: Own 165 8 (nds A.nodes) xna xnc :: Own 3 1 (i64s A.cnt) xca xcc :: cel b1 #[.slice none 0 0, .slice none 0 0] 62 :: L) w := hS
          refine WL.nil ?_
          refine ⟨by exact trivial, ?_⟩
          intro m6
          replace hS := hS.drewN m6; generalize hwm6 : World.drewN _ _ = w at *; clear hwm6
          exact ⟨b2, (some ⟨b3, 0, none⟩), a1, c1, rfl, (hS.sel 8 [1, 0, 0, 4, 1, 0, 0, 0] rfl)⟩
      · refine WL.new rfl rfl zv_62 hS (fun b2 w hS => ?_)
        refine WL.nil ?_
        refine ⟨by exact ⟨RQ.pure rfl rfl rfl rfl, RQ.pure rfl rfl rfl rfl, RQ.pure rfl rfl rfl rfl, RQ.pure rfl rfl rfl rfl, RQ.load rfl rfl rfl rfl (hS.ld 1 rfl rfl)⟩, ?_⟩
        refine WQ.nil ?_
        intro m3
        replace hS := hS.drewN m3; generalize hwm3 : World.drewN _ _ = w at *; clear hwm3
        refine ⟨?_, ?_⟩
        · refine WL.make rfl rfl (v := A.s.cap) (v' := A.s.cap) (A.s.cap.toNat) (A.s.cap.toNat) el_60 hS rfl (by omega) rfl (by omega) (by omega) (Rm.of (by omega) (by decide)) (fun b3 w hS => ?_)
          replace hS : St g (Own 167 11 (List.replicate A.s.cap.toNat [.bool false, .int .i64 0, .int .u32 0, .int .i64 0, .int .i64 0, .int .u32 0, .int .u32 0, .int .i64 0, .int .i64 0, .int .i64 0, .int .i64 0]) (some ⟨b3, 0, none⟩) A.s.cap.toNat :: cel b2 #[.slice none 0 0, .slice none 0 0] 62 :: cel a #[.pointer (some ⟨xp, 0, none⟩), .slice xna (List.length (nds A.nodes)) xnc, .slice xca (List.length (i64s A.cnt)) xcc, .int .u64 xrd] 153 :: Slt xp A.s :: Own 165 8 (nds A.nodes) xna xnc :: Own 3 1 (i64s A.cnt) xca xcc :: cel b1 #[.slice none 0 0, .slice none 0 0] 62 :: L) w := hS
          refine WL.nil ?_
          refine ⟨by exact ⟨RQ.pure rfl rfl rfl rfl, RQ.pure rfl rfl rfl rfl, RQ.pure rfl rfl rfl rfl, RQ.load rfl rfl rfl rfl (hS.ld 2 rfl rfl)⟩, ?_⟩
          refine WQ.nil ?_
          intro m4
          replace hS := hS.drewN m4; generalize hwm4 : World.drewN _ _ = w at *; clear hwm4
          refine WL.call rfl rfl (sl_order (s := xp) (S := A.s) (hO := hs) (hS := (hS.sel 4 [3, 0, 0, 0] rfl))) rfl ?_
          clear hS; rintro _ w ⟨a1, c1, rfl, hS⟩
          replace hS : St g (Own 64 1 (u32s (SM.order A.s)) a1 c1 :: Slt xp A.s :: Own 167 11 (List.replicate A.s.cap.toNat [.bool false, .int .i64 0, .int .u32 0, .int .i64 0, .int .i64 0, .int .u32 0, .int .u32 0, .int .i64 0, .int .i64 0, .int .i64 0, .int .i64 0]) (some ⟨b3, 0, none⟩) A.s.cap.toNat :: cel b2 #[.slice none 0 0, .slice none 0 0] 62 :: cel a #[.pointer (some ⟨xp, 0, none⟩), .slice xna (List.length (nds A.nodes)) xnc, .slice xca (List.length (i64s A.cnt)) xcc, .int .u64 xrd] 153 :: Own 165 8 (nds A.nodes) xna xnc :: Own 3 1 (i64s A.cnt) xca xcc :: cel b1 #[.slice none 0 0, .slice none 0 0] 62 :: L) w := hS
          refine WL.nil ?_
          refine ⟨by exact trivial, ?_⟩
          refine WQ.build rfl rfl (cs := [.slice (some ⟨b3, 0, none⟩) A.s.cap.toNat A.s.cap.toNat, .slice a1 (List.length (u32s (SM.order A.s))) c1]) zv_62 rfl rfl ?_
          refine WQ.nil ?_
          intro m5
          replace hS := hS.drewN m5; generalize hwm5 : World.drewN _ _ = w at *; clear hwm5
          refine WL.stF rfl rfl rfl 3 hS rfl rfl rfl rfl rfl ag_62 (fun w hS => ?_)
          replace hS : St g (Own 64 1 (u32s (SM.order A.s)) a1 c1 :: Slt xp A.s :: Own 167 11 (List.replicate A.s.cap.toNat [.bool false, .int .i64 0, .int .u32 0, .int .i64 0, .int .i64 0, .int .u32 0, .int .u32 0, .int .i64 0, .int .i64 0, .int .i64 0, .int .i64 0]) (some ⟨b3, 0, none⟩) A.s.cap.toNat :: cel b2 #[.slice (some ⟨b3, 0, none⟩) A.s.cap.toNat A.s.cap.toNat, .slice a1 (List.length (u32s (SM.order A.s))) c1] 62 :: cel a #[.pointer (some ⟨xp, 0, none⟩), .slice xna (List.length (nds A.nodes)) xnc, .slice xca (List.length (i64s A.cnt)) xcc, .int .u64 xrd] 153 :: Own 165 8 (nds A.nodes) xna xnc :: Own 3 1 (i64s A.cnt) xca xcc :: cel b1 #[.slice none 0 0, .slice none 0 0] 62 :: L) w := hS
          refine WL.nil ?_
          refine ⟨by exact trivial, ?_⟩
          intro m6
          replace hS := hS.drewN m6; generalize hwm6 : World.drewN _ _ = w at *; clear hwm6
          exact ⟨b2, (some ⟨b3, 0, none⟩), a1, c1, rfl, (hS.sel 8 [3, 2, 0, 4, 1, 0, 0, 0] rfl)⟩
        · refine WL.call rfl rfl (sl_order (s := xp) (S := A.s) (hO := hs) (hS := (hS.sel 3 [2, 0, 0] rfl))) rfl ?_
          clear hS; rintro _ w ⟨a1, c1, rfl, hS⟩
          replace hS : St g (Own 64 1 (u32s (SM.order A.s)) a1 c1 :: Slt xp A.s :: cel b2 #[.slice none 0 0, .slice none 0 0] 62 :: cel a #[.pointer (some ⟨xp, 0, none⟩), .slice xna (List.length (nds A.nodes)) xnc, .slice xca (List.length (i64s A.cnt)) xcc, .int .u64 xrd] 153 :: Own 165 8 (nds A.nodes) xna xnc :: Own 3 1 (i64s A.cnt) xca xcc :: cel b1 #[.slice none 0 0, .slice none 0 0] 62 :: L) w := hS
          refine WL.nil ?_
          refine ⟨by exact trivial, ?_⟩
          refine WQ.nil ?_
          intro m4
          replace hS := hS.drewN m4; generalize hwm4 : World.drewN _ _ = w at *; clear hwm4
          refine WL.make rfl rfl (v := A.s.cap) (v' := A.s.cap) (A.s.cap.toNat) (A.s.cap.toNat) el_60 hS rfl (by omega) rfl (by omega) (by omega) (Rm.of (by omega) (by decide)) (fun b3 w hS => ?_)
          replace hS : St g (Own 167 11 (List.replicate A.s.cap.toNat [.bool false, .int .i64 0, .int .u32 0, .int .i64 0, .int .i64 0, .int .u32 0, .int .u32 0, .int .i64 0, .int .i64 0, .int .i64 0, .int .i64 0]) (some ⟨b3, 0, none⟩) A.s.cap.toNat :: Own 64 1 (u32s (SM.order A.s)) a1 c1 :: Slt xp A.s :: cel b2 #[.slice none 0 0, .slice none 0 0] 62 :: cel a #[.pointer (some ⟨xp, 0, none⟩), .slice xna (List.length (nds A.nodes)) xnc, .slice xca (List.length (i64s A.cnt)) xcc, .int .u64 xrd] 153 :: Own 165 8 (nds A.nodes) xna xnc :: Own 3 1 (i64s A.cnt) xca xcc :: cel b1 #[.slice none 0 0, .slice none 0 0] 62 :: L) w := hS
          refine WL.nil ?_
          refine ⟨by exact ⟨RQ.pure rfl rfl rfl rfl, RQ.pure rfl rfl rfl rfl, RQ.pure rfl rfl rfl rfl, RQ.load rfl rfl rfl rfl (hS.ld 4 rfl rfl)⟩, ?_⟩
          refine WQ.build rfl rfl (cs := [.slice (some ⟨b3, 0, none⟩) A.s.cap.toNat A.s.cap.toNat, .slice a1 (List.length (u32s (SM.order A.s))) c1]) zv_62 rfl rfl ?_
          refine WQ.nil ?_
          intro m5
          replace hS := hS.drewN m5; generalize hwm5 : World.drewN _ _ = w at *; clear hwm5
          refine WL.stF rfl rfl rfl 3 hS rfl rfl rfl rfl rfl ag_62 (fun w hS => ?_)
          replace hS : St g (Own 167 11 (List.replicate A.s.cap.toNat [.bool false, .int .i64 0, .int .u32 0, .int .i64 0, .int .i64 0, .int .u32 0, .int .u32 0, .int .i64 0, .int .i64 0, .int .i64 0, .int .i64 0]) (some ⟨b3, 0, none⟩) A.s.cap.toNat :: Own 64 1 (u32s (SM.order A.s)) a1 c1 :: Slt xp A.s :: cel b2 #[.slice (some ⟨b3, 0, none⟩) A.s.cap.toNat A.s.cap.toNat, .slice a1 (List.length (u32s (SM.order A.s))) c1] 62 :: cel a #[.pointer (some ⟨xp, 0, none⟩), .slice xna (List.length (nds A.nodes)) xnc, .slice xca (List.length (i64s A.cnt)) xcc, .int .u64 xrd] 153 :: Own 165 8 (nds A.nodes) xna xnc :: Own 3 1 (i64s A.cnt) xca xcc :: cel b1 #[.slice none 0 0, .slice none 0 0] 62 :: L) w := hS
          refine WL.nil ?_
          refine ⟨by exact trivial, ?_⟩
          intro m6
          replace hS := hS.drewN m6; generalize hwm6 : World.drewN _ _ = w at *; clear hwm6
          exact ⟨b2, (some ⟨b3, 0, none⟩), a1, c1, rfl, (hS.sel 8 [3, 0, 0, 4, 1, 0, 0, 0] rfl)⟩
    · refine WL.new rfl rfl zv_62 hS (fun b2 w hS => ?_)
      refine WL.nil ?_
      refine ⟨by exact ⟨RQ.pure rfl rfl rfl rfl, RQ.pure rfl rfl rfl rfl, RQ.pure rfl rfl rfl rfl, RQ.pure rfl rfl rfl rfl, RQ.load rfl rfl rfl rfl (hS.ld 2 rfl rfl)⟩, ?_⟩
      refine WQ.nil ?_
      intro m2
      replace hS := hS.drewN m2; generalize hwm2 : World.drewN _ _ = w at *; clear hwm2
      refine WL.call rfl rfl (ar_cap_o (a := a) (p := xp) (A := A) (na := xna) (nc := xnc) (ca := xca) (cc := xcc) (rd := xrd) (hA := hA) (hS := (hS.sel 6 [2, 2, 2, 2, 0, 0] rfl))) rfl ?_
      clear hS; rintro _ w ⟨rfl, hS⟩
      replace hS : St g (cel a #[.pointer (some ⟨xp, 0, none⟩), .slice xna (List.length (nds A.nodes)) xnc, .slice xca (List.length (i64s A.cnt)) xcc, .int .u64 xrd] 153 :: Slt xp A.s :: Own 165 8 (nds A.nodes) xna xnc :: Own 3 1 (i64s A.cnt) xca xcc :: cel b2 #[.slice none 0 0, .slice none 0 0] 62 :: cel b1 #[.slice none 0 0, .slice none 0 0] 62 :: L) w := hS
      refine WL.nil ?_
      refine ⟨by exact ⟨RQ.pure rfl rfl rfl rfl, RQ.pure rfl rfl rfl rfl, RQ.pure rfl rfl rfl rfl, RQ.load rfl rfl rfl rfl (hS.ld 0 rfl rfl)⟩, ?_⟩
      refine WQ.nil ?_
      intro m3
      replace hS := hS.drewN m3; generalize hwm3 : World.drewN _ _ = w at *; clear hwm3
      refine ⟨?_, ?_⟩
      · refine WL.make rfl rfl (v := A.s.cap) (v' := A.s.cap) (A.s.cap.toNat) (A.s.cap.toNat) el_60 hS rfl (by omega) rfl (by omega) (by omega) (Rm.of (by omega) (by decide)) (fun b3 w hS => ?_)
        replace hS : St g (Own 167 11 (List.replicate A.s.cap.toNat [.bool false, .int .i64 0, .int .u32 0, .int .i64 0, .int .i64 0, .int .u32 0, .int .u32 0, .int .i64 0, .int .i64 0, .int .i64 0, .int .i64 0]) (some ⟨b3, 0, none⟩) A.s.cap.toNat :: cel a #[.pointer (some ⟨xp, 0, none⟩), .slice xna (List.length (nds A.nodes)) xnc, .slice xca (List.length (i64s A.cnt)) xcc, .int .u64 xrd] 153 :: Slt xp A.s :: Own 165 8 (nds A.nodes) xna xnc :: Own 3 1 (i64s A.cnt) xca xcc :: cel b2 #[.slice none 0 0, .slice none 0 0] 62 :: cel b1 #[.slice none 0 0, .slice none 0 0] 62 :: L) w := hS
        refine WL.nil ?_
        refine ⟨by exact ⟨RQ.pure rfl rfl rfl rfl, RQ.pure rfl rfl rfl rfl, RQ.pure rfl rfl rfl rfl, RQ.load rfl rfl rfl rfl (hS.ld 1 rfl rfl)⟩, ?_⟩
        refine WQ.nil ?_
        intro m4
        replace hS := hS.drewN m4; generalize hwm4 : World.drewN _ _ = w at *; clear hwm4
        refine WL.call rfl rfl (sl_order (s := xp) (S := A.s) (hO := hs) (hS := (hS.sel 3 [2, 0, 0] rfl))) rfl ?_
        clear hS; rintro _ w ⟨a1, c1, rfl, hS⟩
        replace hS : St g (Own 64 1 (u32s (SM.order A.s)) a1 c1 :: Slt xp A.s :: Own 167 11 (List.replicate A.s.cap.toNat [.bool false, .int .i64 0, .int .u32 0, .int .i64 0, .int .i64 0, .int .u32 0, .int .u32 0, .int .i64 0, .int .i64 0, .int .i64 0, .int .i64 0]) (some ⟨b3, 0, none⟩) A.s.cap.toNat :: cel a #[.pointer (some ⟨xp, 0, none⟩), .slice xna (List.length (nds A.nodes)) xnc, .slice xca (List.length (i64s A.cnt)) xcc, .int .u64 xrd] 153 :: Own 165 8 (nds A.nodes) xna xnc :: Own 3 1 (i64s A.cnt) xca xcc :: cel b2 #[.slice none 0 0, .slice none 0 0] 62 :: cel b1 #[.slice none 0 0, .slice none 0 0] 62 :: L) w := hS
        refine WL.nil ?_
        refine ⟨by exact trivial, ?_⟩
        refine WQ.build rfl rfl (cs := [.slice (some ⟨b3, 0, none⟩) A.s.cap.toNat A.s.cap.toNat, .slice a1 (List.length (u32s (SM.order A.s))) c1]) zv_62 rfl rfl ?_
        refine WQ.nil ?_
        intro m5
        replace hS := hS.drewN m5; generalize hwm5 : World.drewN _ _ = w at *; clear hwm5
        refine WL.stF rfl rfl rfl 6 hS rfl rfl rfl rfl rfl ag_62 (fun w hS => ?_)
        replace hS : St g (Own 64 1 (u32s (SM.order A.s)) a1 c1 :: Slt xp A.s :: Own 167 11 (List.replicate A.s.cap.toNat [.bool false, .int .i64 0, .int .u32 0, .int .i64 0, .int .i64 0, .int .u32 0, .int .u32 0, .int .i64 0, .int .i64 0, .int .i64 0, .int .i64 0]) (some ⟨b3, 0, none⟩) A.s.cap.toNat :: cel a #[.pointer (some ⟨xp, 0, none⟩), .slice xna (List.length (nds A.nodes)) xnc, .slice xca (List.length (i64s A.cnt)) xcc, .int .u64 xrd] 153 :: Own 165 8 (nds A.nodes) xna xnc :: Own 3 1 (i64s A.cnt) xca xcc :: cel b2 #[.slice (some ⟨b3, 0, none⟩) A.s.cap.toNat A.s.cap.toNat, .slice a1 (List.length (u32s (SM.order A.s))) c1] 62 :: cel b1 #[.slice none 0 0, .slice none 0 0] 62 :: L) w := hS
        refine WL.nil ?_
        refine ⟨by exact trivial, ?_⟩
        intro m6
        replace hS := hS.drewN m6; generalize hwm6 : World.drewN _ _ = w at *; clear hwm6
        exact ⟨b2, (some ⟨b3, 0, none⟩), a1, c1, rfl, (hS.sel 8 [6, 2, 0, 4, 1, 0, 0, 0] rfl)⟩
      · refine WL.call rfl rfl (sl_order (s := xp) (S := A.s) (hO := hs) (hS := (hS.sel 2 [1, 0] rfl))) rfl ?_
        clear hS; rintro _ w ⟨a1, c1, rfl, hS⟩
        replace hS : St g (Own 64 1 (u32s (SM.order A.s)) a1 c1 :: Slt xp A.s :: cel a #[.pointer (some ⟨xp, 0, none⟩), .slice xna (List.length (nds A.nodes)) xnc, .slice xca (List.length (i64s A.cnt)) xcc, .int .u64 xrd] 153 :: Own 165 8 (nds A.nodes) xna xnc :: Own 3 1 (i64s A.cnt) xca xcc :: cel b2 #[.slice none 0 0, .slice none 0 0] 62 :: cel b1 #[.slice none 0 0, .slice none 0 0] 62 :: L) w := hS
        refine WL.nil ?_
        refine ⟨by exact trivial, ?_⟩
        refine WQ.nil ?_
        intro m4
        replace hS := hS.drewN m4; generalize hwm4 : World.drewN _ _ = w at *; clear hwm4
        refine WL.make rfl rfl (v := A.s.cap) (v' := A.s.cap) (A.s.cap.toNat) (A.s.cap.toNat) el_60 hS rfl (by omega) rfl (by omega) (by omega) (Rm.of (by omega) (by decide)) (fun b3 w hS => ?_)
        replace hS : St g (Own 167 11 (List.replicate A.s.cap.toNat [.bool false, .int .i64 0, .int .u32 0, .int .i64 0, .int .i64 0, .int .u32 0, .int .u32 0, .int .i64 0, .int .i64 0, .int .i64 0, .int .i64 0]) (some ⟨b3, 0, none⟩) A.s.cap.toNat :: Own 64 1 (u32s (SM.order A.s)) a1 c1 :: Slt xp A.s :: cel a #[.pointer (some ⟨xp, 0, none⟩), .slice xna (List.length (nds A.nodes)) xnc, .slice xca (List.length (i64s A.cnt)) xcc, .int .u64 xrd] 153 :: Own 165 8 (nds A.nodes) xna xnc :: Own 3 1 (i64s A.cnt) xca xcc :: cel b2 #[.slice none 0 0, .slice none 0 0] 62 :: cel b1 #[.slice none 0 0, .slice none 0 0] 62 :: L) w := hS
        refine WL.nil ?_
        refine ⟨by exact ⟨RQ.pure rfl rfl rfl rfl, RQ.pure rfl rfl rfl rfl, RQ.pure rfl rfl rfl rfl, RQ.load rfl rfl rfl rfl (hS.ld 3 rfl rfl)⟩, ?_⟩
        refine WQ.build rfl rfl (cs := [.slice (some ⟨b3, 0, none⟩) A.s.cap.toNat A.s.cap.toNat, .slice a1 (List.length (u32s (SM.order A.s))) c1]) zv_62 rfl rfl ?_
        refine WQ.nil ?_
        intro m5
        replace hS := hS.drewN m5; generalize hwm5 : World.drewN _ _ = w at *; clear hwm5
        refine WL.stF rfl rfl rfl 6 hS rfl rfl rfl rfl rfl ag_62 (fun w hS => ?_)
        replace hS : St g (Own 167 11 (List.replicate A.s.cap.toNat [.bool false, .int .i64 0, .int .u32 0, .int .i64 0, .int .i64 0, .int .u32 0, .int .u32 0, .int .i64 0, .int .i64 0, .int .i64 0, .int .i64 0]) (some ⟨b3, 0, none⟩) A.s.cap.toNat :: Own 64 1 (u32s (SM.order A.s)) a1 c1 :: Slt xp A.s :: cel a #[.pointer (some ⟨xp, 0, none⟩), .slice xna (List.length (nds A.nodes)) xnc, .slice xca (List.length (i64s A.cnt)) xcc, .int .u64 xrd] 153 :: Own 165 8 (nds A.nodes) xna xnc :: Own 3 1 (i64s A.cnt) xca xcc :: cel b2 #[.slice (some ⟨b3, 0, none⟩) A.s.cap.toNat A.s.cap.toNat, .slice a1 (List.length (u32s (SM.order A.s))) c1] 62 :: cel b1 #[.slice none 0 0, .slice none 0 0] 62 :: L) w := hS
        refine WL.nil ?_
        refine ⟨by exact trivial, ?_⟩
        intro m6
        replace hS := hS.drewN m6; generalize hwm6 : World.drewN _ _ = w at *; clear hwm6
        exact ⟨b2, (some ⟨b3, 0, none⟩), a1, c1, rfl, (hS.sel 8 [6, 0, 0, 4, 1, 0, 0, 0] rfl)⟩
  clear hS; rintro _ w j ⟨b, ua, ub, ud, rfl, hS⟩
  refine WC.seq ?_
  refine WC.seq ?_
  refine WC.region ?_
  rw [dmp_zero] at hS
  refine WL.run 4 [.slice ua A.s.cap.toNat A.s.cap.toNat] rfl (by exact hS.ld 0 rfl rfl) ?_
  refine WL.nil ?_
  refine WC.block ?_
  refine WC.loop [0, 2, 3, 17, 18] (fun kM vs w => ∃ (k : Nat), vs = [.pointer (some ⟨a, 0, none⟩), .pointer (some ⟨b1, 0, none⟩), .pointer (some ⟨b, 0, none⟩), .int .i64 (A.s.cap.toNat : Int), .int .i64 (k : Int)] ∧ St g (cel b #[.slice ua A.s.cap.toNat A.s.cap.toNat, .slice ub (List.length (u32s (SM.order A.s))) ud] 62 :: Own 167 11 (sls (AM.dmpK A k)) ua A.s.cap.toNat :: Own 64 1 (u32s (SM.order A.s)) ub ud :: cel b1 #[.slice none 0 0, .slice none 0 0] 62 :: cel a #[.pointer (some ⟨xp, 0, none⟩), .slice xna (List.length (nds A.nodes)) xnc, .slice xca (List.length (i64s A.cnt)) xcc, .int .u64 xrd] 153 :: Slt xp A.s :: Own 165 8 (nds A.nodes) xna xnc :: Own 3 1 (i64s A.cnt) xca xcc :: L) w ∧ (k ≤ A.s.cap.toNat) ∧ (A.s.cap.toNat - k) = kM) (A.s.cap.toNat - 0) ⟨0, rfl, hS, (Nat.zero_le _), rfl⟩ ?_
  clear hS; rintro _ _ w j ⟨k, rfl, hS, hk, rfl⟩
  refine WC.seq ?_
  refine WC.region ?_
  refine WL.r 1 rfl ?_
  refine WL.nil ?_
  refine WC.seq ?_
  refine WC.ifP rfl (fun cd1 => ?_) (fun cd1 => ?_)
  · refine WC.skip ?_
    as_aux_lemma =>
      refine WC.seq ?_
      refine WC.block ?_
      refine WC.seq ?_
      refine WC.region ?_
      refine WL.r 2 rfl ?_
      refine WL.nil ?_
      refine WC.seq ?_
      refine WC.region ?_
      obtain ⟨nd, hnd, hne⟩ := dmp_nd hA (k := k) (by omega); have hnl := nds_len A.nodes; have hnn := hA.nl; have hkl := AM.dmpK_len A k; have hsl := sls_len (AM.dmpK A k); obtain ⟨z, hz⟩ : ∃ z, (AM.dmpK A k)[k]? = some z := ⟨_, List.getElem?_eq_getElem (by omega)⟩
      refine WL.r 2 rfl ?_
      refine WL.nw 22 rfl (w64 (by omega)) ?_
      refine WL.r 1 rfl ?_
      refine WL.nw 23 rfl (wu32 (by omega)) ?_
      refine WL.r 1 rfl ?_
      refine WL.nil ?_
      refine WC.plan [([0, 2, 3, 7, 9, 10, 12, 13, 15, 19, 1, 4, 16, 5, 17, 6, 18, 20, 21], some (8, [0, 1, 2, 9, 10, 12, 13, 15, 16, 17, 18, 19, 20, 21])), ([], some (11, [0, 1, 2, 12, 13, 15, 16, 17, 18, 19, 20, 21])), ([], some (14, [0, 1, 2, 15, 16, 17, 18, 19, 20, 21])), ([22, 23], some (24, []))] (by kernel_rfl) (by kernel_rfl) ?_
      refine WQ.run 17 [.slice ua A.s.cap.toNat A.s.cap.toNat, .pointer (some ⟨xp, 0, none⟩), .slice xna (List.length (nds A.nodes)) xnc] rfl (by exact ⟨hS.ld 0 rfl rfl, hS.ld 4 rfl rfl, hS.ld 4 rfl rfl⟩) ?_
      refine WQ.ix rfl rfl (i := (k : Int) + 1) (k + 1) el_151 rfl rfl (by omega) (by omega) (hS.rdO 6 rfl (nds_at hnd)).1 ?_
      refine WQ.ldC rfl rfl [.int .i64 nd.key, .int .i64 nd.val, .int .u32 nd.lf, .int .u32 nd.rg, .int .i64 nd.size, .int .i64 nd.sum, .int .i64 nd.mn, .int .i64 nd.mx] ag_165 rfl (hS.rdO 6 rfl (nds_at hnd)).2 ?_
      refine WQ.nil ?_
      intro m1
      replace hS := hS.drewN m1; generalize hwm1 : World.drewN _ _ = w at *; clear hwm1
      refine WL.call rfl rfl (sl_ok (s := xp) (S := A.s) (i := (k : Int) + 1) (hl := hle) (hi := (by omega)) (hS := (hS.sel 6 [5, 0, 0, 0, 0, 0] rfl))) rfl ?_
      clear hS; rintro _ w ⟨rfl, hS⟩
      replace hS : St g (Slt xp A.s :: cel b #[.slice ua A.s.cap.toNat A.s.cap.toNat, .slice ub (List.length (u32s (SM.order A.s))) ud] 62 :: Own 167 11 (sls (AM.dmpK A k)) ua A.s.cap.toNat :: Own 64 1 (u32s (SM.order A.s)) ub ud :: cel b1 #[.slice none 0 0, .slice none 0 0] 62 :: cel a #[.pointer (some ⟨xp, 0, none⟩), .slice xna (List.length (nds A.nodes)) xnc, .slice xca (List.length (i64s A.cnt)) xcc, .int .u64 xrd] 153 :: Own 165 8 (nds A.nodes) xna xnc :: Own 3 1 (i64s A.cnt) xca xcc :: L) w := hS
      refine WL.nil ?_
      refine ⟨by exact ⟨RQ.pure rfl rfl rfl rfl, RQ.load rfl rfl rfl rfl (hS.ld 1 rfl rfl), RQ.pure rfl rfl rfl rfl, RQ.pure rfl rfl rfl rfl, RQ.pure rfl rfl rfl rfl, RQ.pure rfl rfl rfl rfl, RQ.pure rfl rfl rfl rfl, RQ.pure rfl rfl rfl rfl, RQ.pure rfl rfl rfl rfl, RQ.pure rfl rfl rfl rfl, RQ.load rfl rfl rfl rfl (hS.ld 5 rfl rfl), RQ.pure rfl rfl rfl rfl, RQ.ix rfl rfl (i := (k : Int) + 1) (k + 1) el_151 rfl rfl (by omega) (by omega) (hS.rdO 6 rfl (nds_at hnd)).1 rfl rfl, RQ.ldC rfl rfl [.int .i64 nd.key, .int .i64 nd.val, .int .u32 nd.lf, .int .u32 nd.rg, .int .i64 nd.size, .int .i64 nd.sum, .int .i64 nd.mn, .int .i64 nd.mx] ag_165 rfl (hS.rdO 6 rfl (nds_at hnd)).2 rfl rfl⟩, ?_⟩
      refine WQ.nil ?_
      intro m2
      replace hS := hS.drewN m2; generalize hwm2 : World.drewN _ _ = w at *; clear hwm2
      refine WL.call rfl rfl (ar_count_o (a := a) (p := xp) (A := A) (na := xna) (nc := xnc) (ca := xca) (cc := xcc) (rd := xrd) (i := (k : Int) + 1) (hA := hA) (hi := (by omega)) (hS := (hS.sel 8 [5, 0, 4, 4, 0, 0, 0, 0] rfl))) rfl ?_
      clear hS; rintro _ w ⟨rfl, hS⟩
      replace hS : St g (cel a #[.pointer (some ⟨xp, 0, none⟩), .slice xna (List.length (nds A.nodes)) xnc, .slice xca (List.length (i64s A.cnt)) xcc, .int .u64 xrd] 153 :: Slt xp A.s :: Own 165 8 (nds A.nodes) xna xnc :: Own 3 1 (i64s A.cnt) xca xcc :: cel b #[.slice ua A.s.cap.toNat A.s.cap.toNat, .slice ub (List.length (u32s (SM.order A.s))) ud] 62 :: Own 167 11 (sls (AM.dmpK A k)) ua A.s.cap.toNat :: Own 64 1 (u32s (SM.order A.s)) ub ud :: cel b1 #[.slice none 0 0, .slice none 0 0] 62 :: L) w := hS
      refine WL.nil ?_
      refine ⟨by exact ⟨RQ.pure rfl rfl rfl rfl, RQ.load rfl rfl rfl rfl (hS.ld 4 rfl rfl), RQ.pure rfl rfl rfl rfl, RQ.pure rfl rfl rfl rfl, RQ.pure rfl rfl rfl rfl, RQ.pure rfl rfl rfl rfl, RQ.pure rfl rfl rfl rfl, RQ.pure rfl rfl rfl rfl, RQ.load rfl rfl rfl rfl (hS.ld 0 rfl rfl), RQ.pure rfl rfl rfl rfl, RQ.ix rfl rfl (i := (k : Int) + 1) (k + 1) el_151 rfl rfl (by omega) (by omega) (hS.rdO 2 rfl (nds_at hnd)).1 rfl rfl, RQ.ldC rfl rfl [.int .i64 nd.key, .int .i64 nd.val, .int .u32 nd.lf, .int .u32 nd.rg, .int .i64 nd.size, .int .i64 nd.sum, .int .i64 nd.mn, .int .i64 nd.mx] ag_165 rfl (hS.rdO 2 rfl (nds_at hnd)).2 rfl rfl⟩, ?_⟩
      refine WQ.nil ?_
      intro m3
      replace hS := hS.drewN m3; generalize hwm3 : World.drewN _ _ = w at *; clear hwm3
      refine WL.call rfl rfl (ar_gen_o (a := a) (p := xp) (A := A) (na := xna) (nc := xnc) (ca := xca) (cc := xcc) (rd := xrd) (i := (k : Int) + 1) (hA := hA) (hi := (by omega)) (hS := hS)) rfl ?_
      clear hS; rintro _ w ⟨rfl, hS⟩
      replace hS : St g (cel a #[.pointer (some ⟨xp, 0, none⟩), .slice xna (List.length (nds A.nodes)) xnc, .slice xca (List.length (i64s A.cnt)) xcc, .int .u64 xrd] 153 :: Slt xp A.s :: Own 165 8 (nds A.nodes) xna xnc :: Own 3 1 (i64s A.cnt) xca xcc :: cel b #[.slice ua A.s.cap.toNat A.s.cap.toNat, .slice ub (List.length (u32s (SM.order A.s))) ud] 62 :: Own 167 11 (sls (AM.dmpK A k)) ua A.s.cap.toNat :: Own 64 1 (u32s (SM.order A.s)) ub ud :: cel b1 #[.slice none 0 0, .slice none 0 0] 62 :: L) w := hS
      refine WL.nil ?_
      refine ⟨by exact ⟨RQ.pure rfl rfl rfl rfl, RQ.load rfl rfl rfl rfl (hS.ld 4 rfl rfl), RQ.pure rfl rfl rfl rfl, RQ.pure rfl rfl rfl rfl, RQ.pure rfl rfl rfl rfl, RQ.pure rfl rfl rfl rfl, RQ.load rfl rfl rfl rfl (hS.ld 0 rfl rfl), RQ.pure rfl rfl rfl rfl, RQ.ix rfl rfl (i := (k : Int) + 1) (k + 1) el_151 rfl rfl (by omega) (by omega) (hS.rdO 2 rfl (nds_at hnd)).1 rfl rfl, RQ.ldC rfl rfl [.int .i64 nd.key, .int .i64 nd.val, .int .u32 nd.lf, .int .u32 nd.rg, .int .i64 nd.size, .int .i64 nd.sum, .int .i64 nd.mn, .int .i64 nd.mx] ag_165 rfl (hS.rdO 2 rfl (nds_at hnd)).2 rfl rfl⟩, ?_⟩
      refine WQ.build rfl rfl (cs := [.bool (A.s.ok ((k : Int) + 1)), .int .i64 (AM.cntD A ((k : Int) + 1)), .int .u32 (A.s.genOf ((k : Int) + 1)), .int .i64 nd.key, .int .i64 nd.val, .int .u32 nd.lf, .int .u32 nd.rg, .int .i64 nd.size, .int .i64 nd.sum, .int .i64 nd.mn, .int .i64 nd.mx]) zv_167 rfl rfl ?_
      refine WQ.ix rfl rfl (i := (k : Int)) (k) el_60 rfl rfl (by omega) (by omega) (hS.rdO 5 rfl (sls_at hz)).1 ?_
      refine WQ.nil ?_
      intro m4
      replace hS := hS.drewN m4; generalize hwm4 : World.drewN _ _ = w at *; clear hwm4
      refine WL.stS rfl rfl rfl 5 (k) [.bool z.al, .int .i64 z.cn, .int .u32 z.ge, .int .i64 z.nd.key, .int .i64 z.nd.val, .int .u32 z.nd.lf, .int .u32 z.nd.rg, .int .i64 z.nd.size, .int .i64 z.nd.sum, .int .i64 z.nd.mn, .int .i64 z.nd.mx] (sls (AM.dmpK A (k + 1))) hS rfl (sls_at hz) rfl rfl rfl rfl ag_167 (dmp_st hne) (fun w hS => ?_)
      replace hS : St g (cel a #[.pointer (some ⟨xp, 0, none⟩), .slice xna (List.length (nds A.nodes)) xnc, .slice xca (List.length (i64s A.cnt)) xcc, .int .u64 xrd] 153 :: Slt xp A.s :: Own 165 8 (nds A.nodes) xna xnc :: Own 3 1 (i64s A.cnt) xca xcc :: cel b #[.slice ua A.s.cap.toNat A.s.cap.toNat, .slice ub (List.length (u32s (SM.order A.s))) ud] 62 :: Own 167 11 (sls (AM.dmpK A (k + 1))) ua A.s.cap.toNat :: Own 64 1 (u32s (SM.order A.s)) ub ud :: cel b1 #[.slice none 0 0, .slice none 0 0] 62 :: L) w := hS
      refine WL.nil ?_
      refine ⟨by exact trivial, ?_⟩
      intro m5
      replace hS := hS.drewN m5; generalize hwm5 : World.drewN _ _ = w at *; clear hwm5
      as_aux_lemma =>
        refine WC.region ?_
        refine WL.r 1 rfl ?_
        refine WL.nw 48 rfl (w64 (by omega)) ?_
        refine WL.r 1 rfl ?_
        refine WL.nil ?_
        exact ⟨_, by omega, k + 1, rfl, (hS.sel 8 [4, 4, 4, 4, 0, 0, 0, 0] rfl), (by omega), rfl⟩
  · refine WC.exit ?_
    as_aux_lemma =>
      refine WC.seq ?_
      refine WC.region ?_
      refine WL.ldF rfl rfl 0 hS rfl rfl ag_62 ?_
      refine WL.stF rfl rfl rfl 3 hS rfl rfl rfl rfl rfl ag_62 (fun w hS => ?_)
      replace hS : St g (cel b #[.slice ua A.s.cap.toNat A.s.cap.toNat, .slice ub (List.length (u32s (SM.order A.s))) ud] 62 :: Own 167 11 (sls (AM.dmpK A k)) ua A.s.cap.toNat :: Own 64 1 (u32s (SM.order A.s)) ub ud :: cel b1 #[.slice ua A.s.cap.toNat A.s.cap.toNat, .slice ub (List.length (u32s (SM.order A.s))) ud] 62 :: cel a #[.pointer (some ⟨xp, 0, none⟩), .slice xna (List.length (nds A.nodes)) xnc, .slice xca (List.length (i64s A.cnt)) xcc, .int .u64 xrd] 153 :: Slt xp A.s :: Own 165 8 (nds A.nodes) xna xnc :: Own 3 1 (i64s A.cnt) xca xcc :: L) w := hS
      refine WL.nil ?_
      refine WC.ret ?_
      replace hS := St.exClose (f := arnF a A) (L := cel b #[.slice ua A.s.cap.toNat A.s.cap.toNat, .slice ub (List.length (u32s (SM.order A.s))) ud] 62 :: Own 167 11 (sls (AM.dmpK A k)) ua A.s.cap.toNat :: Own 64 1 (u32s (SM.order A.s)) ub ud :: cel b1 #[.slice ua A.s.cap.toNat A.s.cap.toNat, .slice ub (List.length (u32s (SM.order A.s))) ud] 62 :: L) ⟨xp, xna, xnc, xca, xcc, xrd⟩ ((hS.sel 8 [4, 4, 4, 4, 0, 0, 0, 0] rfl))
      replace hS : St g (Arn a A :: cel b #[.slice ua A.s.cap.toNat A.s.cap.toNat, .slice ub (List.length (u32s (SM.order A.s))) ud] 62 :: Own 167 11 (sls (AM.dmpK A k)) ua A.s.cap.toNat :: Own 64 1 (u32s (SM.order A.s)) ub ud :: cel b1 #[.slice ua A.s.cap.toNat A.s.cap.toNat, .slice ub (List.length (u32s (SM.order A.s))) ud] 62 :: L) w := hS
      refine ⟨[.agg #[.slice ua A.s.cap.toNat A.s.cap.toNat, .slice ub (List.length (u32s (SM.order A.s))) ud]], ⟨⟨_, rfl, hS.lvF 4 rfl ag_62⟩, trivial⟩, ?_⟩
      replace hS := (hS.sel 5 [2, 2, 0] rfl)
      have hke : k = A.s.cap.toNat := (by omega); subst hke; rw [AM.dmpK_end] at hS; exact ⟨_, _, _, _, by rw [sls_len, AM.dmp_len]; rfl, hS⟩
end Go.Proofs.YtlnlnebibgdjdaaGreat
/-! ## E5 -/
namespace Go.Proofs.YtlnlnebibgdjdaaGreat
open Go Go.V Go.RowKit
theorem order_len {S : SM} (h : SOk S) : (SM.order S).length ≤ 140000 := by
  have h1 := h.rle
  have h2 := h.cap
  have h3 := h.fr
  have h4 : S.cap = (S.used.length : Int) - 1 := rfl
  unfold SM.order ordU
  rw [List.length_append, List.length_reverse, List.length_map, List.length_range]
  omega
end Go.Proofs.YtlnlnebibgdjdaaGreat
/-! ## E6 -/
namespace Go.Proofs.YtlnlnebibgdjdaaGreat
open Go Go.V Go.RowKit
def oIx (L : List Kvs) (k v : Int) : Nat → Nat
  | 0 => 0
  | i + 1 => if lget k (lsA L i) = some v then oIx L k v i else i + 1
def refO (L : List Kvs) (n : Nat) : List Or := (lsB L n).map fun e => (e.1, e.2, (oIx L e.1 e.2 (n - 1) : Int))
theorem step_mem (i : Nat) : ∀ (D : List Chg) (M : List Or) (x : Or), x ∈ (evA i D).foldl oStep M → (x ∈ M ∧ ∀ c ∈ D, c.2.1 ≠ x.1) ∨ (x.2.2 = (i : Int) ∧ ∃ c ∈ D, c.2.1 = x.1)
  | [], M, x, h => .inl ⟨h, fun c hc => by cases hc⟩
  | c :: D, M, x, h => by
    have h' : x ∈ (evA i D).foldl oStep (oStep M ((i : Int), c)) := h
    rcases step_mem i D _ x h' with ⟨h1, h2⟩ | ⟨h1, d, hd, h2⟩
    · unfold oStep at h1
      split at h1
      · obtain ⟨h3, h4⟩ := (pdel_mem x).1 h1
        refine .inl ⟨h3, fun d hd => ?_⟩
        rcases List.mem_cons.1 hd with rfl | hd
        · exact fun e => h4 e.symm
        · exact h2 d hd
      · rcases (pput_mem x).1 h1 with e | ⟨h3, h4⟩
        · exact .inr ⟨by rw [e], c, List.mem_cons_self .., by rw [e]⟩
        · refine .inl ⟨h3, fun d hd => ?_⟩
          rcases List.mem_cons.1 hd with rfl | hd
          · exact fun e => h4 e.symm
          · exact h2 d hd
    · exact .inr ⟨h1, d, List.mem_cons_of_mem _ hd, h2⟩
theorem org_ok {L : List Kvs} (h : LOk L) : ∀ (n : Nat) (x : Or), x ∈ oAll (hev minI maxI L n) → x.2.2 = (oIx L x.1 x.2.1 (n - 1) : Int)
  | 0, x, hx => by
    have hx' : x ∈ ([] : List Or) := hx
    cases hx'
  | n + 1, x, hx => by
    have hm : lget x.1 (lsA L n) = some x.2.1 := by
      have h1 : (x.1, x.2.1) ∈ (oAll (hev minI maxI L (n + 1))).map (fun x => (x.1, x.2.1)) := List.mem_map.2 ⟨x, hx, rfl⟩
      rw [oAll_list, rpE_hev h] at h1
      exact (lget_some (h.a n).1).2 h1
    rw [hev_succ] at hx
    unfold oAll at hx
    rw [List.foldl_append] at hx
    have hx' : x ∈ (evA n (dA minI maxI L n)).foldl oStep (oAll (hev minI maxI L n)) := hx
    rw [dA_full h] at hx'
    show x.2.2 = (oIx L x.1 x.2.1 n : Int)
    rcases step_mem n _ _ x hx' with ⟨h1, h2⟩ | ⟨h1, c, hc, h2⟩
    · have ih := org_ok h n x h1
      have hb : lget x.1 (lsB L n) = some x.2.1 := by
        rw [← hm]
        refine Classical.not_not.1 fun hn => ?_
        obtain ⟨c, hc, e⟩ := (dif_get _ _ (h.b n).1 (h.a n).1 x.1).2 hn
        exact h2 c hc e
      cases n with
      | zero => cases hb
      | succ m =>
        have hb' : lget x.1 (lsA L m) = some x.2.1 := hb
        rw [show oIx L x.1 x.2.1 (m + 1) = oIx L x.1 x.2.1 m from if_pos hb']; exact ih
    · have hne := (dif_get _ _ (h.b n).1 (h.a n).1 x.1).1 ⟨c, hc, h2⟩
      rw [hm] at hne
      cases n with
      | zero => exact h1
      | succ m =>
        have hb' : ¬ lget x.1 (lsA L m) = some x.2.1 := hne
        rw [show oIx L x.1 x.2.1 (m + 1) = m + 1 from if_neg hb']; exact h1
theorem org_eq {L : List Kvs} (h : LOk L) (n : Nat) : oAll (hev minI maxI L n) = refO L n := by
  unfold refO
  have e : lsB L n = (oAll (hev minI maxI L n)).map (fun x => (x.1, x.2.1)) := by rw [oAll_list, rpE_hev h]
  rw [e, List.map_map]
  symm
  refine (List.map_congr_left (g := id) fun x hx => ?_).trans (List.map_id _)
  show (x.1, x.2.1, (oIx L x.1 x.2.1 (n - 1) : Int)) = x
  rw [← org_ok h n x hx]
def fW (L : List Kvs) (k v : Int) : Nat → Nat → Int
  | 0, _ => -1
  | m + 1, i => if lget k (lsA L i) = some v then (i : Int) else fW L k v m (i + 1)
theorem fW_hit {L : List Kvs} {k v : Int} {n i : Nat} (hi : i < n) (h : lget k (lsA L i) = some v) : fW L k v (n - i) i = (i : Int) := by
  rw [show n - i = (n - i - 1) + 1 by omega]; exact if_pos h
theorem fW_miss {L : List Kvs} {k v : Int} {n i : Nat} (hi : i < n) (h : ¬ lget k (lsA L i) = some v) : fW L k v (n - i) i = fW L k v (n - (i + 1)) (i + 1) := by
  rw [show n - i = (n - (i + 1)) + 1 by omega]; exact if_neg h
theorem some_of {o : Option Int} {v : Int} (h1 : o.isSome = true) (h2 : o.getD 0 = v) : o = some v := by
  cases o with
  | none => cases h1
  | some x => rw [← h2]; rfl
theorem not_some {o : Option Int} {v : Int} (h1 : ¬ o.isSome = true) : ¬ o = some v := fun e => h1 (by rw [e]; rfl)
theorem not_val {o : Option Int} {v : Int} (h2 : ¬ o.getD 0 = v) : ¬ o = some v := fun e => h2 (by rw [e]; rfl)
theorem bnn {b : Bool} (h : ¬ (!b) = true) : b = true := by cases b <;> simp_all
theorem bn1 {b : Bool} (h : (!b) = true) : ¬ b = true := by cases b <;> simp_all
theorem not_both {o : Option Int} {v : Int} (h : ¬ (o.isSome = true ∧ o.getD 0 = v)) : ¬ o = some v := fun e => h (by rw [e]; exact ⟨rfl, rfl⟩)
theorem sub_next {l m : Kvs} {j : Nat} {e : Int × Int} (hn : ∀ x ∈ l.take j, lget x.1 m = some x.2) (he : l[j]? = some e) (h : lget e.1 m = some e.2) : ∀ x ∈ l.take (j + 1), lget x.1 m = some x.2 := fun x hx => by
  rw [List.take_add_one, he] at hx
  rcases List.mem_append.1 hx with hx | hx
  · exact hn x hx
  · have hx2 : x ∈ [e] := hx
    rw [List.mem_singleton.1 hx2]; exact h
set_option maxRecDepth 8192 in
theorem r9_sub {g w : World} {L : List HP} (l m : Kvs) (ua ub : Option Addr) (da db : Nat) (hl : l.length ≤ 1000000) (hm : m.length ≤ 1000000) (hS : St g (Sh 77 2 (en2 l) ua da :: Sh 77 2 (en2 m) ub db :: L) w) :
    Sp Tryz.prog 104 [.slice ua (List.length (en2 l)) da, .slice ub (List.length (en2 m)) db] w (fun v w' => v = .bool (decide (∀ x ∈ l, lget x.1 m = some x.2)) ∧ St g (Sh 77 2 (en2 l) ua da :: Sh 77 2 (en2 m) ub db :: L) w') := by
  refine Sp.enter Tryz.func104 rfl (by kernel_rfl) (by kernel_rfl) ?_
  have _ := hl
  refine WC.seq ?_
  refine WC.region ?_
  refine WL.r 1 rfl ?_
  refine WL.nil ?_
  refine WC.seq ?_
  refine WC.seq ?_
  refine WC.region ?_
  have hll := en2_len l
  refine WL.r 1 rfl ?_
  refine WL.nil ?_
  refine WC.block ?_
  refine WC.loop [0, 1, 5] (fun kM vs w => ∃ (j : Nat), vs = [.slice ua (List.length (en2 l)) da, .slice ub (List.length (en2 m)) db, .int .i64 (j : Int)] ∧ St g (Sh 77 2 (en2 l) ua da :: Sh 77 2 (en2 m) ub db :: L) w ∧ (j ≤ l.length) ∧ (∀ x ∈ l.take j, lget x.1 m = some x.2) ∧ (l.length - j) = kM) ((List.length l) - 0) ⟨0, rfl, hS, (Nat.zero_le _), (fun x hx => by simp at hx), rfl⟩ ?_
  clear hS; rintro _ _ w j ⟨j, rfl, hS, hj, hn, rfl⟩
  refine WC.seq ?_
  refine WC.seq ?_
  refine WC.region ?_
  have hll := en2_len l
  refine WL.r 4 rfl ?_
  refine WL.nil ?_
  refine WC.ifP rfl (fun cd1 => ?_) (fun cd1 => ?_)
  · refine WC.skip ?_
    refine WC.seq ?_
    refine WC.block ?_
    refine WC.seq ?_
    refine WC.region ?_
    refine WL.r 3 rfl ?_
    obtain ⟨e, he⟩ : ∃ e, l[j]? = some e := ⟨_, List.getElem?_eq_getElem (by omega)⟩
    refine WL.ix rfl rfl (i := (j : Int)) (j) el_49 rfl rfl (by omega) (by omega) (hS.rdS 0 rfl (en2_at he)).1 ?_
    refine WL.run 2 [.int .i64 e.1] rfl (by exact (hS.rdS 0 rfl (en2_at he)).2 0 _ rfl) ?_
    refine WL.call rfl rfl (ref_get (l := m) (u := ub) (d := db) (k := e.1) (hl := hm) (hS := (hS.sel 2 [1, 0] rfl))) rfl ?_
    clear hS; rintro _ w ⟨rfl, hS⟩
    replace hS : St g (Sh 77 2 (en2 m) ub db :: Sh 77 2 (en2 l) ua da :: L) w := hS
    refine WL.r 5 rfl ?_
    refine WL.nil ?_
    as_aux_lemma =>
      refine WC.seq ?_
      refine WC.region ?_
      refine WL.r 2 rfl ?_
      refine WL.r 1 rfl ?_
      by_cases cg1 : (! (lget e.1 m).isSome) = true
      · refine WL.reb 26 (.bool true) (congrArg Value.bool cg1) ?_
        refine WL.skp rfl rfl rfl rfl ?_
        refine WL.skp rfl rfl rfl rfl ?_
        refine WL.skp rfl rfl rfl rfl ?_
        refine WL.skp rfl rfl rfl rfl ?_
        refine WL.skp rfl rfl rfl rfl ?_
        refine WL.skp rfl rfl rfl rfl ?_
        refine WL.skp rfl rfl rfl rfl ?_
        refine WL.r 1 rfl ?_
        refine WL.nil ?_
        refine WC.ifT rfl rfl ?_
        refine WC.seq ?_
        refine WC.region ?_
        refine WL.r 1 rfl ?_
        refine WL.nil ?_
        refine WC.ret ?_
        refine ⟨[.bool false], rfl, ?_⟩
        replace hS := (hS.sel 2 [1, 0] rfl)
        exact ⟨congrArg Value.bool (decide_eq_false fun h => not_some (bn1 cg1) (h e (List.mem_of_getElem? he))).symm, hS⟩
      · refine WL.reb 26 (.bool false) (congrArg Value.bool (Bool.eq_false_iff.2 cg1)) ?_
        refine WL.ung rfl rfl rfl ?_
        refine WL.r 1 rfl ?_
        refine WL.ung rfl rfl rfl ?_
        refine WL.r 1 rfl ?_
        refine WL.ung rfl rfl rfl ?_
        refine WL.r 1 rfl ?_
        refine WL.ung rfl rfl rfl ?_
        refine WL.ix rfl rfl (i := (j : Int)) (j) el_49 rfl rfl (by omega) (by omega) (hS.rdS 1 rfl (en2_at he)).1 ?_
        refine WL.ung rfl rfl rfl ?_
        refine WL.r 1 rfl ?_
        refine WL.ung rfl rfl rfl ?_
        refine WL.run 1 [.int .i64 e.2] rfl (by exact (hS.rdS 1 rfl (en2_at he)).2 1 _ rfl) ?_
        refine WL.ung rfl rfl rfl ?_
        refine WL.r 2 rfl ?_
        refine WL.nil ?_
        refine WC.ifP rfl (fun cd2 => ?_) (fun cd2 => ?_)
        · refine WC.seq ?_
          refine WC.region ?_
          refine WL.r 1 rfl ?_
          refine WL.nil ?_
          as_aux_lemma =>
            refine WC.ret ?_
            refine ⟨[.bool false], rfl, ?_⟩
            replace hS := (hS.sel 2 [1, 0] rfl)
            exact ⟨congrArg Value.bool (decide_eq_false fun h => not_val cd2 (h e (List.mem_of_getElem? he))).symm, hS⟩
        · refine WC.skip ?_
          refine WC.region ?_
          refine WL.r 2 rfl ?_
          refine WL.nw 13 rfl (w64 (by omega)) ?_
          refine WL.r 1 rfl ?_
          refine WL.nil ?_
          exact ⟨_, by omega, j + 1, rfl, (hS.sel 2 [1, 0] rfl), (by omega), (sub_next hn he (some_of (bnn cg1) (Classical.not_not.1 cd2))), rfl⟩
  · refine WC.exit ?_
    refine WC.seq ?_
    refine WC.region ?_
    refine WL.r 1 rfl ?_
    refine WL.nil ?_
    as_aux_lemma =>
      refine WC.ret ?_
      refine ⟨[.bool true], rfl, ?_⟩
      have hj9 : j = l.length := (by omega); subst hj9; rw [List.take_length] at hn; exact ⟨congrArg Value.bool (decide_eq_true hn).symm, hS⟩
theorem en2_one {l : Kvs} {k : Nat} {e : Int × Int} (h : l[k]? = some e) : ((en2 l).take (k + 1)).drop k = en2 [e] := by
  have h1 : (en2 l)[k]? = some [.int .i64 e.1, .int .i64 e.2] := en2_at h
  rw [List.take_add_one, h1, List.drop_append, List.drop_of_length_le (by rw [List.length_take]; omega)]
  have h2 : k < (en2 l).length := (List.getElem?_eq_some_iff.1 h1).1
  rw [List.length_take, show k - min k (en2 l).length = 0 by omega]; rfl
theorem oIx_step {L : List Kvs} {k v : Int} {q : Nat} (h0 : 0 < q) (h : lget k (lsA L (q - 1)) = some v) : oIx L k v q = oIx L k v (q - 1) := by
  cases q with
  | zero => omega
  | succ m => exact if_pos h
theorem oIx_stop {L : List Kvs} {k v : Int} {q : Nat} (h : ¬ lget k (lsA L (q - 1)) = some v) : oIx L k v q = q := by
  cases q with
  | zero => rfl
  | succ m => exact if_neg h
theorem lsB_pos {L : List Kvs} {q : Nat} (h : 0 < q) : lsB L q = lsA L (q - 1) := if_neg (by omega)
theorem refO_at {LL : List LsE} {k : Nat} {e : Int × Int} (h : (bfL LL LL.length).es[k]? = some e) : (refO (List.map LsE.es LL) LL.length)[k]? = some (e.1, e.2, (oIx (List.map LsE.es LL) e.1 e.2 (LL.length - 1) : Int)) := by
  unfold refO
  rw [← bfL_es, List.getElem?_map, h]; rfl
set_option maxHeartbeats 1000000 in
set_option maxRecDepth 8192 in
theorem r27_orig {g w : World} {L : List HP} (LL ZZ : List LsE) (u : Option Addr) (d : Nat) (hL : LOk (List.map LsE.es LL)) (hsub : ∀ x ∈ LL, x ∈ ZZ) (hn : LL.length ≤ 100) (hS : St g (Sh 49 1 (enL LL) u d :: Shs leF ZZ :: L) w) :
    Sp Tryz.prog 35 [.slice u (List.length (enL LL)) d] w (fun v w' => ∃ (a2 : Option Addr) (c2 : Nat), v = .slice a2 (List.length (or3 (refO (List.map LsE.es LL) (List.length LL)))) c2 ∧ St g (Own 93 3 (or3 (refO (List.map LsE.es LL) (List.length LL))) a2 c2 :: Sh 49 1 (enL LL) u d :: Shs leF ZZ :: L) w') := by
  refine Sp.enter Tryz.func35 rfl (by kernel_rfl) (by kernel_rfl) ?_
  have _ := hn
  refine WC.seq ?_
  refine WC.region ?_
  refine WL.r 1 rfl ?_
  refine WL.nil ?_
  refine WC.seq ?_
  refine WC.region ?_
  refine WL.r 1 rfl ?_
  refine WL.nil ?_
  refine WC.seq ?_
  refine WC.region ?_
  have hll := enL_len LL; have hb := hL.b LL.length; rw [← bfL_es] at hb; have hbl := en2_len (bfL LL LL.length).es
  refine WL.r 4 rfl ?_
  refine WL.reb 10 (.int .i64 ((List.length LL : Int) - 1)) (congrArg (Value.int .i64) (by rw [w64 (by omega), enL_len])) ?_
  refine WL.call rfl rfl (r27_at (LL := LL) (u := u) (d := d) (k := List.length LL) (hk := (by omega)) (hn := (by omega)) (hS := hS)) rfl ?_
  clear hS; rintro _ w ⟨rfl, hS⟩
  replace hS : St g (Sh 49 1 (enL LL) u d :: Shs leF ZZ :: L) w := hS
  refine WL.r 1 rfl ?_
  refine WL.nil ?_
  refine WC.seq ?_
  refine WC.seq ?_
  refine WC.region ?_
  replace hS : St g (Sh 77 2 (en2 (bfL LL (List.length LL)).es) (bfL LL (List.length LL)).a (bfL LL (List.length LL)).c :: Sh 49 1 (enL LL) u d :: Shs leF ZZ :: L) w := bfL_shs hS 1 rfl hsub (by omega)
  refine WL.r 1 rfl ?_
  refine WL.nil ?_
  as_aux_lemma =>
    refine WC.block ?_
    replace hS := hS.nil_ 93 3
    refine WC.loop [0, 2, 3, 4, 5] (fun kM vs w => ∃ (k : Nat) (out : List Or) (ua : Option Addr) (uc : Nat), vs = [.slice u (List.length (enL LL)) d, .slice none 0 0, .slice ua (List.length (or3 out)) uc, .slice (bfL LL (List.length LL)).a (List.length (en2 (bfL LL (List.length LL)).es)) (bfL LL (List.length LL)).c, .int .i64 (k : Int)] ∧ St g (Own 93 3 (or3 out) ua uc :: Sh 77 2 (en2 (bfL LL (List.length LL)).es) (bfL LL (List.length LL)).a (bfL LL (List.length LL)).c :: Sh 49 1 (enL LL) u d :: Shs leF ZZ :: L) w ∧ (k ≤ (bfL LL LL.length).es.length) ∧ (out = (refO (List.map LsE.es LL) LL.length).take k) ∧ ((bfL LL LL.length).es.length - k) = kM) ((bfL LL (List.length LL)).es.length - 0) ⟨0, [], none, 0, rfl, hS, (Nat.zero_le _), (rfl), rfl⟩ ?_
    clear hS; rintro _ _ w j ⟨k, out, ua, uc, rfl, hS, hk, ho, rfl⟩
    refine WC.seq ?_
    refine WC.seq ?_
    refine WC.region ?_
    replace hS : St g (Sh 77 2 (en2 (bfL LL (List.length LL)).es) (bfL LL (List.length LL)).a (bfL LL (List.length LL)).c :: Own 93 3 (or3 out) ua uc :: Sh 77 2 (en2 (bfL LL (List.length LL)).es) (bfL LL (List.length LL)).a (bfL LL (List.length LL)).c :: Sh 49 1 (enL LL) u d :: Shs leF ZZ :: L) w := bfL_shs hS 3 rfl hsub (by omega)
    refine WL.r 4 rfl ?_
    refine WL.nil ?_
    refine WC.ifP rfl (fun cd1 => ?_) (fun cd1 => ?_)
    · refine WC.skip ?_
      refine WC.seq ?_
      refine WC.block ?_
      refine WC.seq ?_
      refine WC.region ?_
      obtain ⟨e, he⟩ : ∃ e, (bfL LL LL.length).es[k]? = some e := ⟨_, List.getElem?_eq_getElem (by omega)⟩; have hn0 : LL.length ≠ 0 := (fun h0 => by rw [h0, bfL_0] at he; cases he); have hol : out.length ≤ 100 := (by rw [ho, List.length_take]; omega); have hoe := or3_len out
      refine WL.r 3 rfl ?_
      refine WL.reb 20 (.int .i64 (((List.length LL) - 1 : Nat) : Int)) (congrArg (Value.int .i64) (by rw [w64 (by omega), enL_len]; omega)) ?_
      refine WL.r 1 rfl ?_
      refine WL.nil ?_
      refine WC.seq ?_
      refine WC.block ?_
      refine WC.loop [0, 2, 3, 4, 5, 6, 12, 13, 14, 15, 18, 19, 20] (fun kM vs w => ∃ (q : Nat), vs = [.slice u (List.length (enL LL)) d, .slice none 0 0, .slice ua (List.length (or3 out)) uc, .slice (bfL LL (List.length LL)).a (List.length (en2 (bfL LL (List.length LL)).es)) (bfL LL (List.length LL)).c, .int .i64 (k : Int), .int .i64 (q : Int), .int .i64 (k : Int), .slice (bfL LL (List.length LL)).a (List.length (en2 (bfL LL (List.length LL)).es)) (bfL LL (List.length LL)).c, .int .i64 (List.length (en2 (bfL LL (List.length LL)).es) : Int), .bool (decide ((k : Int) < (List.length (en2 (bfL LL (List.length LL)).es) : Int))), .slice u (List.length (enL LL)) d, .int .i64 (List.length (enL LL) : Int), .int .i64 (((List.length LL) - 1 : Nat) : Int)] ∧ St g (Sh 77 2 (en2 (bfL LL (List.length LL)).es) (bfL LL (List.length LL)).a (bfL LL (List.length LL)).c :: Own 93 3 (or3 out) ua uc :: Sh 77 2 (en2 (bfL LL (List.length LL)).es) (bfL LL (List.length LL)).a (bfL LL (List.length LL)).c :: Sh 49 1 (enL LL) u d :: Shs leF ZZ :: L) w ∧ (q ≤ LL.length) ∧ (oIx (List.map LsE.es LL) e.1 e.2 q = oIx (List.map LsE.es LL) e.1 e.2 (LL.length - 1)) ∧ (q) = kM) ((List.length LL) - 1) ⟨LL.length - 1, rfl, hS, (by omega), (rfl), rfl⟩ ?_
      clear hS; rintro _ _ w j ⟨q, rfl, hS, hq, hx, rfl⟩
      refine WC.seq ?_
      refine WC.seq ?_
      refine WC.plan [([0, 1, 2, 3, 4, 5, 8, 9, 6, 10, 7, 11, 12], some (13, [])), ([14], none)] (by kernel_rfl) (by kernel_rfl) ?_
      have hbq := hL.b q; rw [← bfL_es] at hbq
      replace hS : St g (Sh 77 2 (en2 (bfL LL q).es) (bfL LL q).a (bfL LL q).c :: Sh 77 2 (en2 (bfL LL (List.length LL)).es) (bfL LL (List.length LL)).a (bfL LL (List.length LL)).c :: Own 93 3 (or3 out) ua uc :: Sh 77 2 (en2 (bfL LL (List.length LL)).es) (bfL LL (List.length LL)).a (bfL LL (List.length LL)).c :: Sh 49 1 (enL LL) u d :: Shs leF ZZ :: L) w := bfL_shs hS 4 rfl hsub (by omega)
      refine WQ.r 3 rfl ?_
      by_cases cg1 : 0 < (q : Int)
      · refine WQ.reb 23 (.bool true) (congrArg Value.bool (decide_eq_true cg1)) ?_
        refine WQ.ung rfl rfl rfl ?_
        refine WQ.r 1 rfl ?_
        refine WQ.ung rfl rfl rfl ?_
        refine WQ.r 1 rfl ?_
        refine WQ.ung rfl rfl rfl ?_
        refine WQ.r 1 rfl ?_
        refine WQ.ung rfl rfl rfl ?_
        refine WQ.r 1 rfl ?_
        refine WQ.ung rfl rfl rfl ?_
        refine WQ.r 1 rfl ?_
        refine WQ.ung rfl rfl rfl ?_
        refine WQ.r 1 rfl ?_
        refine WQ.nw 27 rfl (w64 (by omega)) ?_
        refine WQ.ung rfl rfl rfl ?_
        refine WQ.r 1 rfl ?_
        refine WQ.nw 31 rfl (w64 (by omega)) ?_
        refine WQ.ung rfl rfl rfl ?_
        refine WQ.slLH rfl rfl (v := (k : Int)) (v' := (k : Int) + 1) 1 (k) (k + 1) (en2 [e]) el_49 hS rfl rfl rfl (by omega) rfl (by omega) (by omega) (by omega) (en2_one he) (fun a1 qa1 hS => ?_)
        replace hS : St g (Sh 77 2 (en2 [e]) a1 ((bfL LL (List.length LL)).c - k) :: Sh 77 2 (en2 (bfL LL q).es) (bfL LL q).a (bfL LL q).c :: Sh 77 2 (en2 (bfL LL (List.length LL)).es) (bfL LL (List.length LL)).a (bfL LL (List.length LL)).c :: Own 93 3 (or3 out) ua uc :: Sh 77 2 (en2 (bfL LL (List.length LL)).es) (bfL LL (List.length LL)).a (bfL LL (List.length LL)).c :: Sh 49 1 (enL LL) u d :: Shs leF ZZ :: L) w := hS
        refine WQ.ung rfl rfl rfl ?_
        refine WQ.ix rfl rfl (i := (q : Int) - 1) (q - 1) el_41 rfl rfl (by omega) (by omega) (hS.rdS 5 rfl (enL_at (bfL_at (by omega) hq))).1 ?_
        refine WQ.ung rfl rfl rfl ?_
        refine WQ.run 1 [.slice (bfL LL q).a (List.length (en2 (bfL LL q).es)) (bfL LL q).c] rfl (by exact (hS.rdS 5 rfl (enL_at (bfL_at (by omega) hq))).2 0 _ rfl) ?_
        refine WQ.nil ?_
        intro m1
        replace hS := hS.drewN m1; generalize hwm1 : World.drewN _ _ = w at *; clear hwm1
        refine WL.ung rfl rfl rfl ?_
        refine WL.call rfl rfl (r9_sub (l := [e]) (m := (bfL LL q).es) (ua := a1) (ub := (bfL LL q).a) (da := (bfL LL (List.length LL)).c - k) (db := (bfL LL q).c) (hl := (by simp)) (hm := (by omega)) (hS := hS)) rfl ?_
        clear hS; rintro _ w ⟨rfl, hS⟩
        replace hS : St g (Sh 77 2 (en2 [e]) a1 ((bfL LL (List.length LL)).c - k) :: Sh 77 2 (en2 (bfL LL q).es) (bfL LL q).a (bfL LL q).c :: Sh 77 2 (en2 (bfL LL (List.length LL)).es) (bfL LL (List.length LL)).a (bfL LL (List.length LL)).c :: Own 93 3 (or3 out) ua uc :: Sh 77 2 (en2 (bfL LL (List.length LL)).es) (bfL LL (List.length LL)).a (bfL LL (List.length LL)).c :: Sh 49 1 (enL LL) u d :: Shs leF ZZ :: L) w := hS
        refine WL.nil ?_
        refine ⟨by exact trivial, ?_⟩
        refine WQ.r 1 rfl ?_
        refine WQ.nil ?_
        intro m2
        replace hS := hS.drewN m2; generalize hwm2 : World.drewN _ _ = w at *; clear hwm2
        as_aux_lemma =>
          refine WC.ifP rfl (fun cd2 => ?_) (fun cd2 => ?_)
          · refine WC.skip ?_
            refine WC.block ?_
            refine WC.region ?_
            refine WL.r 2 rfl ?_
            refine WL.reb 37 (.int .i64 ((q - 1 : Nat) : Int)) (congrArg (Value.int .i64) (by rw [w64 (by omega)]; omega)) ?_
            refine WL.r 1 rfl ?_
            refine WL.nil ?_
            exact ⟨_, by omega, q - 1, rfl, (hS.sel 2 [] rfl), (by omega), (by rw [← hx]; exact (oIx_step (by omega) (by rw [← lsB_pos (by omega), ← bfL_es]; exact cd2 e (List.mem_singleton.2 rfl))).symm), rfl⟩
          · refine WC.exit ?_
            refine WC.region ?_
            refine WL.r 3 rfl ?_
            refine WL.ix rfl rfl (i := (k : Int)) (k) el_49 rfl rfl (by omega) (by omega) (hS.rdS 2 rfl (en2_at he)).1 ?_
            refine WL.ldC rfl rfl [.int .i64 e.1, .int .i64 e.2] ag_77 rfl (hS.rdS 2 rfl (en2_at he)).2 ?_
            refine WL.r 1 rfl ?_
            refine WL.build rfl rfl (cs := [.int .i64 e.1, .int .i64 e.2, .int .i64 (q : Int)]) zv_93 rfl rfl ?_
            refine WL.lit rfl rfl (or3 [(e.1, e.2, (q : Int))]) el_94 hS (by exact ⟨rfl, rfl⟩) (or3_ok _) rfl (by decide) (fun b1 w hS => ?_)
            refine WL.app rfl rfl 4 (or3 (out ++ [(e.1, e.2, (q : Int))])) el_94 hS rfl (hS.srcO 0 rfl) (or3_app _ _).symm (Rm.of (by first | omega | (simp <;> omega)) (by decide)) rfl rfl (fun a2 c1 w hS => ?_)
            replace hS : St g (Own 93 3 (or3 [(e.1, e.2, (q : Int))]) (some ⟨b1, 0, none⟩) (List.length (or3 [(e.1, e.2, (q : Int))])) :: Sh 77 2 (en2 [e]) a1 ((bfL LL (List.length LL)).c - k) :: Sh 77 2 (en2 (bfL LL q).es) (bfL LL q).a (bfL LL q).c :: Sh 77 2 (en2 (bfL LL (List.length LL)).es) (bfL LL (List.length LL)).a (bfL LL (List.length LL)).c :: Own 93 3 (or3 (out ++ [(e.1, e.2, (q : Int))])) a2 c1 :: Sh 77 2 (en2 (bfL LL (List.length LL)).es) (bfL LL (List.length LL)).a (bfL LL (List.length LL)).c :: Sh 49 1 (enL LL) u d :: Shs leF ZZ :: L) w := hS
            refine WL.r 1 rfl ?_
            refine WL.nil ?_
            refine WC.region ?_
            replace hS : St g (Sh 77 2 (en2 (bfL LL (List.length LL)).es) (bfL LL (List.length LL)).a (bfL LL (List.length LL)).c :: Own 93 3 (or3 [(e.1, e.2, (q : Int))]) (some ⟨b1, 0, none⟩) (List.length (or3 [(e.1, e.2, (q : Int))])) :: Sh 77 2 (en2 [e]) a1 ((bfL LL (List.length LL)).c - k) :: Sh 77 2 (en2 (bfL LL q).es) (bfL LL q).a (bfL LL q).c :: Sh 77 2 (en2 (bfL LL (List.length LL)).es) (bfL LL (List.length LL)).a (bfL LL (List.length LL)).c :: Own 93 3 (or3 (out ++ [(e.1, e.2, (q : Int))])) a2 c1 :: Sh 77 2 (en2 (bfL LL (List.length LL)).es) (bfL LL (List.length LL)).a (bfL LL (List.length LL)).c :: Sh 49 1 (enL LL) u d :: Shs leF ZZ :: L) w := bfL_shs hS 7 rfl hsub (by omega)
            refine WL.r 2 rfl ?_
            refine WL.nw 17 rfl (w64 (by omega)) ?_
            refine WL.r 1 rfl ?_
            refine WL.nil ?_
            exact ⟨_, by omega, k + 1, out ++ [(e.1, e.2, (q : Int))], a2, c1, rfl, (hS.sel 7 [5, 0] rfl), (by omega), (by rw [List.take_add_one, refO_at he, ← hx, oIx_stop (fun h => cd2 (fun x hx2 => by rw [List.mem_singleton.1 hx2, bfL_es, lsB_pos (by omega)]; exact h)), ho]; rfl), rfl⟩
      · refine WQ.reb 23 (.bool false) (congrArg Value.bool (decide_eq_false cg1)) ?_
        refine WQ.skp rfl rfl rfl rfl ?_
        refine WQ.skp rfl rfl rfl rfl ?_
        refine WQ.skp rfl rfl rfl rfl ?_
        refine WQ.skp rfl rfl rfl rfl ?_
        refine WQ.skp rfl rfl rfl rfl ?_
        refine WQ.skp rfl rfl rfl rfl ?_
        refine WQ.skp rfl rfl rfl rfl ?_
        refine WQ.skp rfl rfl rfl rfl ?_
        refine WQ.skp rfl rfl rfl rfl ?_
        refine WQ.skp rfl rfl rfl rfl ?_
        refine WQ.nil ?_
        intro m1
        replace hS := hS.drewN m1; generalize hwm1 : World.drewN _ _ = w at *; clear hwm1
        refine WL.skp rfl rfl rfl rfl ?_
        refine WL.nil ?_
        refine ⟨by exact trivial, ?_⟩
        refine WQ.r 1 rfl ?_
        refine WQ.nil ?_
        intro m2
        replace hS := hS.drewN m2; generalize hwm2 : World.drewN _ _ = w at *; clear hwm2
        as_aux_lemma =>
          refine WC.ifF rfl rfl ?_
          refine WC.exit ?_
          refine WC.region ?_
          refine WL.r 3 rfl ?_
          refine WL.ix rfl rfl (i := (k : Int)) (k) el_49 rfl rfl (by omega) (by omega) (hS.rdS 1 rfl (en2_at he)).1 ?_
          refine WL.ldC rfl rfl [.int .i64 e.1, .int .i64 e.2] ag_77 rfl (hS.rdS 1 rfl (en2_at he)).2 ?_
          refine WL.r 1 rfl ?_
          refine WL.build rfl rfl (cs := [.int .i64 e.1, .int .i64 e.2, .int .i64 (q : Int)]) zv_93 rfl rfl ?_
          refine WL.lit rfl rfl (or3 [(e.1, e.2, (q : Int))]) el_94 hS (by exact ⟨rfl, rfl⟩) (or3_ok _) rfl (by decide) (fun b1 w hS => ?_)
          refine WL.app rfl rfl 3 (or3 (out ++ [(e.1, e.2, (q : Int))])) el_94 hS rfl (hS.srcO 0 rfl) (or3_app _ _).symm (Rm.of (by first | omega | (simp <;> omega)) (by decide)) rfl rfl (fun a1 c1 w hS => ?_)
          replace hS : St g (Own 93 3 (or3 [(e.1, e.2, (q : Int))]) (some ⟨b1, 0, none⟩) (List.length (or3 [(e.1, e.2, (q : Int))])) :: Sh 77 2 (en2 (bfL LL q).es) (bfL LL q).a (bfL LL q).c :: Sh 77 2 (en2 (bfL LL (List.length LL)).es) (bfL LL (List.length LL)).a (bfL LL (List.length LL)).c :: Own 93 3 (or3 (out ++ [(e.1, e.2, (q : Int))])) a1 c1 :: Sh 77 2 (en2 (bfL LL (List.length LL)).es) (bfL LL (List.length LL)).a (bfL LL (List.length LL)).c :: Sh 49 1 (enL LL) u d :: Shs leF ZZ :: L) w := hS
          refine WL.r 1 rfl ?_
          refine WL.nil ?_
          refine WC.region ?_
          replace hS : St g (Sh 77 2 (en2 (bfL LL (List.length LL)).es) (bfL LL (List.length LL)).a (bfL LL (List.length LL)).c :: Own 93 3 (or3 [(e.1, e.2, (q : Int))]) (some ⟨b1, 0, none⟩) (List.length (or3 [(e.1, e.2, (q : Int))])) :: Sh 77 2 (en2 (bfL LL q).es) (bfL LL q).a (bfL LL q).c :: Sh 77 2 (en2 (bfL LL (List.length LL)).es) (bfL LL (List.length LL)).a (bfL LL (List.length LL)).c :: Own 93 3 (or3 (out ++ [(e.1, e.2, (q : Int))])) a1 c1 :: Sh 77 2 (en2 (bfL LL (List.length LL)).es) (bfL LL (List.length LL)).a (bfL LL (List.length LL)).c :: Sh 49 1 (enL LL) u d :: Shs leF ZZ :: L) w := bfL_shs hS 6 rfl hsub (by omega)
          refine WL.r 2 rfl ?_
          refine WL.nw 17 rfl (w64 (by omega)) ?_
          refine WL.r 1 rfl ?_
          refine WL.nil ?_
          exact ⟨_, by omega, k + 1, out ++ [(e.1, e.2, (q : Int))], a1, c1, rfl, (hS.sel 6 [4, 0] rfl), (by omega), (by have hq0 : q = 0 := (by omega); subst hq0; rw [List.take_add_one, refO_at he, ← hx, ho]; rfl), rfl⟩
    · refine WC.exit ?_
      refine WC.seq ?_
      refine WC.region ?_
      refine WL.r 2 rfl ?_
      refine WL.nil ?_
      refine WC.ret ?_
      refine ⟨[.slice ua (List.length (or3 out)) uc], rfl, ?_⟩
      replace hS := (hS.sel 3 [1] rfl)
      have e9 : out = refO (List.map LsE.es LL) LL.length := (by rw [ho, List.take_of_length_le]; unfold refO; rw [List.length_map, ← bfL_es]; omega); rw [e9] at hS ⊢; exact ⟨_, _, rfl, hS⟩
set_option maxRecDepth 8192 in
theorem r27_first {g w : World} {L : List HP} (LL ZZ : List LsE) (u : Option Addr) (d : Nat) (kk vv : Int) (hL : LOk (List.map LsE.es LL)) (hsub : ∀ x ∈ LL, x ∈ ZZ) (hn : LL.length ≤ 100) (hS : St g (Sh 49 1 (enL LL) u d :: Shs leF ZZ :: L) w) :
    Sp Tryz.prog 37 [.slice u (List.length (enL LL)) d, .agg #[.int .i64 kk, .int .i64 vv]] w (fun v w' => v = .int .i64 (fW (List.map LsE.es LL) kk vv (List.length LL) 0) ∧ St g (Sh 49 1 (enL LL) u d :: Shs leF ZZ :: L) w') := by
  refine Sp.enter Tryz.func37 rfl (by kernel_rfl) (by kernel_rfl) ?_
  have _ := hn
  refine WC.seq ?_
  refine WC.region ?_
  refine WL.box rfl rfl #[.int .i64 kk, .int .i64 vv] hS rfl rfl (fun b1 w hS => ?_)
  refine WL.r 1 rfl ?_
  refine WL.nil ?_
  refine WC.seq ?_
  refine WC.seq ?_
  refine WC.region ?_
  have hll := enL_len LL
  refine WL.r 1 rfl ?_
  refine WL.nil ?_
  refine WC.block ?_
  refine WC.loop [0, 3, 5] (fun kM vs w => ∃ (i : Nat), vs = [.slice u (List.length (enL LL)) d, .pointer (some ⟨b1, 0, none⟩), .int .i64 (i : Int)] ∧ St g (cel b1 #[.int .i64 kk, .int .i64 vv] 77 :: Sh 49 1 (enL LL) u d :: Shs leF ZZ :: L) w ∧ (i ≤ LL.length) ∧ (fW (List.map LsE.es LL) kk vv (LL.length - i) i = fW (List.map LsE.es LL) kk vv LL.length 0) ∧ (LL.length - i) = kM) ((List.length LL) - 0) ⟨0, rfl, hS, (Nat.zero_le _), (rfl), rfl⟩ ?_
  clear hS; rintro _ _ w j ⟨i, rfl, hS, hi, hw, rfl⟩
  refine WC.seq ?_
  refine WC.seq ?_
  refine WC.region ?_
  have hll := enL_len LL
  refine WL.r 4 rfl ?_
  refine WL.nil ?_
  refine WC.ifP rfl (fun cd1 => ?_) (fun cd1 => ?_)
  · refine WC.skip ?_
    refine WC.seq ?_
    refine WC.block ?_
    refine WC.seq ?_
    refine WC.plan [([0, 1, 4, 5], some (2, [4, 5])), ([3], some (6, [])), ([7, 8, 9, 10, 11], none)] (by kernel_rfl) (by kernel_rfl) ?_
    obtain ⟨z, hz⟩ : ∃ z, LL[i]? = some z := ⟨_, List.getElem?_eq_getElem (by omega)⟩; have hza : z.es = lsA (List.map LsE.es LL) i := (by unfold lsA; rw [List.getD_eq_getElem?_getD, List.getElem?_map, hz]; rfl); have ha := hL.a i; rw [← hza] at ha
    replace hS : St g (Sh 77 2 (en2 z.es) z.a z.c :: cel b1 #[.int .i64 kk, .int .i64 vv] 77 :: Sh 49 1 (enL LL) u d :: Shs leF ZZ :: L) w := hS.shsGet 2 rfl (hsub _ (List.mem_of_getElem? hz))
    refine WQ.run 4 [.int .i64 kk] rfl (by exact hS.ld 1 rfl rfl) ?_
    refine WQ.nil ?_
    intro m1
    replace hS := hS.drewN m1; generalize hwm1 : World.drewN _ _ = w at *; clear hwm1
    refine WL.ix rfl rfl (i := (i : Int)) (i) el_41 rfl rfl (by omega) (by omega) (hS.rdS 2 rfl (enL_at hz)).1 ?_
    refine WL.nil ?_
    refine ⟨by exact ⟨RQ.pure rfl rfl rfl rfl, RQ.load rfl rfl rfl rfl (hS.ld 1 rfl rfl)⟩, ?_⟩
    refine WQ.run 1 [.slice z.a (List.length (en2 z.es)) z.c] rfl (by exact (hS.rdS 2 rfl (enL_at hz)).2 0 _ rfl) ?_
    refine WQ.nil ?_
    intro m2
    replace hS := hS.drewN m2; generalize hwm2 : World.drewN _ _ = w at *; clear hwm2
    refine WL.call rfl rfl (ref_get (l := z.es) (u := z.a) (d := z.c) (k := kk) (hl := (by omega)) (hS := hS)) rfl ?_
    clear hS; rintro _ w ⟨rfl, hS⟩
    replace hS : St g (Sh 77 2 (en2 z.es) z.a z.c :: cel b1 #[.int .i64 kk, .int .i64 vv] 77 :: Sh 49 1 (enL LL) u d :: Shs leF ZZ :: L) w := hS
    refine WL.nil ?_
    refine ⟨by exact trivial, ?_⟩
    refine WQ.r 5 rfl ?_
    refine WQ.nil ?_
    intro m3
    replace hS := hS.drewN m3; generalize hwm3 : World.drewN _ _ = w at *; clear hwm3
    as_aux_lemma =>
      refine WC.seq ?_
      refine WC.region ?_
      refine WL.r 1 rfl ?_
      refine WL.runG 6 [.int .i64 vv] rfl (by exact (fun _ => hS.ld 1 rfl rfl)) (fun j => ?_)
      refine WL.prop 30 rfl (band (dv _) (dd _)) ?_
      refine WL.nil ?_
      refine WC.ifP rfl (fun cd2 => ?_) (fun cd2 => ?_)
      · refine WC.seq ?_
        refine WC.region ?_
        refine WL.r 2 rfl ?_
        refine WL.nil ?_
        refine WC.ret ?_
        refine ⟨[.int .i64 (i : Int)], rfl, ?_⟩
        replace hS := (hS.sel 2 [] rfl)
        exact ⟨congrArg (Value.int .i64) ((fW_hit (by omega) (by rw [← hza]; exact some_of cd2.1 cd2.2)).symm.trans hw), hS⟩
      · refine WC.skip ?_
        refine WC.region ?_
        refine WL.r 2 rfl ?_
        refine WL.nw 13 rfl (w64 (by omega)) ?_
        refine WL.r 1 rfl ?_
        refine WL.nil ?_
        exact ⟨_, by omega, i + 1, rfl, (hS.sel 1 [] rfl), (by omega), ((fW_miss (by omega) (by rw [← hza]; exact not_both cd2)).symm.trans hw), rfl⟩
  · refine WC.exit ?_
    refine WC.seq ?_
    refine WC.region ?_
    refine WL.r 1 rfl ?_
    refine WL.nil ?_
    as_aux_lemma =>
      refine WC.ret ?_
      refine ⟨[.int .i64 (-1)], rfl, ?_⟩
      replace hS := (hS.sel 1 [] rfl)
      have hi9 : i = LL.length := (by omega); subst hi9; exact ⟨congrArg (Value.int .i64) (by rw [← hw, Nat.sub_self]; rfl), hS⟩
set_option maxRecDepth 8192 in
theorem hi_first {g w : World} {L : List HP} (a : Nat) (A : AM) (R : List Int) (Ls : List Kvs) (rs : List Int) (u : Option Addr) (d : Nat) (kk vv : Int) (hA : ARf A R) (hT : RTs A Ls rs) (hL : LOk Ls) (hn : rs.length ≤ 100) (hS : St g (Arn a A :: Sh 64 1 (u32s rs) u d :: L) w) :
    Sp Tryz.prog 36 [.pointer (some ⟨a, 0, none⟩), .slice u (List.length (u32s rs)) d, .agg #[.int .i64 kk, .int .i64 vv]] w (fun v w' => v = .int .i64 (fW Ls kk vv (List.length rs) 0) ∧ St g (Arn a A :: Sh 64 1 (u32s rs) u d :: L) w') := by
  refine Sp.enter Tryz.func36 rfl (by kernel_rfl) (by kernel_rfl) ?_
  have _ := hn
  refine WC.seq ?_
  refine WC.region ?_
  refine WL.box rfl rfl #[.int .i64 kk, .int .i64 vv] hS rfl rfl (fun b1 w hS => ?_)
  refine WL.r 1 rfl ?_
  refine WL.nil ?_
  refine WC.seq ?_
  refine WC.seq ?_
  refine WC.region ?_
  have hul := u32s_len rs
  refine WL.r 3 rfl ?_
  refine WL.nil ?_
  refine WC.block ?_
  refine WC.loop [0, 5, 11, 12, 13] (fun kM vs w => ∃ (i : Nat), vs = [.pointer (some ⟨a, 0, none⟩), .pointer (some ⟨b1, 0, none⟩), .slice u (List.length (u32s rs)) d, .int .i64 (List.length (u32s rs) : Int), .int .i64 (i : Int)] ∧ St g (cel b1 #[.int .i64 kk, .int .i64 vv] 77 :: Arn a A :: Sh 64 1 (u32s rs) u d :: L) w ∧ (i ≤ rs.length) ∧ (fW Ls kk vv (rs.length - i) i = fW Ls kk vv rs.length 0) ∧ (rs.length - i) = kM) ((List.length rs) - 0) ⟨0, rfl, hS, (Nat.zero_le _), (rfl), rfl⟩ ?_
  clear hS; rintro _ _ w j ⟨i, rfl, hS, hi, hw, rfl⟩
  refine WC.seq ?_
  refine WC.region ?_
  have hul := u32s_len rs
  refine WL.r 1 rfl ?_
  refine WL.nil ?_
  refine WC.seq ?_
  refine WC.ifP rfl (fun cd1 => ?_) (fun cd1 => ?_)
  · refine WC.skip ?_
    refine WC.seq ?_
    refine WC.block ?_
    refine WC.seq ?_
    refine WC.region ?_
    refine WL.r 1 rfl ?_
    obtain ⟨r, hr⟩ : ∃ r, rs[i]? = some r := ⟨_, List.getElem?_eq_getElem (by omega)⟩; obtain ⟨ty, hy1, _, hy3⟩ := hT.get i r hr; have ha := hL.a i; have hg : Tr.get kk ty = lget kk (lsA Ls i) := (by rw [Tr.get_ls kk ty (by rw [hy3]; exact ha.1), hy3])
    refine WL.ix rfl rfl (i := (i : Int)) (i) el_32 rfl rfl (by omega) (by omega) (hS.rdS 2 rfl (u32s_at hr)).1 ?_
    refine WL.run 3 [.int .u32 r] rfl (by exact (hS.rdS 2 rfl (u32s_at hr)).2 0 _ rfl) ?_
    refine WL.nil ?_
    as_aux_lemma =>
      refine WC.seq ?_
      refine WC.region ?_
      refine WL.run 4 [.int .i64 kk] rfl (by exact hS.ld 0 rfl rfl) ?_
      refine WL.call rfl rfl (lk_get (a := a) (A := A) (R := R) (i := r) (k := kk) (t := ty) (hA := hA) (hi := hy1) (hS := (hS.sel 2 [1, 0] rfl))) rfl ?_
      clear hS; rintro _ w ⟨rfl, hS⟩
      replace hS : St g (Arn a A :: cel b1 #[.int .i64 kk, .int .i64 vv] 77 :: Sh 64 1 (u32s rs) u d :: L) w := hS
      refine WL.r 5 rfl ?_
      refine WL.nil ?_
      refine WC.seq ?_
      refine WC.region ?_
      refine WL.r 1 rfl ?_
      refine WL.runG 6 [.int .i64 vv] rfl (by exact (fun _ => hS.ld 1 rfl rfl)) (fun j => ?_)
      refine WL.prop 32 rfl (band (dv _) (dd _)) ?_
      refine WL.nil ?_
      refine WC.ifP rfl (fun cd2 => ?_) (fun cd2 => ?_)
      · refine WC.seq ?_
        refine WC.region ?_
        refine WL.r 2 rfl ?_
        refine WL.nil ?_
        refine WC.ret ?_
        refine ⟨[.int .i64 (i : Int)], rfl, ?_⟩
        replace hS := (hS.sel 2 [0] rfl)
        exact ⟨congrArg (Value.int .i64) ((fW_hit (by omega) (by rw [← hg]; exact some_of cd2.1 cd2.2)).symm.trans hw), hS⟩
      · refine WC.skip ?_
        refine WC.region ?_
        refine WL.r 1 rfl ?_
        refine WL.nw 34 rfl (w64 (by omega)) ?_
        refine WL.r 1 rfl ?_
        refine WL.nil ?_
        exact ⟨_, by omega, i + 1, rfl, (hS.sel 2 [1, 0] rfl), (by omega), ((fW_miss (by omega) (by rw [← hg]; exact not_both cd2)).symm.trans hw), rfl⟩
  · refine WC.exit ?_
    refine WC.seq ?_
    refine WC.region ?_
    refine WL.r 1 rfl ?_
    refine WL.nil ?_
    as_aux_lemma =>
      refine WC.ret ?_
      refine ⟨[.int .i64 (-1)], rfl, ?_⟩
      replace hS := (hS.sel 1 [] rfl)
      have hi9 : i = rs.length := (by omega); subst hi9; exact ⟨congrArg (Value.int .i64) (by rw [← hw, Nat.sub_self]; rfl), hS⟩
end Go.Proofs.YtlnlnebibgdjdaaGreat
/-! ## E7 -/
namespace Go.Proofs.YtlnlnebibgdjdaaGreat
open Go Go.V Go.RowKit Go.Maps Go.Sort Go.Shelf
def fqS (M : Kvs) (e : Ev) : Kvs := lins e.2.2.1 ((lget e.2.2.1 M).getD 0 + 1) M
def fqA (E : List Ev) : Kvs := E.foldl fqS []
theorem fqA_step {E : List Ev} {p : Nat} {e : Ev} (he : E[p]? = some e) : fqA (E.take (p + 1)) = fqS (fqA (E.take p)) e := by
  unfold fqA; rw [List.take_add_one, he, List.foldl_append]; rfl
theorem lget_bnd {M : Kvs} {b : Nat} (h : ∀ x ∈ M, 0 ≤ x.2 ∧ x.2 ≤ (b : Int)) (k : Int) : 0 ≤ (lget k M).getD 0 ∧ (lget k M).getD 0 ≤ (b : Int) := by
  unfold lget
  cases hf : M.find? fun x => decide (x.1 = k) with
  | none => exact ⟨Int.le_refl _, by show (0 : Int) ≤ _; omega⟩
  | some x => exact h x (List.mem_of_find?_eq_some hf)
theorem fq_bnd : ∀ (E : List Ev) (M : Kvs) (b : Nat), Srt M → (∀ x ∈ M, 0 ≤ x.2 ∧ x.2 ≤ (b : Int)) → Srt (E.foldl fqS M) ∧ (∀ x ∈ E.foldl fqS M, 0 ≤ x.2 ∧ x.2 ≤ ((b + E.length : Nat) : Int)) ∧ (E.foldl fqS M).length ≤ M.length + E.length
  | [], M, b, hs, h => ⟨hs, h, Nat.le_refl _⟩
  | e :: E, M, b, hs, h => by
    have hb := lget_bnd h e.2.2.1
    have hl := lins_len (k := e.2.2.1) (v := (lget e.2.2.1 M).getD 0 + 1) hs
    obtain ⟨h1, h2, h3⟩ := fq_bnd E (fqS M e) (b + 1) (lins_srt hs) fun x hx => by
      unfold fqS lins at hx
      rcases List.mem_append.1 hx with hx | hx
      · have := h x (List.mem_filter.1 hx).1; omega
      · rcases List.mem_cons.1 hx with rfl | hx
        · show 0 ≤ (lget e.2.2.1 M).getD 0 + 1 ∧ (lget e.2.2.1 M).getD 0 + 1 ≤ _; omega
        · have := h x (List.mem_filter.1 hx).1; omega
    refine ⟨h1, fun x hx => ?_, ?_⟩
    · have := h2 x hx
      rw [List.length_cons]; omega
    · show (E.foldl fqS (fqS M e)).length ≤ _
      have h4 : (fqS M e).length ≤ M.length + 1 := by unfold fqS; rw [hl]; split <;> omega
      rw [List.length_cons]; omega
theorem fqA_ok (E : List Ev) : Srt (fqA E) ∧ (∀ x ∈ fqA E, 0 ≤ x.2 ∧ x.2 ≤ (E.length : Int)) ∧ (fqA E).length ≤ E.length := by
  have h := fq_bnd E [] 0 List.Pairwise.nil fun x hx => by cases hx
  rw [Nat.zero_add, List.length_nil, Nat.zero_add] at h
  exact h
set_option maxHeartbeats 1000000 in
set_option maxRecDepth 8192 in
theorem r27_freq {g w : World} {L : List HP} (LL ZZ : List LsE) (u : Option Addr) (d : Nat) (hL : LOk (List.map LsE.es LL)) (hsub : ∀ x ∈ LL, x ∈ ZZ) (hn : LL.length ≤ 20) (hS : St g (Sh 49 1 (enL LL) u d :: Shs leF ZZ :: L) w) :
    Sp Tryz.prog 40 [.slice u (List.length (enL LL)) d] w (fun v w' => ∃ (a2 : Option Addr) (c2 : Nat), v = .slice a2 (List.length (en2 (fqA (hev minI maxI (List.map LsE.es LL) (List.length LL))))) c2 ∧ St g (Own 77 2 (en2 (fqA (hev minI maxI (List.map LsE.es LL) (List.length LL)))) a2 c2 :: Sh 49 1 (enL LL) u d :: Shs leF ZZ :: L) w') := by
  refine Sp.enter Tryz.func40 rfl (by kernel_rfl) (by kernel_rfl) ?_
  have _ := hn
  refine WC.seq ?_
  refine WC.region ?_
  refine WL.r 1 rfl ?_
  refine WL.nil ?_
  refine WC.seq ?_
  refine WC.region ?_
  refine WL.r 1 rfl ?_
  refine WL.nil ?_
  refine WC.seq ?_
  refine WC.region ?_
  refine WL.r 1 rfl ?_
  refine WL.call rfl rfl (r27_events (LL := LL) (ZZ := ZZ) (u := u) (d := d) (lo := minI) (hi := maxI) (hL := hL) (hsub := hsub) (hn := (by omega)) (hS := hS)) rfl ?_
  clear hS; rintro _ w ⟨a1, c1, rfl, hS⟩
  replace hS : St g (Own 84 5 (ev5 (hev minI maxI (List.map LsE.es LL) (List.length LL))) a1 c1 :: Sh 49 1 (enL LL) u d :: Shs leF ZZ :: L) w := hS
  refine WL.r 1 rfl ?_
  refine WL.nil ?_
  refine WC.seq ?_
  refine WC.seq ?_
  refine WC.region ?_
  have hel := hev_len (lo := minI) (hi := maxI) hL LL.length; have he5 := ev5_len (hev minI maxI (List.map LsE.es LL) LL.length)
  refine WL.r 1 rfl ?_
  refine WL.nil ?_
  refine WC.block ?_
  replace hS := hS.nil_ 77 2
  refine WC.loop [2, 3, 4, 5] (fun kM vs w => ∃ (p : Nat) (acc : Kvs) (ua : Option Addr) (uc : Nat), vs = [.slice none 0 0, .slice ua (List.length (en2 acc)) uc, .slice a1 (List.length (ev5 (hev minI maxI (List.map LsE.es LL) (List.length LL)))) c1, .int .i64 (p : Int)] ∧ St g (Own 77 2 (en2 acc) ua uc :: Own 84 5 (ev5 (hev minI maxI (List.map LsE.es LL) (List.length LL))) a1 c1 :: Sh 49 1 (enL LL) u d :: Shs leF ZZ :: L) w ∧ (p ≤ (hev minI maxI (List.map LsE.es LL) LL.length).length) ∧ (acc = fqA ((hev minI maxI (List.map LsE.es LL) LL.length).take p)) ∧ ((hev minI maxI (List.map LsE.es LL) LL.length).length - p) = kM) ((List.length (hev minI maxI (List.map LsE.es LL) (List.length LL))) - 0) ⟨0, [], none, 0, rfl, hS, (Nat.zero_le _), (rfl), rfl⟩ ?_
  clear hS; rintro _ _ w j ⟨p, acc, ua, uc, rfl, hS, hp, ha, rfl⟩
  refine WC.seq ?_
  refine WC.seq ?_
  refine WC.region ?_
  refine WL.r 4 rfl ?_
  refine WL.nil ?_
  as_aux_lemma =>
    refine WC.ifP rfl (fun cd1 => ?_) (fun cd1 => ?_)
    · refine WC.skip ?_
      refine WC.seq ?_
      refine WC.block ?_
      refine WC.seq ?_
      refine WC.region ?_
      obtain ⟨e, he⟩ : ∃ e, (hev minI maxI (List.map LsE.es LL) LL.length)[p]? = some e := ⟨_, List.getElem?_eq_getElem (by omega)⟩; obtain ⟨hs1, hb1, hl1⟩ := fqA_ok ((hev minI maxI (List.map LsE.es LL) LL.length).take p); rw [← ha] at hs1 hb1 hl1; rw [List.length_take] at hb1 hl1; have hb2 := lget_bnd hb1 e.2.2.1
      refine WL.r 3 rfl ?_
      refine WL.ix rfl rfl (i := (p : Int)) (p) el_85 rfl rfl (by omega) (by omega) (hS.rdO 1 rfl (ev5_at he)).1 ?_
      refine WL.run 3 [.int .i64 e.2.2.1] rfl (by exact (hS.rdO 1 rfl (ev5_at he)).2 2 _ rfl) ?_
      replace hS := (hS.at_ 0 rfl).share
      replace hS : St g (Sh 77 2 (en2 acc) ua uc :: Own 84 5 (ev5 (hev minI maxI (List.map LsE.es LL) (List.length LL))) a1 c1 :: Sh 49 1 (enL LL) u d :: Shs leF ZZ :: L) w := hS
      refine WL.call rfl rfl (ref_get (l := acc) (u := ua) (d := uc) (k := e.2.2.1) (hl := (by omega)) (hS := hS)) rfl ?_
      clear hS; rintro _ w ⟨rfl, hS⟩
      replace hS : St g (Sh 77 2 (en2 acc) ua uc :: Own 84 5 (ev5 (hev minI maxI (List.map LsE.es LL) (List.length LL))) a1 c1 :: Sh 49 1 (enL LL) u d :: Shs leF ZZ :: L) w := hS
      refine WL.r 5 rfl ?_
      refine WL.nil ?_
      refine WC.region ?_
      refine WL.r 3 rfl ?_
      refine WL.ix rfl rfl (i := (p : Int)) (p) el_85 rfl rfl (by omega) (by omega) (hS.rdO 1 rfl (ev5_at he)).1 ?_
      refine WL.run 5 [.int .i64 e.2.2.1] rfl (by exact (hS.rdO 1 rfl (ev5_at he)).2 2 _ rfl) ?_
      refine WL.nw 35 rfl (w64 (by omega)) ?_
      refine WL.build rfl rfl (cs := [.int .i64 e.2.2.1, .int .i64 (((lget e.2.2.1 acc).getD 0) + 1)]) zv_77 rfl rfl ?_
      refine WL.call rfl rfl (ref_ins (l := acc) (u := ua) (d := uc) (k := e.2.2.1) (z := ((lget e.2.2.1 acc).getD 0) + 1) (hs := hs1) (hl := (by omega)) (hS := hS)) rfl ?_
      clear hS; rintro _ w ⟨a2, c2, rfl, hS⟩
      replace hS : St g (Own 77 2 (en2 (lins e.2.2.1 (((lget e.2.2.1 acc).getD 0) + 1) acc)) a2 c2 :: Sh 77 2 (en2 acc) ua uc :: Own 84 5 (ev5 (hev minI maxI (List.map LsE.es LL) (List.length LL))) a1 c1 :: Sh 49 1 (enL LL) u d :: Shs leF ZZ :: L) w := hS
      refine WL.r 1 rfl ?_
      refine WL.nil ?_
      as_aux_lemma =>
        refine WC.region ?_
        refine WL.r 2 rfl ?_
        refine WL.nw 15 rfl (w64 (by omega)) ?_
        refine WL.r 1 rfl ?_
        refine WL.nil ?_
        exact ⟨_, by omega, p + 1, lins e.2.2.1 ((lget e.2.2.1 acc).getD 0 + 1) acc, a2, c2, rfl, (hS.sel 2 [0] rfl), (by omega), (by rw [fqA_step he, ← ha]; rfl), rfl⟩
    · refine WC.exit ?_
      refine WC.seq ?_
      refine WC.region ?_
      refine WL.r 2 rfl ?_
      refine WL.nil ?_
      refine WC.ret ?_
      refine ⟨[.slice ua (List.length (en2 acc)) uc], rfl, ?_⟩
      replace hS := (hS.sel 2 [0] rfl)
      have e9 : acc = fqA (hev minI maxI (List.map LsE.es LL) LL.length) := (by rw [ha, List.take_of_length_le (by omega)]); rw [e9] at hS ⊢; exact ⟨_, _, rfl, hS⟩
structure FE where
  k : Int
  v : Int
  b : Nat
def fK (x : FE) : Value × Value × Nat := (.int .i64 x.k, .int .i64 x.v, x.b)
theorem fK_look {xs : List FE} {q : Nat} {M : Kvs} (hP : POk fK FE.k FE.v xs q M) (k : Int) : ∃ r, mfind (.int .i64) (.int .i64 k) (xs.map fK) = some r ∧ lkV r (.int .i64 0) false = .int .i64 ((lget k M).getD 0) := by
  rcases ki_cases FE.k xs k with ⟨j, y, hj, hy⟩ | hn
  · refine ⟨some (j, (fK y).2.1), hy ▸ ki_in hP.k.key hP.k.uniq hj, ?_⟩
    have h := hP.get hj
    rw [hy] at h
    have h' : lget k M = some y.v := h
    rw [h']; rfl
  · refine ⟨none, ki_out hP.k.key hn, ?_⟩
    have h' : lget k M = none := hP.no hn
    rw [h']; rfl
set_option maxRecDepth 8192 in
theorem keysF_spec {g w : World} {L : List HP} (m : Nat) (hS : St g (L) w) :
    Sp Tryz.prog 106 [.map (some m)] w (fun v w' => ∃ (c : Nat), v = .func (.func 169) #[] #[.pointer (some ⟨c, 0, none⟩)] ∧ St g (cel c #[.map (some m)] 194 :: L) w') := by
  have h := callsIn_wide.1 (AnyZI.keys_in Tryz.keysC Fence.wide 5 trivial rfl (some m) w)
  refine ⟨⟨_, _, Tryz.func106, by kernel_rfl, rfl⟩, h.mono fun e w' ⟨he, hw⟩ => ⟨_, he, ?_⟩⟩
  subst hw
  exact ⟨_, rfl, hS.new _⟩
set_option maxRecDepth 8192 in
theorem sortedF_spec {g w : World} {L : List HP} (m c q : Nat) (rs : List FE) (ss : List Int) (ht : KOk fK FE.k rs q) (hp : ss.Perm (rs.map FE.k)) (hs : ss.Pairwise (· ≤ ·)) (hS : St g (cel c #[.map (some m)] 194 :: blk m (.map (mE (List.map fK rs)) q) :: L) w) :
    Sp Tryz.prog 102 [.func (.func 169) #[] #[.pointer (some ⟨c, 0, none⟩)]] w (fun v w' => ∃ (a2 : Option Addr) (c2 : Nat), v = .slice a2 (List.length (i64s ss)) c2 ∧ St g (Own 2 1 (i64s ss) a2 c2 :: cel c #[.map (some m)] 194 :: blk m (.map (mE (List.map fK rs)) q) :: L) w') := by
  have hc : w.cell? ⟨c, 0, none⟩ = some (.map (some m)) := hS.ld 0 rfl rfl
  have hcl : c < w.heap.size := by
    have h1 := hS.heap 0 rfl
    exact (Array.getElem?_eq_some_iff.1 h1).1
  have hm := hS.heap 1 rfl
  obtain ⟨D, hD, hsz, hk⟩ := keys_of (P := Tryz.prog) (k := 2) rs q ht Tryz.underlying2 hm
  have hseq := AnyZI.keys_gives (ρ := Tryz.keysC_ren) { Tryz.keysC with } Fence.wide 2 trivial rfl (by omega) c m 4096 D w hcl hc hD
  have h := callsIn_wide.1 (AnyZI.sorted_in Tryz.sortedL Fence.wide 5 trivial trivial trivial trivial rfl (by omega) (Tryz.sortsH _) (enters_of Tryz.func167 (by kernel_rfl) rfl) 169 #[.pointer (some ⟨c, 0, none⟩)] trivial (enters_of Tryz.func169 (by kernel_rfl) rfl) _ _ (by rw [hsz]; exact Nat.le_trans ht.num (by decide)) (by rw [hsz]; have := ht.num; omega) w hseq)
  refine ⟨⟨_, _, Tryz.func102, by kernel_rfl, rfl⟩, h.mono fun e w' ⟨v, ys, he, hys, hrow, _, hb⟩ => ⟨v, he, ?_⟩⟩
  have hpp : ss.Perm ys := hp.trans (hys.trans hk).symm
  obtain ⟨a, c2, rfl, hS2⟩ := St.of_row (i64s ss) hS hb hrow (by rw [sort_eqI hpp hs, i64s_flat]) (by simpa using hpp.length_eq) (i64s_ok ss)
  exact ⟨a, c2, rfl, hS2⟩
def fks (M : Kvs) : List Int := M.map fun x => x.1
set_option maxHeartbeats 1000000 in
set_option maxRecDepth 8192 in
theorem hi_freq {g w : World} {L : List HP} (a : Nat) (A : AM) (R : List Int) (Ls : List Kvs) (rs : List Int) (u : Option Addr) (d : Nat) (hA : ARf A R) (hT : RTs A Ls rs) (hL : LOk Ls) (hn : rs.length ≤ 20) (hS : St g (Arn a A :: Sh 64 1 (u32s rs) u d :: L) w) :
    Sp Tryz.prog 39 [.pointer (some ⟨a, 0, none⟩), .slice u (List.length (u32s rs)) d] w (fun v w' => ∃ (a2 : Option Addr) (c2 : Nat), v = .slice a2 (List.length (en2 (fqA (hev minI maxI Ls (List.length rs))))) c2 ∧ St g (Own 77 2 (en2 (fqA (hev minI maxI Ls (List.length rs)))) a2 c2 :: Arn a A :: Sh 64 1 (u32s rs) u d :: L) w') := by
  refine Sp.enter Tryz.func39 rfl (by kernel_rfl) (by kernel_rfl) ?_
  have _ := hn
  refine WC.seq ?_
  refine WC.region ?_
  refine WL.r 1 rfl ?_
  refine WL.nil ?_
  refine WC.seq ?_
  refine WC.region ?_
  refine WL.mkM rfl rfl hS (fun b1 w hS => ?_)
  refine WL.r 1 rfl ?_
  refine WL.nil ?_
  refine WC.seq ?_
  refine WC.seq ?_
  refine WC.region ?_
  have hel := hev_len (lo := minI) (hi := maxI) hL rs.length; have he5 := ev5_len (hev minI maxI Ls rs.length)
  refine WL.r 2 rfl ?_
  refine WL.call rfl rfl (hi_all (a := a) (A := A) (R := R) (Ls := Ls) (rs := rs) (u := u) (d := d) (hA := hA) (hT := hT) (hL := hL) (hn := (by omega)) (hS := (hS.sel 3 [1, 1, 0] rfl))) rfl ?_
  clear hS; rintro _ w ⟨a1, c1, rfl, hS⟩
  replace hS : St g (Own 84 5 (ev5 (hev minI maxI Ls (List.length rs))) a1 c1 :: Arn a A :: Sh 64 1 (u32s rs) u d :: blk b1 (.map (mE []) 0) :: L) w := hS
  refine WL.r 2 rfl ?_
  refine WL.nil ?_
  refine WC.block ?_
  refine WC.loop [4, 5, 14, 15, 16] (fun kM vs w => ∃ (p : Nat) (xs : List FE) (q : Nat), vs = [.slice none 0 0, .map (some b1), .slice a1 (List.length (ev5 (hev minI maxI Ls (List.length rs)))) c1, .int .i64 (List.length (ev5 (hev minI maxI Ls (List.length rs))) : Int), .int .i64 (p : Int)] ∧ St g (Own 84 5 (ev5 (hev minI maxI Ls (List.length rs))) a1 c1 :: Arn a A :: Sh 64 1 (u32s rs) u d :: blk b1 (.map (mE (List.map fK xs)) q) :: L) w ∧ (p ≤ (hev minI maxI Ls rs.length).length) ∧ (POk fK FE.k FE.v xs q (fqA ((hev minI maxI Ls rs.length).take p))) ∧ ((hev minI maxI Ls rs.length).length - p) = kM) ((List.length (hev minI maxI Ls (List.length rs))) - 0) ⟨0, [], 0, rfl, hS, (Nat.zero_le _), (POk.nil), rfl⟩ ?_
  clear hS; rintro _ _ w j ⟨p, xs, q, rfl, hS, hp, hP, rfl⟩
  refine WC.seq ?_
  refine WC.region ?_
  refine WL.r 1 rfl ?_
  refine WL.nil ?_
  as_aux_lemma =>
    refine WC.seq ?_
    refine WC.ifP rfl (fun cd1 => ?_) (fun cd1 => ?_)
    · refine WC.skip ?_
      refine WC.seq ?_
      refine WC.block ?_
      refine WC.seq ?_
      refine WC.region ?_
      obtain ⟨e, he⟩ : ∃ e, (hev minI maxI Ls rs.length)[p]? = some e := ⟨_, List.getElem?_eq_getElem (by omega)⟩; have hrg := ev_rng he; obtain ⟨hs1, hb1, hl1⟩ := fqA_ok ((hev minI maxI Ls rs.length).take p); rw [List.length_take] at hb1 hl1; have hb2 := lget_bnd hb1 e.2.2.1; obtain ⟨r, hr1, hr2⟩ := fK_look hP e.2.2.1
      refine WL.ix rfl rfl (i := (p : Int)) (p) el_85 rfl rfl (by omega) (by omega) (hS.rdO 0 rfl (ev5_at he)).1 ?_
      refine WL.ldC rfl rfl [.int .i64 e.1, .int .i64 e.2.1, .int .i64 e.2.2.1, .int .i64 e.2.2.2.1, .int .i64 e.2.2.2.2] ag_84 rfl (hS.rdO 0 rfl (ev5_at he)).2 ?_
      refine WL.new rfl rfl zv_84 hS (fun b2 w hS => ?_)
      refine WL.stF rfl rfl rfl 0 hS rfl rfl rfl rfl rfl ag_84 (fun w hS => ?_)
      replace hS : St g (cel b2 #[.int .i64 e.1, .int .i64 e.2.1, .int .i64 e.2.2.1, .int .i64 e.2.2.2.1, .int .i64 e.2.2.2.2] 84 :: Own 84 5 (ev5 (hev minI maxI Ls (List.length rs))) a1 c1 :: Arn a A :: Sh 64 1 (u32s rs) u d :: blk b1 (.map (mE (List.map fK xs)) q) :: L) w := hS
      refine WL.nil ?_
      refine WC.region ?_
      refine WL.run 4 [.int .i64 e.2.2.1] rfl (by exact hS.ld 0 rfl rfl) ?_
      refine WL.lk rfl rfl mt_194 4 hS rfl rfl rfl (by first | trivial | rfl) (r := r) hr1 hr2 ?_
      refine WL.r 1 rfl ?_
      refine WL.nw 25 rfl (w64 (by omega)) ?_
      refine WL.muP rfl rfl rfl mt_194 4 hS rfl rfl rfl rfl (hP) ((fun b => FE.mk e.2.2.1 ((lget e.2.2.1 (fqA (List.take p (hev minI maxI Ls rs.length)))).getD 0 + 1) b)) (fun _ => rfl) (fun _ => rfl) (((lget e.2.2.1 (fqA (List.take p (hev minI maxI Ls rs.length)))).getD 0 + 1)) (fun _ => rfl) hrg (by omega) (fun xs1 q1 w hP1 hS => ?_)
      replace hS : St g (cel b2 #[.int .i64 e.1, .int .i64 e.2.1, .int .i64 e.2.2.1, .int .i64 e.2.2.2.1, .int .i64 e.2.2.2.2] 84 :: Own 84 5 (ev5 (hev minI maxI Ls (List.length rs))) a1 c1 :: Arn a A :: Sh 64 1 (u32s rs) u d :: blk b1 (.map (mE (List.map fK xs1)) q1) :: L) w := hS
      refine WL.nil ?_
      refine WC.region ?_
      refine WL.r 1 rfl ?_
      refine WL.nw 26 rfl (w64 (by omega)) ?_
      refine WL.r 1 rfl ?_
      refine WL.nil ?_
      exact ⟨_, by omega, p + 1, xs1, q1, rfl, (hS.sel 1 [] rfl), (by omega), (by rw [fqA_step he]; exact hP1), rfl⟩
    · refine WC.exit ?_
      refine WC.seq ?_
      refine WC.region ?_
      have hpe : p = (hev minI maxI Ls rs.length).length := (by omega); have hP9 := hP; rw [hpe, List.take_length] at hP9; obtain ⟨hk1, hk3⟩ := hP9.keys; have hlen9 := hP9.len; have hnum9 := hP9.k.num
      refine WL.r 1 rfl ?_
      refine WL.nil ?_
      refine WC.seq ?_
      refine WC.seq ?_
      refine WC.region ?_
      have hsl := i64s_len (fks (fqA (hev minI maxI Ls rs.length))); have hwl : (fks (fqA (hev minI maxI Ls rs.length))).length = (fqA (hev minI maxI Ls rs.length)).length := List.length_map ..
      refine WL.r 1 rfl ?_
      refine WL.call rfl rfl (keysF_spec (m := b1)  (hS := hS)) rfl ?_
      clear hS; rintro _ w ⟨c2, rfl, hS⟩
      replace hS : St g (cel c2 #[.map (some b1)] 194 :: Own 84 5 (ev5 (hev minI maxI Ls (List.length rs))) a1 c1 :: Arn a A :: Sh 64 1 (u32s rs) u d :: blk b1 (.map (mE (List.map fK xs)) q) :: L) w := hS
      refine WL.call rfl rfl (sortedF_spec (m := b1) (c := c2) (q := q) (rs := xs) (ss := fks (fqA (hev minI maxI Ls (List.length rs)))) (ht := hP.k) (hp := hk1) (hs := hk3) (hS := (hS.sel 5 [0, 3, 0, 0, 0] rfl))) rfl ?_
      clear hS; rintro _ w ⟨a2, c3, rfl, hS⟩
      replace hS : St g (Own 2 1 (i64s (fks (fqA (hev minI maxI Ls (List.length rs))))) a2 c3 :: cel c2 #[.map (some b1)] 194 :: blk b1 (.map (mE (List.map fK xs)) q) :: Own 84 5 (ev5 (hev minI maxI Ls (List.length rs))) a1 c1 :: Arn a A :: Sh 64 1 (u32s rs) u d :: L) w := hS
      refine WL.r 2 rfl ?_
      refine WL.nil ?_
      refine WC.block ?_
      replace hS := hS.nil_ 77 2
      refine WC.loop [4, 5, 8, 29, 30, 31] (fun kM vs w => ∃ (k : Nat) (acc : Kvs) (ub : Option Addr) (ud : Nat), vs = [.slice none 0 0, .map (some b1), .slice ub (List.length (en2 acc)) ud, .slice a2 (List.length (i64s (fks (fqA (hev minI maxI Ls (List.length rs)))))) c3, .int .i64 (List.length (i64s (fks (fqA (hev minI maxI Ls (List.length rs))))) : Int), .int .i64 (k : Int)] ∧ St g (Own 77 2 (en2 acc) ub ud :: Own 2 1 (i64s (fks (fqA (hev minI maxI Ls (List.length rs))))) a2 c3 :: cel c2 #[.map (some b1)] 194 :: blk b1 (.map (mE (List.map fK xs)) q) :: Own 84 5 (ev5 (hev minI maxI Ls (List.length rs))) a1 c1 :: Arn a A :: Sh 64 1 (u32s rs) u d :: L) w ∧ (k ≤ (fqA (hev minI maxI Ls rs.length)).length) ∧ (acc = (fqA (hev minI maxI Ls rs.length)).take k) ∧ ((fqA (hev minI maxI Ls rs.length)).length - k) = kM) ((List.length (fqA (hev minI maxI Ls (List.length rs)))) - 0) ⟨0, [], none, 0, rfl, hS, (Nat.zero_le _), (rfl), rfl⟩ ?_
      clear hS; rintro _ _ w j ⟨k, acc, ub, ud, rfl, hS, hk, ha, rfl⟩
      refine WC.seq ?_
      refine WC.region ?_
      refine WL.r 1 rfl ?_
      refine WL.nil ?_
      as_aux_lemma =>
        refine WC.seq ?_
        refine WC.ifP rfl (fun cd2 => ?_) (fun cd2 => ?_)
        · refine WC.skip ?_
          refine WC.seq ?_
          refine WC.block ?_
          refine WC.seq ?_
          refine WC.region ?_
          obtain ⟨y, hy⟩ : ∃ y, (fqA (hev minI maxI Ls rs.length))[k]? = some y := ⟨_, List.getElem?_eq_getElem (by omega)⟩; have hz : (fks (fqA (hev minI maxI Ls rs.length)))[k]? = some y.1 := (by unfold fks; rw [List.getElem?_map, hy]; rfl); obtain ⟨jx, x, hj, hx1, hx2⟩ := hP9.nth hy; have hyo : y = (x.k, x.v) := (Prod.ext hx1.symm hx2.symm); have hal : acc.length ≤ 4096 := (by rw [ha, List.length_take]; omega); have hoa := en2_len acc
          refine WL.ix rfl rfl (i := (k : Int)) (k) el_109 rfl rfl (by omega) (by omega) (hS.rdO 1 rfl (i64s_at hz)).1 ?_
          refine WL.run 2 [.int .i64 y.1] rfl (by exact (hS.rdO 1 rfl (i64s_at hz)).2 0 _ rfl) ?_
          refine WL.nil ?_
          refine WC.region ?_
          refine WL.r 4 rfl ?_
          refine WL.lk rfl rfl mt_194 3 hS rfl rfl rfl (by first | trivial | rfl) (r := some (jx, .int .i64 x.v)) (hx1 ▸ ki_in (f := fK) (n := FE.k) hP.k.key hP.k.uniq hj) rfl ?_
          refine WL.build rfl rfl (cs := [.int .i64 y.1, .int .i64 x.v]) zv_77 rfl rfl ?_
          refine WL.lit rfl rfl (en2 [(y.1, x.v)]) el_49 hS (by exact ⟨rfl, rfl⟩) (en2_ok _) rfl (by decide) (fun b2 w hS => ?_)
          refine WL.app rfl rfl 1 (en2 (acc ++ [(y.1, x.v)])) el_49 hS rfl (hS.srcO 0 rfl) (en2_app _ _).symm (Rm.of (by first | omega | (simp <;> omega)) (by decide)) rfl rfl (fun a3 c4 w hS => ?_)
          replace hS : St g (Own 77 2 (en2 [(y.1, x.v)]) (some ⟨b2, 0, none⟩) (List.length (en2 [(y.1, x.v)])) :: Own 77 2 (en2 (acc ++ [(y.1, x.v)])) a3 c4 :: Own 2 1 (i64s (fks (fqA (hev minI maxI Ls (List.length rs))))) a2 c3 :: cel c2 #[.map (some b1)] 194 :: blk b1 (.map (mE (List.map fK xs)) q) :: Own 84 5 (ev5 (hev minI maxI Ls (List.length rs))) a1 c1 :: Arn a A :: Sh 64 1 (u32s rs) u d :: L) w := hS
          refine WL.r 1 rfl ?_
          refine WL.nil ?_
          refine WC.region ?_
          refine WL.r 1 rfl ?_
          refine WL.nw 43 rfl (w64 (by omega)) ?_
          refine WL.r 1 rfl ?_
          refine WL.nil ?_
          exact ⟨_, by omega, k + 1, acc ++ [(y.1, x.v)], a3, c4, rfl, (hS.sel 1 [] rfl), (by omega), (by rw [List.take_add_one, hy, ha, hyo]; rfl), rfl⟩
        · refine WC.exit ?_
          refine WC.seq ?_
          refine WC.region ?_
          refine WL.r 2 rfl ?_
          refine WL.nil ?_
          refine WC.ret ?_
          refine ⟨[.slice ub (List.length (en2 acc)) ud], rfl, ?_⟩
          replace hS := (hS.sel 5 [0] rfl)
          have e9 : acc = fqA (hev minI maxI Ls rs.length) := (by rw [ha, List.take_of_length_le (by omega)]); rw [e9] at hS ⊢; exact ⟨_, _, rfl, hS⟩
end Go.Proofs.YtlnlnebibgdjdaaGreat
/-! ## E8 -/
namespace Go.Proofs.YtlnlnebibgdjdaaGreat
open Go Go.V Go.RowKit
theorem rts_take {A : AM} {LL : List LsE} {rs : List Int} (h : RTs A (LL.map LsE.es) rs) (k : Nat) : RTs A ((LL.take k).map LsE.es) (rs.take k) := by
  refine ⟨by have := h.len; rw [List.length_map] at this; rw [List.length_map, List.length_take, List.length_take, this], fun i r hr => ?_⟩
  rw [List.getElem?_take] at hr
  split at hr
  · rename_i hik
    obtain ⟨t, h1, h2, h3⟩ := h.get _ r hr
    refine ⟨t, h1, h2, h3.trans ?_⟩
    unfold lsA
    rw [List.getD_eq_getElem?_getD, List.getD_eq_getElem?_getD, List.map_take, List.getElem?_take, if_pos hik]
  · cases hr
theorem lok_take {LL : List LsE} (h : LOk (LL.map LsE.es)) (k : Nat) : LOk ((LL.take k).map LsE.es) := by
  rw [List.map_take]; exact fun l hl => h l (List.mem_of_mem_take hl)
theorem enL_take (l : List LsE) (k : Nat) : (enL l).take k = enL (l.take k) := by simp [enL]
set_option maxRecDepth 8192 in
theorem sameEE {g w : World} {L : List HP} (xs ys : Kvs) (a b : Option Addr) (c d : Nat) (he : xs = ys) (hl : xs.length ≤ 1000000000) (hS : St g (Sh 77 2 (en2 xs) a c :: Sh 77 2 (en2 ys) b d :: L) w) :
    Sp Tryz.prog 38 [.slice a (List.length (en2 xs)) c, .slice b (List.length (en2 ys)) d] w (fun v w' => v = .bool true ∧ St g (Sh 77 2 (en2 xs) a c :: Sh 77 2 (en2 ys) b d :: L) w') := by
  refine Sp.enter Tryz.func38 rfl (by kernel_rfl) (by kernel_rfl) ?_
  have _ := hl
  refine WC.seq ?_
  refine WC.region ?_
  refine WL.r 1 rfl ?_
  refine WL.nil ?_
  refine WC.seq ?_
  refine WC.seq ?_
  refine WC.region ?_
  subst he; have hxl := en2_len xs
  refine WL.r 5 rfl ?_
  refine WL.nil ?_
  refine WC.ifF rfl (decide_eq_false ((fun h => h rfl))) ?_
  refine WC.skip ?_
  refine WC.seq ?_
  refine WC.seq ?_
  refine WC.region ?_
  refine WL.r 1 rfl ?_
  refine WL.nil ?_
  refine WC.block ?_
  refine WC.loop [0, 1, 5] (fun kM vs w => ∃ (k : Nat), vs = [.slice a (List.length (en2 xs)) c, .slice b (List.length (en2 xs)) d, .int .i64 (k : Int)] ∧ St g (Sh 77 2 (en2 xs) a c :: Sh 77 2 (en2 xs) b d :: L) w ∧ (k ≤ xs.length) ∧ (xs.length - k) = kM) ((List.length xs) - 0) ⟨0, rfl, hS, (Nat.zero_le _), rfl⟩ ?_
  clear hS; rintro _ _ w j ⟨k, rfl, hS, hk, rfl⟩
  refine WC.seq ?_
  refine WC.seq ?_
  refine WC.region ?_
  refine WL.r 4 rfl ?_
  refine WL.nil ?_
  as_aux_lemma =>
    refine WC.ifP rfl (fun cd1 => ?_) (fun cd1 => ?_)
    · refine WC.skip ?_
      refine WC.seq ?_
      refine WC.block ?_
      refine WC.seq ?_
      refine WC.plan [([0, 1, 4, 5, 2, 6, 3, 7, 8], none)] (by kernel_rfl) (by kernel_rfl) ?_
      refine WQ.r 4 rfl ?_
      obtain ⟨x, hx⟩ : ∃ x, xs[k]? = some x := ⟨_, List.getElem?_eq_getElem (by omega)⟩
      refine WQ.ix rfl rfl (i := (k : Int)) (k) el_49 rfl rfl (by omega) (len_of (en2_at hx)) (hS.rdS 0 rfl (en2_at hx)).1 ?_
      refine WQ.ix rfl rfl (i := (k : Int)) (k) el_49 rfl rfl (by omega) (len_of (en2_at hx)) (hS.rdS 1 rfl (en2_at hx)).1 ?_
      refine WQ.ldC rfl rfl [.int .i64 x.1, .int .i64 x.2] ag_77 rfl (hS.rdS 0 rfl (en2_at hx)).2 ?_
      refine WQ.ldC rfl rfl [.int .i64 x.1, .int .i64 x.2] ag_77 rfl (hS.rdS 1 rfl (en2_at hx)).2 ?_
      refine WQ.neS rfl rfl eq_77 (xs := [.int .i64 x.1, .int .i64 x.2]) (ys := [.int .i64 x.1, .int .i64 x.2]) rfl rfl rfl rfl ?_
      refine WQ.prop 25 rfl (bnot (band (dd _) (dd _))) ?_
      refine WQ.nil ?_
      intro m1
      replace hS := hS.drewN m1; generalize hwm1 : World.drewN _ _ = w at *; clear hwm1
      refine WC.ifF rfl (decide_eq_false ((fun h => h ⟨rfl, rfl⟩))) ?_
      refine WC.skip ?_
      refine WC.region ?_
      refine WL.r 2 rfl ?_
      refine WL.nw 16 rfl (w64 (by omega)) ?_
      refine WL.r 1 rfl ?_
      refine WL.nil ?_
      exact ⟨_, by omega, k + 1, rfl, hS, (by omega), rfl⟩
    · refine WC.exit ?_
      refine WC.seq ?_
      refine WC.region ?_
      refine WL.r 1 rfl ?_
      refine WL.nil ?_
      refine WC.ret ?_
      refine ⟨[.bool true], rfl, ?_⟩
      exact ⟨rfl, hS⟩
set_option maxHeartbeats 4000000 in
set_option maxRecDepth 8192 in
theorem law_hor {g w : World} {L : List HP} (raw : Kvs) (u : Option Addr) (d : Nat) (q : Int) (S : List Chg) (us : Option Addr) (ds : Nat) (ek ev at_ : Int) (hq : 0 ≤ q ∧ q ≤ 18446744073709551615) (hraw : kvR raw) (hS0 : stR S) (hSl : S.length ≤ 9223372036854775807) (hfr : Ir at_) (hS : St g (Sh 77 2 (en2 raw) u d :: Sh 79 4 (ch4 S) us ds :: L) w) :
    Sp Tryz.prog 7 [.slice u (List.length (en2 raw)) d, .int .u64 q, .slice us (List.length (ch4 S)) ds, .agg #[.int .i64 ek, .int .i64 ev], .int .i64 at_] w (fun v w' => v = .bool true ∧ St g (L) w') := by
  refine Sp.enter Tryz.func7 rfl (by kernel_rfl) (by kernel_rfl) ?_
  refine WC.seq ?_
  refine WC.region ?_
  refine WL.box rfl rfl #[.int .i64 ek, .int .i64 ev] hS rfl rfl (fun b1 w hS => ?_)
  refine WL.r 1 rfl ?_
  refine WL.nil ?_
  refine WC.seq ?_
  refine WC.region ?_
  replace hS : St g (Sh 79 4 (ch4 S) us ds :: cel b1 #[.int .i64 ek, .int .i64 ev] 77 :: Sh 77 2 (en2 raw) u d :: Sh 79 4 (ch4 S) us ds :: L) w := hS.dup 2 rfl fun _ _ h => Sh.dup h
  refine WL.r 3 rfl ?_
  refine WL.call rfl rfl (kt_chain (raw := raw) (u := u) (d := d) (q := q) (S := S) (us := us) (ds := ds) (hq := hq) (hraw := hraw) (hS0 := hS0) (hSl := hSl) (hS := (hS.sel 3 [2, 0, 0] rfl))) rfl ?_
  clear hS; rintro _ w ⟨a1, A1, R1, rs1, ru1, rc1, LL1, lu1, lc1, rfl, hS, f1, f2, f3, f4⟩
  replace hS : St g (Arn a1 A1 :: Own 64 1 (u32s rs1) ru1 rc1 :: Own 49 1 (enL LL1) lu1 lc1 :: Shs leF LL1 :: cel b1 #[.int .i64 ek, .int .i64 ev] 77 :: Sh 79 4 (ch4 S) us ds :: L) w := hS
  refine WL.r 9 rfl ?_
  refine WL.nil ?_
  refine WC.seq ?_
  refine WC.seq ?_
  refine WC.region ?_
  refine WL.call rfl rfl (awake27_spec   (hS := hS)) rfl ?_
  clear hS; rintro _ w ⟨rfl, hS⟩
  replace hS : St g (Arn a1 A1 :: Own 64 1 (u32s rs1) ru1 rc1 :: Own 49 1 (enL LL1) lu1 lc1 :: Shs leF LL1 :: cel b1 #[.int .i64 ek, .int .i64 ev] 77 :: Sh 79 4 (ch4 S) us ds :: L) w := hS
  refine WL.r 2 rfl ?_
  refine WL.ung rfl rfl rfl ?_
  refine WL.r 1 rfl ?_
  refine WL.ung rfl rfl rfl ?_
  refine WL.r 2 rfl ?_
  refine WL.nil ?_
  as_aux_lemma =>
    refine WC.ifF rfl rfl ?_
    refine WC.skip ?_
    refine WC.seq ?_
    refine WC.region ?_
    have hul := u32s_len rs1; have hcl := ch4_len S
    refine WL.r 1 rfl ?_
    refine WL.call rfl rfl (ar_dump (a := a1) (A := A1) (hA := f1.toAWf) (hS := hS)) rfl ?_
    clear hS; rintro _ w ⟨a2, c1, a3, c2, rfl, hS⟩
    replace hS : St g (Own 167 11 (sls (AM.dmp A1)) a2 c1 :: Own 64 1 (u32s (SM.order A1.s)) a3 c2 :: Arn a1 A1 :: Own 64 1 (u32s rs1) ru1 rc1 :: Own 49 1 (enL LL1) lu1 lc1 :: Shs leF LL1 :: cel b1 #[.int .i64 ek, .int .i64 ev] 77 :: Sh 79 4 (ch4 S) us ds :: L) w := hS
    refine WL.r 4 rfl ?_
    refine WL.nw 37 rfl (w64 (by omega)) ?_
    refine WL.call rfl rfl (md_spec (k := at_) (n := (List.length (u32s rs1) : Int) + 1) (hk := hfr) (hn := (by omega)) (hS := hS)) rfl ?_
    clear hS; rintro _ w ⟨rfl, hS⟩
    replace hS : St g (Own 167 11 (sls (AM.dmp A1)) a2 c1 :: Own 64 1 (u32s (SM.order A1.s)) a3 c2 :: Arn a1 A1 :: Own 64 1 (u32s rs1) ru1 rc1 :: Own 49 1 (enL LL1) lu1 lc1 :: Shs leF LL1 :: cel b1 #[.int .i64 ek, .int .i64 ev] 77 :: Sh 79 4 (ch4 S) us ds :: L) w := hS
    refine WL.new rfl rfl zv_62 hS (fun b2 w hS => ?_)
    refine WL.stF rfl rfl rfl 0 hS rfl rfl rfl rfl rfl ag_62 (fun w hS => ?_)
    replace hS : St g (cel b2 #[.slice a2 (List.length (sls (AM.dmp A1))) c1, .slice a3 (List.length (u32s (SM.order A1.s))) c2] 62 :: Own 167 11 (sls (AM.dmp A1)) a2 c1 :: Own 64 1 (u32s (SM.order A1.s)) a3 c2 :: Arn a1 A1 :: Own 64 1 (u32s rs1) ru1 rc1 :: Own 49 1 (enL LL1) lu1 lc1 :: Shs leF LL1 :: cel b1 #[.int .i64 ek, .int .i64 ev] 77 :: Sh 79 4 (ch4 S) us ds :: L) w := hS
    refine WL.r 1 rfl ?_
    refine WL.nil ?_
    refine WC.seq ?_
    refine WC.seq ?_
    refine WC.region ?_
    refine WL.r 3 rfl ?_
    refine WL.rG 5 rfl (fun j => ?_)
    refine WL.prop 46 rfl (band (dd _) (dd _)) ?_
    refine WL.nil ?_
    as_aux_lemma =>
      refine WC.cut [8, 10, 11, 12, 13, 15, 16] (fun vs w => ∃ (k2 v2 : Int), vs = [.pointer (some ⟨b1, 0, none⟩), .bool false, .pointer (some ⟨a1, 0, none⟩), .slice ru1 (List.length (u32s rs1)) rc1, .slice lu1 (List.length (enL LL1)) lc1, .pointer (some ⟨b2, 0, none⟩), .int .i64 (at_ % ((List.length (u32s rs1) : Int) + 1))] ∧ St g (cel b2 #[.slice a2 (List.length (sls (AM.dmp A1))) c1, .slice a3 (List.length (u32s (SM.order A1.s))) c2] 62 :: Own 167 11 (sls (AM.dmp A1)) a2 c1 :: Own 64 1 (u32s (SM.order A1.s)) a3 c2 :: Arn a1 A1 :: Own 64 1 (u32s rs1) ru1 rc1 :: Own 49 1 (enL LL1) lu1 lc1 :: Shs leF LL1 :: cel b1 #[.int .i64 k2, .int .i64 v2] 77 :: Sh 79 4 (ch4 S) us ds :: L) w) ?_ ?_
      · refine WC.ifP rfl (fun cd1 => ?_) (fun cd1 => ?_)
        · refine WC.region ?_
          have hb1 := Int.emod_nonneg at_ (b := ((ch4 S).length : Int)) (by omega); have hb2 := Int.emod_lt_of_pos at_ (b := ((ch4 S).length : Int)) (by omega); obtain ⟨s, hs⟩ : ∃ s, S[(at_ % ((ch4 S).length : Int)).toNat]? = some s := ⟨_, List.getElem?_eq_getElem (by omega)⟩
          refine WL.r 4 rfl ?_
          refine WL.call rfl rfl (md_spec (k := at_) (n := (List.length (ch4 S) : Int)) (hk := hfr) (hn := (by omega)) (hS := hS)) rfl ?_
          clear hS; rintro _ w ⟨rfl, hS⟩
          replace hS : St g (cel b2 #[.slice a2 (List.length (sls (AM.dmp A1))) c1, .slice a3 (List.length (u32s (SM.order A1.s))) c2] 62 :: Own 167 11 (sls (AM.dmp A1)) a2 c1 :: Own 64 1 (u32s (SM.order A1.s)) a3 c2 :: Arn a1 A1 :: Own 64 1 (u32s rs1) ru1 rc1 :: Own 49 1 (enL LL1) lu1 lc1 :: Shs leF LL1 :: cel b1 #[.int .i64 ek, .int .i64 ev] 77 :: Sh 79 4 (ch4 S) us ds :: L) w := hS
          refine WL.ix rfl rfl (i := at_ % (List.length (ch4 S) : Int)) ((at_ % ((ch4 S).length : Int)).toNat) el_73 rfl rfl (by omega) (by omega) (hS.rdS 8 rfl (ch4_at hs)).1 ?_
          refine WL.r 1 rfl ?_
          refine WL.ldC rfl rfl [.int .i64 s.2.1, .int .i64 s.2.2.1] ag_77 rfl (RdE.sub (hS.rdS 8 rfl (ch4_at hs)).2 1 [.int .i64 s.2.1, .int .i64 s.2.2.1] rfl) ?_
          refine WL.stF rfl rfl rfl 7 hS rfl rfl rfl rfl rfl ag_77 (fun w hS => ?_)
          replace hS : St g (cel b2 #[.slice a2 (List.length (sls (AM.dmp A1))) c1, .slice a3 (List.length (u32s (SM.order A1.s))) c2] 62 :: Own 167 11 (sls (AM.dmp A1)) a2 c1 :: Own 64 1 (u32s (SM.order A1.s)) a3 c2 :: Arn a1 A1 :: Own 64 1 (u32s rs1) ru1 rc1 :: Own 49 1 (enL LL1) lu1 lc1 :: Shs leF LL1 :: cel b1 #[.int .i64 s.2.1, .int .i64 s.2.2.1] 77 :: Sh 79 4 (ch4 S) us ds :: L) w := hS
          refine WL.nil ?_
          exact ⟨s.2.1, s.2.2.1, rfl, hS⟩
        · refine WC.skip ?_
          exact ⟨ek, ev, rfl, hS⟩
      clear hS; rintro _ w j ⟨k2, v2, rfl, hS⟩
      refine WC.seq ?_
      refine WC.plan [([0, 1, 2, 5, 6, 3, 7], some (4, [5, 6, 7])), ([], some (8, [])), ([], some (9, [])), ([10, 11, 12, 13, 15, 17, 18, 20, 14, 19], some (16, [17, 18, 19, 20])), ([], some (21, [])), ([22, 23, 24, 25, 26, 27, 30, 31, 28, 32], some (29, [30, 31, 32])), ([], some (33, [])), ([], some (34, [])), ([35, 36, 37, 39], some (38, [39])), ([], some (40, [])), ([41, 42], none)] (by kernel_rfl) (by kernel_rfl) ?_
      obtain ⟨n, hn⟩ : ∃ n : Nat, at_ % ((List.length (u32s rs1) : Int) + 1) = (n : Int) := ⟨(at_ % ((List.length (u32s rs1) : Int) + 1)).toNat, by have := Int.emod_nonneg at_ (b := (List.length (u32s rs1) : Int) + 1) (by omega); omega⟩; have hn2 := Int.emod_lt_of_pos at_ (b := (List.length (u32s rs1) : Int) + 1) (by omega); have hLl : LL1.length = rs1.length := (by have := f2.len; rw [List.length_map] at this; exact this); have hnl := enL_len LL1; have hT := rts_take f2 n; have hK := lok_take f3 n; have hdr : (rs1.take n).length ≤ 20 := (by rw [List.length_take]; omega); have hdl : (LL1.take n).length ≤ 20 := (by rw [List.length_take]; omega); have hde : (rs1.take n).length = (LL1.take n).length := (by rw [List.length_take, List.length_take]; omega); have hsub : ∀ x ∈ LL1.take n, x ∈ LL1 := (fun x hx => List.mem_of_mem_take hx); have hle := hev_len (lo := minI) (hi := maxI) hK (rs1.take n).length; have hll := oAll_len hK (rs1.take n).length (hev minI maxI ((LL1.take n).map LsE.es) (rs1.take n).length).length; rw [List.take_length] at hll; have hfq := (fqA_ok (hev minI maxI ((LL1.take n).map LsE.es) (rs1.take n).length)).2.2; have hw := f1.toAWf; have hsm := AM.dmp_len A1; have hcp : A1.s.cap = (A1.s.used.length : Int) - 1 := rfl; have hce := hw.s.cap
      replace hS := (hS.at_ 4 rfl).share
      replace hS : St g (Sh 64 1 (u32s rs1) ru1 rc1 :: cel b2 #[.slice a2 (List.length (sls (AM.dmp A1))) c1, .slice a3 (List.length (u32s (SM.order A1.s))) c2] 62 :: Own 167 11 (sls (AM.dmp A1)) a2 c1 :: Own 64 1 (u32s (SM.order A1.s)) a3 c2 :: Arn a1 A1 :: Own 49 1 (enL LL1) lu1 lc1 :: Shs leF LL1 :: cel b1 #[.int .i64 k2, .int .i64 v2] 77 :: Sh 79 4 (ch4 S) us ds :: L) w := hS
      replace hS := (hS.at_ 5 rfl).share
      replace hS : St g (Sh 49 1 (enL LL1) lu1 lc1 :: Sh 64 1 (u32s rs1) ru1 rc1 :: cel b2 #[.slice a2 (List.length (sls (AM.dmp A1))) c1, .slice a3 (List.length (u32s (SM.order A1.s))) c2] 62 :: Own 167 11 (sls (AM.dmp A1)) a2 c1 :: Own 64 1 (u32s (SM.order A1.s)) a3 c2 :: Arn a1 A1 :: Shs leF LL1 :: cel b1 #[.int .i64 k2, .int .i64 v2] 77 :: Sh 79 4 (ch4 S) us ds :: L) w := hS
      refine WQ.r 5 rfl ?_
      refine WQ.slHi rfl rfl (v := at_ % ((List.length (u32s rs1) : Int) + 1)) 1 (n) (u32s (rs1.take n)) el_32 hS rfl rfl rfl (by omega) (by omega) (u32s_take rs1 n) (fun a4 qa4 hS => ?_)
      replace hS : St g (Sh 64 1 (u32s (rs1.take n)) a4 rc1 :: Sh 49 1 (enL LL1) lu1 lc1 :: Sh 64 1 (u32s rs1) ru1 rc1 :: cel b2 #[.slice a2 (List.length (sls (AM.dmp A1))) c1, .slice a3 (List.length (u32s (SM.order A1.s))) c2] 62 :: Own 167 11 (sls (AM.dmp A1)) a2 c1 :: Own 64 1 (u32s (SM.order A1.s)) a3 c2 :: Arn a1 A1 :: Shs leF LL1 :: cel b1 #[.int .i64 k2, .int .i64 v2] 77 :: Sh 79 4 (ch4 S) us ds :: L) w := hS
      refine WQ.slHi rfl rfl (v := at_ % ((List.length (u32s rs1) : Int) + 1)) 1 (n) (enL (LL1.take n)) el_41 hS rfl rfl rfl (by omega) (by omega) (enL_take LL1 n) (fun a5 qa5 hS => ?_)
      replace hS : St g (Sh 49 1 (enL (LL1.take n)) a5 lc1 :: Sh 64 1 (u32s (rs1.take n)) a4 rc1 :: Sh 49 1 (enL LL1) lu1 lc1 :: Sh 64 1 (u32s rs1) ru1 rc1 :: cel b2 #[.slice a2 (List.length (sls (AM.dmp A1))) c1, .slice a3 (List.length (u32s (SM.order A1.s))) c2] 62 :: Own 167 11 (sls (AM.dmp A1)) a2 c1 :: Own 64 1 (u32s (SM.order A1.s)) a3 c2 :: Arn a1 A1 :: Shs leF LL1 :: cel b1 #[.int .i64 k2, .int .i64 v2] 77 :: Sh 79 4 (ch4 S) us ds :: L) w := hS
      refine WQ.nil ?_
      intro m1
      replace hS := hS.drewN m1; generalize hwm1 : World.drewN _ _ = w at *; clear hwm1
      refine WL.call rfl rfl (hi_orig (a := a1) (A := A1) (R := R1) (Ls := (LL1.take n).map LsE.es) (rs := rs1.take n) (u := a4) (d := rc1) (hA := f1) (hT := hT) (hL := hK) (hn := hdr) (hS := (hS.sel 8 [7, 1, 0, 0, 0, 0, 0, 0] rfl))) rfl ?_
      clear hS; rintro _ w ⟨a6, c3, rfl, hS⟩
      replace hS : St g (Own 93 3 (or3 (oAll (hev minI maxI ((LL1.take n).map LsE.es) (List.length (rs1.take n))))) a6 c3 :: Arn a1 A1 :: Sh 64 1 (u32s (rs1.take n)) a4 rc1 :: Sh 49 1 (enL (LL1.take n)) a5 lc1 :: Sh 49 1 (enL LL1) lu1 lc1 :: Sh 64 1 (u32s rs1) ru1 rc1 :: cel b2 #[.slice a2 (List.length (sls (AM.dmp A1))) c1, .slice a3 (List.length (u32s (SM.order A1.s))) c2] 62 :: Own 167 11 (sls (AM.dmp A1)) a2 c1 :: Own 64 1 (u32s (SM.order A1.s)) a3 c2 :: Shs leF LL1 :: cel b1 #[.int .i64 k2, .int .i64 v2] 77 :: Sh 79 4 (ch4 S) us ds :: L) w := hS
      refine WL.nil ?_
      refine ⟨by exact ⟨RQ.pure rfl rfl rfl rfl, RQ.pure rfl rfl rfl rfl, RQ.slHi rfl rfl (v := at_ % ((List.length (u32s rs1) : Int) + 1)) 4 (n) el_41 hS rfl rfl rfl (by omega) (by omega) (enL_take LL1 n) qa5 rfl rfl⟩, ?_⟩
      refine WQ.nil ?_
      intro m2
      replace hS := hS.drewN m2; generalize hwm2 : World.drewN _ _ = w at *; clear hwm2
      refine WL.call rfl rfl (r27_orig (LL := LL1.take n) (ZZ := LL1) (u := a5) (d := lc1) (hL := hK) (hsub := hsub) (hn := (by omega)) (hS := (hS.sel 10 [3, 8, 0, 0, 0, 0, 0, 0, 0, 0] rfl))) rfl ?_
      clear hS; rintro _ w ⟨a7, c4, rfl, hS⟩
      replace hS : St g (Own 93 3 (or3 (refO (List.map LsE.es (LL1.take n)) (List.length (LL1.take n)))) a7 c4 :: Sh 49 1 (enL (LL1.take n)) a5 lc1 :: Shs leF LL1 :: Own 93 3 (or3 (oAll (hev minI maxI ((LL1.take n).map LsE.es) (List.length (rs1.take n))))) a6 c3 :: Arn a1 A1 :: Sh 64 1 (u32s (rs1.take n)) a4 rc1 :: Sh 49 1 (enL LL1) lu1 lc1 :: Sh 64 1 (u32s rs1) ru1 rc1 :: cel b2 #[.slice a2 (List.length (sls (AM.dmp A1))) c1, .slice a3 (List.length (u32s (SM.order A1.s))) c2] 62 :: Own 167 11 (sls (AM.dmp A1)) a2 c1 :: Own 64 1 (u32s (SM.order A1.s)) a3 c2 :: cel b1 #[.int .i64 k2, .int .i64 v2] 77 :: Sh 79 4 (ch4 S) us ds :: L) w := hS
      refine WL.nil ?_
      refine ⟨by exact trivial, ?_⟩
      refine WQ.nil ?_
      intro m3
      replace hS := hS.drewN m3; generalize hwm3 : World.drewN _ _ = w at *; clear hwm3
      replace hS := (hS.at_ 3 rfl).share
      replace hS : St g (Sh 93 3 (or3 (oAll (hev minI maxI ((LL1.take n).map LsE.es) (List.length (rs1.take n))))) a6 c3 :: Own 93 3 (or3 (refO (List.map LsE.es (LL1.take n)) (List.length (LL1.take n)))) a7 c4 :: Sh 49 1 (enL (LL1.take n)) a5 lc1 :: Shs leF LL1 :: Arn a1 A1 :: Sh 64 1 (u32s (rs1.take n)) a4 rc1 :: Sh 49 1 (enL LL1) lu1 lc1 :: Sh 64 1 (u32s rs1) ru1 rc1 :: cel b2 #[.slice a2 (List.length (sls (AM.dmp A1))) c1, .slice a3 (List.length (u32s (SM.order A1.s))) c2] 62 :: Own 167 11 (sls (AM.dmp A1)) a2 c1 :: Own 64 1 (u32s (SM.order A1.s)) a3 c2 :: cel b1 #[.int .i64 k2, .int .i64 v2] 77 :: Sh 79 4 (ch4 S) us ds :: L) w := hS
      replace hS := (hS.at_ 1 rfl).share
      replace hS : St g (Sh 93 3 (or3 (refO (List.map LsE.es (LL1.take n)) (List.length (LL1.take n)))) a7 c4 :: Sh 93 3 (or3 (oAll (hev minI maxI ((LL1.take n).map LsE.es) (List.length (rs1.take n))))) a6 c3 :: Sh 49 1 (enL (LL1.take n)) a5 lc1 :: Shs leF LL1 :: Arn a1 A1 :: Sh 64 1 (u32s (rs1.take n)) a4 rc1 :: Sh 49 1 (enL LL1) lu1 lc1 :: Sh 64 1 (u32s rs1) ru1 rc1 :: cel b2 #[.slice a2 (List.length (sls (AM.dmp A1))) c1, .slice a3 (List.length (u32s (SM.order A1.s))) c2] 62 :: Own 167 11 (sls (AM.dmp A1)) a2 c1 :: Own 64 1 (u32s (SM.order A1.s)) a3 c2 :: cel b1 #[.int .i64 k2, .int .i64 v2] 77 :: Sh 79 4 (ch4 S) us ds :: L) w := hS
      refine WL.call rfl rfl (sameO (xs := oAll (hev minI maxI ((LL1.take n).map LsE.es) (List.length (rs1.take n)))) (ys := refO (List.map LsE.es (LL1.take n)) (List.length (LL1.take n))) (a := a6) (b := a7) (c := c3) (d := c4) (hl := (by omega)) (hS := (hS.sel 2 [1, 0] rfl))) rfl ?_
      clear hS; rintro _ w ⟨rfl, hS⟩
      replace hS : St g (Sh 93 3 (or3 (oAll (hev minI maxI ((LL1.take n).map LsE.es) (List.length (rs1.take n))))) a6 c3 :: Sh 93 3 (or3 (refO (List.map LsE.es (LL1.take n)) (List.length (LL1.take n)))) a7 c4 :: Sh 49 1 (enL (LL1.take n)) a5 lc1 :: Shs leF LL1 :: Arn a1 A1 :: Sh 64 1 (u32s (rs1.take n)) a4 rc1 :: Sh 49 1 (enL LL1) lu1 lc1 :: Sh 64 1 (u32s rs1) ru1 rc1 :: cel b2 #[.slice a2 (List.length (sls (AM.dmp A1))) c1, .slice a3 (List.length (u32s (SM.order A1.s))) c2] 62 :: Own 167 11 (sls (AM.dmp A1)) a2 c1 :: Own 64 1 (u32s (SM.order A1.s)) a3 c2 :: cel b1 #[.int .i64 k2, .int .i64 v2] 77 :: Sh 79 4 (ch4 S) us ds :: L) w := hS
      refine WL.nil ?_
      refine ⟨by exact trivial, ?_⟩
      refine WQ.r 1 rfl ?_
      refine WQ.reb 65 (.bool true) (congrArg Value.bool (decide_eq_true ((by rw [← hde]; exact org_eq hK _)))) ?_
      refine WQ.ung rfl rfl rfl ?_
      refine WQ.r 1 rfl ?_
      refine WQ.ung rfl rfl rfl ?_
      refine WQ.r 1 rfl ?_
      refine WQ.ung rfl rfl rfl ?_
      refine WQ.r 1 rfl ?_
      refine WQ.ung rfl rfl rfl ?_
      refine WQ.ldF rfl rfl 11 hS rfl rfl ag_77 ?_
      refine WQ.ung rfl rfl rfl ?_
      refine WQ.r 1 rfl ?_
      refine WQ.ung rfl rfl rfl ?_
      refine WQ.r 1 rfl ?_
      refine WQ.ung rfl rfl rfl ?_
      refine WQ.ldF rfl rfl 11 hS rfl rfl ag_77 ?_
      refine WQ.ung rfl rfl rfl ?_
      refine WQ.slHi rfl rfl (v := at_ % ((List.length (u32s rs1) : Int) + 1)) 7 (n) (u32s (rs1.take n)) el_32 hS rfl rfl rfl (by omega) (by omega) (u32s_take rs1 n) (fun a8 qa8 hS => ?_)
      replace hS : St g (Sh 64 1 (u32s (rs1.take n)) a8 rc1 :: Sh 93 3 (or3 (oAll (hev minI maxI ((LL1.take n).map LsE.es) (List.length (rs1.take n))))) a6 c3 :: Sh 93 3 (or3 (refO (List.map LsE.es (LL1.take n)) (List.length (LL1.take n)))) a7 c4 :: Sh 49 1 (enL (LL1.take n)) a5 lc1 :: Shs leF LL1 :: Arn a1 A1 :: Sh 64 1 (u32s (rs1.take n)) a4 rc1 :: Sh 49 1 (enL LL1) lu1 lc1 :: Sh 64 1 (u32s rs1) ru1 rc1 :: cel b2 #[.slice a2 (List.length (sls (AM.dmp A1))) c1, .slice a3 (List.length (u32s (SM.order A1.s))) c2] 62 :: Own 167 11 (sls (AM.dmp A1)) a2 c1 :: Own 64 1 (u32s (SM.order A1.s)) a3 c2 :: cel b1 #[.int .i64 k2, .int .i64 v2] 77 :: Sh 79 4 (ch4 S) us ds :: L) w := hS
      refine WQ.ung rfl rfl rfl ?_
      refine WQ.slHi rfl rfl (v := at_ % ((List.length (u32s rs1) : Int) + 1)) 7 (n) (enL (LL1.take n)) el_41 hS rfl rfl rfl (by omega) (by omega) (enL_take LL1 n) (fun a9 qa9 hS => ?_)
      replace hS : St g (Sh 49 1 (enL (LL1.take n)) a9 lc1 :: Sh 64 1 (u32s (rs1.take n)) a8 rc1 :: Sh 93 3 (or3 (oAll (hev minI maxI ((LL1.take n).map LsE.es) (List.length (rs1.take n))))) a6 c3 :: Sh 93 3 (or3 (refO (List.map LsE.es (LL1.take n)) (List.length (LL1.take n)))) a7 c4 :: Sh 49 1 (enL (LL1.take n)) a5 lc1 :: Shs leF LL1 :: Arn a1 A1 :: Sh 64 1 (u32s (rs1.take n)) a4 rc1 :: Sh 49 1 (enL LL1) lu1 lc1 :: Sh 64 1 (u32s rs1) ru1 rc1 :: cel b2 #[.slice a2 (List.length (sls (AM.dmp A1))) c1, .slice a3 (List.length (u32s (SM.order A1.s))) c2] 62 :: Own 167 11 (sls (AM.dmp A1)) a2 c1 :: Own 64 1 (u32s (SM.order A1.s)) a3 c2 :: cel b1 #[.int .i64 k2, .int .i64 v2] 77 :: Sh 79 4 (ch4 S) us ds :: L) w := hS
      refine WQ.nil ?_
      intro m4
      replace hS := hS.drewN m4; generalize hwm4 : World.drewN _ _ = w at *; clear hwm4
      refine WL.ung rfl rfl rfl ?_
      refine WL.call rfl rfl (hi_first (a := a1) (A := A1) (R := R1) (Ls := (LL1.take n).map LsE.es) (rs := rs1.take n) (u := a8) (d := rc1) (kk := k2) (vv := v2) (hA := f1) (hT := hT) (hL := hK) (hn := (by omega)) (hS := (hS.sel 7 [6, 1, 0, 0, 0, 0, 0] rfl))) rfl ?_
      clear hS; rintro _ w ⟨rfl, hS⟩
      replace hS : St g (Arn a1 A1 :: Sh 64 1 (u32s (rs1.take n)) a8 rc1 :: Sh 49 1 (enL (LL1.take n)) a9 lc1 :: Sh 93 3 (or3 (oAll (hev minI maxI ((LL1.take n).map LsE.es) (List.length (rs1.take n))))) a6 c3 :: Sh 93 3 (or3 (refO (List.map LsE.es (LL1.take n)) (List.length (LL1.take n)))) a7 c4 :: Sh 49 1 (enL (LL1.take n)) a5 lc1 :: Shs leF LL1 :: Sh 64 1 (u32s (rs1.take n)) a4 rc1 :: Sh 49 1 (enL LL1) lu1 lc1 :: Sh 64 1 (u32s rs1) ru1 rc1 :: cel b2 #[.slice a2 (List.length (sls (AM.dmp A1))) c1, .slice a3 (List.length (u32s (SM.order A1.s))) c2] 62 :: Own 167 11 (sls (AM.dmp A1)) a2 c1 :: Own 64 1 (u32s (SM.order A1.s)) a3 c2 :: cel b1 #[.int .i64 k2, .int .i64 v2] 77 :: Sh 79 4 (ch4 S) us ds :: L) w := hS
      refine WL.nil ?_
      refine ⟨by exact ⟨RQ.ung rfl rfl rfl (RQ.pure rfl rfl rfl rfl), RQ.ung rfl rfl rfl (RQ.pure rfl rfl rfl rfl), RQ.ung rfl rfl rfl (RQ.slHi rfl rfl (v := at_ % ((List.length (u32s rs1) : Int) + 1)) 8 (n) el_41 hS rfl rfl rfl (by omega) (by omega) (enL_take LL1 n) qa9 rfl rfl), RQ.ung rfl rfl rfl (RQ.ldF rfl rfl 13 hS rfl rfl ag_77 rfl rfl)⟩, ?_⟩
      refine WQ.nil ?_
      intro m5
      replace hS := hS.drewN m5; generalize hwm5 : World.drewN _ _ = w at *; clear hwm5
      refine WL.ung rfl rfl rfl ?_
      refine WL.call rfl rfl (r27_first (LL := LL1.take n) (ZZ := LL1) (u := a9) (d := lc1) (kk := k2) (vv := v2) (hL := hK) (hsub := hsub) (hn := (by omega)) (hS := (hS.sel 7 [2, 5, 0, 0, 0, 0, 0] rfl))) rfl ?_
      clear hS; rintro _ w ⟨rfl, hS⟩
      replace hS : St g (Sh 49 1 (enL (LL1.take n)) a9 lc1 :: Shs leF LL1 :: Arn a1 A1 :: Sh 64 1 (u32s (rs1.take n)) a8 rc1 :: Sh 93 3 (or3 (oAll (hev minI maxI ((LL1.take n).map LsE.es) (List.length (rs1.take n))))) a6 c3 :: Sh 93 3 (or3 (refO (List.map LsE.es (LL1.take n)) (List.length (LL1.take n)))) a7 c4 :: Sh 49 1 (enL (LL1.take n)) a5 lc1 :: Sh 64 1 (u32s (rs1.take n)) a4 rc1 :: Sh 49 1 (enL LL1) lu1 lc1 :: Sh 64 1 (u32s rs1) ru1 rc1 :: cel b2 #[.slice a2 (List.length (sls (AM.dmp A1))) c1, .slice a3 (List.length (u32s (SM.order A1.s))) c2] 62 :: Own 167 11 (sls (AM.dmp A1)) a2 c1 :: Own 64 1 (u32s (SM.order A1.s)) a3 c2 :: cel b1 #[.int .i64 k2, .int .i64 v2] 77 :: Sh 79 4 (ch4 S) us ds :: L) w := hS
      refine WL.nil ?_
      refine ⟨by exact trivial, ?_⟩
      refine WQ.ung rfl rfl rfl ?_
      refine WQ.r 3 rfl ?_
      refine WQ.reb 79 (.bool true) (congrArg Value.bool (decide_eq_true ((by rw [hde])))) ?_
      refine WQ.ung rfl rfl rfl ?_
      refine WQ.r 1 rfl ?_
      refine WQ.ung rfl rfl rfl ?_
      refine WQ.r 1 rfl ?_
      refine WQ.ung rfl rfl rfl ?_
      refine WQ.r 1 rfl ?_
      refine WQ.ung rfl rfl rfl ?_
      refine WQ.r 1 rfl ?_
      refine WQ.ung rfl rfl rfl ?_
      refine WQ.r 1 rfl ?_
      refine WQ.ung rfl rfl rfl ?_
      refine WQ.slHi rfl rfl (v := at_ % ((List.length (u32s rs1) : Int) + 1)) 9 (n) (u32s (rs1.take n)) el_32 hS rfl rfl rfl (by omega) (by omega) (u32s_take rs1 n) (fun a10 qa10 hS => ?_)
      replace hS : St g (Sh 64 1 (u32s (rs1.take n)) a10 rc1 :: Sh 49 1 (enL (LL1.take n)) a9 lc1 :: Shs leF LL1 :: Arn a1 A1 :: Sh 64 1 (u32s (rs1.take n)) a8 rc1 :: Sh 93 3 (or3 (oAll (hev minI maxI ((LL1.take n).map LsE.es) (List.length (rs1.take n))))) a6 c3 :: Sh 93 3 (or3 (refO (List.map LsE.es (LL1.take n)) (List.length (LL1.take n)))) a7 c4 :: Sh 49 1 (enL (LL1.take n)) a5 lc1 :: Sh 64 1 (u32s (rs1.take n)) a4 rc1 :: Sh 49 1 (enL LL1) lu1 lc1 :: Sh 64 1 (u32s rs1) ru1 rc1 :: cel b2 #[.slice a2 (List.length (sls (AM.dmp A1))) c1, .slice a3 (List.length (u32s (SM.order A1.s))) c2] 62 :: Own 167 11 (sls (AM.dmp A1)) a2 c1 :: Own 64 1 (u32s (SM.order A1.s)) a3 c2 :: cel b1 #[.int .i64 k2, .int .i64 v2] 77 :: Sh 79 4 (ch4 S) us ds :: L) w := hS
      refine WQ.ung rfl rfl rfl ?_
      refine WQ.slHi rfl rfl (v := at_ % ((List.length (u32s rs1) : Int) + 1)) 9 (n) (enL (LL1.take n)) el_41 hS rfl rfl rfl (by omega) (by omega) (enL_take LL1 n) (fun a11 qa11 hS => ?_)
      replace hS : St g (Sh 49 1 (enL (LL1.take n)) a11 lc1 :: Sh 64 1 (u32s (rs1.take n)) a10 rc1 :: Sh 49 1 (enL (LL1.take n)) a9 lc1 :: Shs leF LL1 :: Arn a1 A1 :: Sh 64 1 (u32s (rs1.take n)) a8 rc1 :: Sh 93 3 (or3 (oAll (hev minI maxI ((LL1.take n).map LsE.es) (List.length (rs1.take n))))) a6 c3 :: Sh 93 3 (or3 (refO (List.map LsE.es (LL1.take n)) (List.length (LL1.take n)))) a7 c4 :: Sh 49 1 (enL (LL1.take n)) a5 lc1 :: Sh 64 1 (u32s (rs1.take n)) a4 rc1 :: Sh 49 1 (enL LL1) lu1 lc1 :: Sh 64 1 (u32s rs1) ru1 rc1 :: cel b2 #[.slice a2 (List.length (sls (AM.dmp A1))) c1, .slice a3 (List.length (u32s (SM.order A1.s))) c2] 62 :: Own 167 11 (sls (AM.dmp A1)) a2 c1 :: Own 64 1 (u32s (SM.order A1.s)) a3 c2 :: cel b1 #[.int .i64 k2, .int .i64 v2] 77 :: Sh 79 4 (ch4 S) us ds :: L) w := hS
      refine WQ.nil ?_
      intro m6
      replace hS := hS.drewN m6; generalize hwm6 : World.drewN _ _ = w at *; clear hwm6
      refine WL.ung rfl rfl rfl ?_
      refine WL.call rfl rfl (hi_freq (a := a1) (A := A1) (R := R1) (Ls := (LL1.take n).map LsE.es) (rs := rs1.take n) (u := a10) (d := rc1) (hA := f1) (hT := hT) (hL := hK) (hn := hdr) (hS := (hS.sel 5 [4, 1, 0, 0, 0] rfl))) rfl ?_
      clear hS; rintro _ w ⟨a12, c5, rfl, hS⟩
      replace hS : St g (Own 77 2 (en2 (fqA (hev minI maxI ((LL1.take n).map LsE.es) (List.length (rs1.take n))))) a12 c5 :: Arn a1 A1 :: Sh 64 1 (u32s (rs1.take n)) a10 rc1 :: Sh 49 1 (enL (LL1.take n)) a11 lc1 :: Sh 49 1 (enL (LL1.take n)) a9 lc1 :: Shs leF LL1 :: Sh 64 1 (u32s (rs1.take n)) a8 rc1 :: Sh 93 3 (or3 (oAll (hev minI maxI ((LL1.take n).map LsE.es) (List.length (rs1.take n))))) a6 c3 :: Sh 93 3 (or3 (refO (List.map LsE.es (LL1.take n)) (List.length (LL1.take n)))) a7 c4 :: Sh 49 1 (enL (LL1.take n)) a5 lc1 :: Sh 64 1 (u32s (rs1.take n)) a4 rc1 :: Sh 49 1 (enL LL1) lu1 lc1 :: Sh 64 1 (u32s rs1) ru1 rc1 :: cel b2 #[.slice a2 (List.length (sls (AM.dmp A1))) c1, .slice a3 (List.length (u32s (SM.order A1.s))) c2] 62 :: Own 167 11 (sls (AM.dmp A1)) a2 c1 :: Own 64 1 (u32s (SM.order A1.s)) a3 c2 :: cel b1 #[.int .i64 k2, .int .i64 v2] 77 :: Sh 79 4 (ch4 S) us ds :: L) w := hS
      refine WL.nil ?_
      refine ⟨by exact ⟨RQ.ung rfl rfl rfl (RQ.pure rfl rfl rfl rfl), RQ.ung rfl rfl rfl (RQ.pure rfl rfl rfl rfl), RQ.ung rfl rfl rfl (RQ.slHi rfl rfl (v := at_ % ((List.length (u32s rs1) : Int) + 1)) 11 (n) el_41 hS rfl rfl rfl (by omega) (by omega) (enL_take LL1 n) qa11 rfl rfl)⟩, ?_⟩
      refine WQ.nil ?_
      intro m7
      replace hS := hS.drewN m7; generalize hwm7 : World.drewN _ _ = w at *; clear hwm7
      refine WL.ung rfl rfl rfl ?_
      refine WL.call rfl rfl (r27_freq (LL := LL1.take n) (ZZ := LL1) (u := a11) (d := lc1) (hL := hK) (hsub := hsub) (hn := hdl) (hS := (hS.sel 6 [3, 4, 0, 0, 0, 0] rfl))) rfl ?_
      clear hS; rintro _ w ⟨a13, c6, rfl, hS⟩
      replace hS : St g (Own 77 2 (en2 (fqA (hev minI maxI (List.map LsE.es (LL1.take n)) (List.length (LL1.take n))))) a13 c6 :: Sh 49 1 (enL (LL1.take n)) a11 lc1 :: Shs leF LL1 :: Own 77 2 (en2 (fqA (hev minI maxI ((LL1.take n).map LsE.es) (List.length (rs1.take n))))) a12 c5 :: Arn a1 A1 :: Sh 64 1 (u32s (rs1.take n)) a10 rc1 :: Sh 49 1 (enL (LL1.take n)) a9 lc1 :: Sh 64 1 (u32s (rs1.take n)) a8 rc1 :: Sh 93 3 (or3 (oAll (hev minI maxI ((LL1.take n).map LsE.es) (List.length (rs1.take n))))) a6 c3 :: Sh 93 3 (or3 (refO (List.map LsE.es (LL1.take n)) (List.length (LL1.take n)))) a7 c4 :: Sh 49 1 (enL (LL1.take n)) a5 lc1 :: Sh 64 1 (u32s (rs1.take n)) a4 rc1 :: Sh 49 1 (enL LL1) lu1 lc1 :: Sh 64 1 (u32s rs1) ru1 rc1 :: cel b2 #[.slice a2 (List.length (sls (AM.dmp A1))) c1, .slice a3 (List.length (u32s (SM.order A1.s))) c2] 62 :: Own 167 11 (sls (AM.dmp A1)) a2 c1 :: Own 64 1 (u32s (SM.order A1.s)) a3 c2 :: cel b1 #[.int .i64 k2, .int .i64 v2] 77 :: Sh 79 4 (ch4 S) us ds :: L) w := hS
      refine WL.nil ?_
      refine ⟨by exact trivial, ?_⟩
      refine WQ.nil ?_
      intro m8
      replace hS := hS.drewN m8; generalize hwm8 : World.drewN _ _ = w at *; clear hwm8
      refine WL.ung rfl rfl rfl ?_
      replace hS := (hS.at_ 3 rfl).share
      replace hS : St g (Sh 77 2 (en2 (fqA (hev minI maxI ((LL1.take n).map LsE.es) (List.length (rs1.take n))))) a12 c5 :: Own 77 2 (en2 (fqA (hev minI maxI (List.map LsE.es (LL1.take n)) (List.length (LL1.take n))))) a13 c6 :: Sh 49 1 (enL (LL1.take n)) a11 lc1 :: Shs leF LL1 :: Arn a1 A1 :: Sh 64 1 (u32s (rs1.take n)) a10 rc1 :: Sh 49 1 (enL (LL1.take n)) a9 lc1 :: Sh 64 1 (u32s (rs1.take n)) a8 rc1 :: Sh 93 3 (or3 (oAll (hev minI maxI ((LL1.take n).map LsE.es) (List.length (rs1.take n))))) a6 c3 :: Sh 93 3 (or3 (refO (List.map LsE.es (LL1.take n)) (List.length (LL1.take n)))) a7 c4 :: Sh 49 1 (enL (LL1.take n)) a5 lc1 :: Sh 64 1 (u32s (rs1.take n)) a4 rc1 :: Sh 49 1 (enL LL1) lu1 lc1 :: Sh 64 1 (u32s rs1) ru1 rc1 :: cel b2 #[.slice a2 (List.length (sls (AM.dmp A1))) c1, .slice a3 (List.length (u32s (SM.order A1.s))) c2] 62 :: Own 167 11 (sls (AM.dmp A1)) a2 c1 :: Own 64 1 (u32s (SM.order A1.s)) a3 c2 :: cel b1 #[.int .i64 k2, .int .i64 v2] 77 :: Sh 79 4 (ch4 S) us ds :: L) w := hS
      replace hS := (hS.at_ 1 rfl).share
      replace hS : St g (Sh 77 2 (en2 (fqA (hev minI maxI (List.map LsE.es (LL1.take n)) (List.length (LL1.take n))))) a13 c6 :: Sh 77 2 (en2 (fqA (hev minI maxI ((LL1.take n).map LsE.es) (List.length (rs1.take n))))) a12 c5 :: Sh 49 1 (enL (LL1.take n)) a11 lc1 :: Shs leF LL1 :: Arn a1 A1 :: Sh 64 1 (u32s (rs1.take n)) a10 rc1 :: Sh 49 1 (enL (LL1.take n)) a9 lc1 :: Sh 64 1 (u32s (rs1.take n)) a8 rc1 :: Sh 93 3 (or3 (oAll (hev minI maxI ((LL1.take n).map LsE.es) (List.length (rs1.take n))))) a6 c3 :: Sh 93 3 (or3 (refO (List.map LsE.es (LL1.take n)) (List.length (LL1.take n)))) a7 c4 :: Sh 49 1 (enL (LL1.take n)) a5 lc1 :: Sh 64 1 (u32s (rs1.take n)) a4 rc1 :: Sh 49 1 (enL LL1) lu1 lc1 :: Sh 64 1 (u32s rs1) ru1 rc1 :: cel b2 #[.slice a2 (List.length (sls (AM.dmp A1))) c1, .slice a3 (List.length (u32s (SM.order A1.s))) c2] 62 :: Own 167 11 (sls (AM.dmp A1)) a2 c1 :: Own 64 1 (u32s (SM.order A1.s)) a3 c2 :: cel b1 #[.int .i64 k2, .int .i64 v2] 77 :: Sh 79 4 (ch4 S) us ds :: L) w := hS
      refine WL.call rfl rfl (sameEE (xs := fqA (hev minI maxI ((LL1.take n).map LsE.es) (List.length (rs1.take n)))) (ys := fqA (hev minI maxI (List.map LsE.es (LL1.take n)) (List.length (LL1.take n)))) (a := a12) (b := a13) (c := c5) (d := c6) (he := (by rw [hde])) (hl := (by omega)) (hS := (hS.sel 2 [1, 0] rfl))) rfl ?_
      clear hS; rintro _ w ⟨rfl, hS⟩
      replace hS : St g (Sh 77 2 (en2 (fqA (hev minI maxI ((LL1.take n).map LsE.es) (List.length (rs1.take n))))) a12 c5 :: Sh 77 2 (en2 (fqA (hev minI maxI (List.map LsE.es (LL1.take n)) (List.length (LL1.take n))))) a13 c6 :: Sh 49 1 (enL (LL1.take n)) a11 lc1 :: Shs leF LL1 :: Arn a1 A1 :: Sh 64 1 (u32s (rs1.take n)) a10 rc1 :: Sh 49 1 (enL (LL1.take n)) a9 lc1 :: Sh 64 1 (u32s (rs1.take n)) a8 rc1 :: Sh 93 3 (or3 (oAll (hev minI maxI ((LL1.take n).map LsE.es) (List.length (rs1.take n))))) a6 c3 :: Sh 93 3 (or3 (refO (List.map LsE.es (LL1.take n)) (List.length (LL1.take n)))) a7 c4 :: Sh 49 1 (enL (LL1.take n)) a5 lc1 :: Sh 64 1 (u32s (rs1.take n)) a4 rc1 :: Sh 49 1 (enL LL1) lu1 lc1 :: Sh 64 1 (u32s rs1) ru1 rc1 :: cel b2 #[.slice a2 (List.length (sls (AM.dmp A1))) c1, .slice a3 (List.length (u32s (SM.order A1.s))) c2] 62 :: Own 167 11 (sls (AM.dmp A1)) a2 c1 :: Own 64 1 (u32s (SM.order A1.s)) a3 c2 :: cel b1 #[.int .i64 k2, .int .i64 v2] 77 :: Sh 79 4 (ch4 S) us ds :: L) w := hS
      refine WL.nil ?_
      refine ⟨by exact trivial, ?_⟩
      refine WQ.r 2 rfl ?_
      refine WQ.ung rfl rfl rfl ?_
      refine WQ.r 1 rfl ?_
      refine WQ.ung rfl rfl rfl ?_
      refine WQ.ldF rfl rfl 14 hS rfl rfl ag_62 ?_
      refine WQ.nil ?_
      intro m9
      replace hS := hS.drewN m9; generalize hwm9 : World.drewN _ _ = w at *; clear hwm9
      refine WL.ung rfl rfl rfl ?_
      refine WL.call rfl rfl (ar_dump (a := a1) (A := A1) (hA := hw) (hS := (hS.sel 5 [4, 0, 0, 0, 0] rfl))) rfl ?_
      clear hS; rintro _ w ⟨a14, c7, a15, c8, rfl, hS⟩
      replace hS : St g (Own 167 11 (sls (AM.dmp A1)) a14 c7 :: Own 64 1 (u32s (SM.order A1.s)) a15 c8 :: Arn a1 A1 :: Sh 77 2 (en2 (fqA (hev minI maxI ((LL1.take n).map LsE.es) (List.length (rs1.take n))))) a12 c5 :: Sh 77 2 (en2 (fqA (hev minI maxI (List.map LsE.es (LL1.take n)) (List.length (LL1.take n))))) a13 c6 :: Sh 49 1 (enL (LL1.take n)) a11 lc1 :: Shs leF LL1 :: Sh 64 1 (u32s (rs1.take n)) a10 rc1 :: Sh 49 1 (enL (LL1.take n)) a9 lc1 :: Sh 64 1 (u32s (rs1.take n)) a8 rc1 :: Sh 93 3 (or3 (oAll (hev minI maxI ((LL1.take n).map LsE.es) (List.length (rs1.take n))))) a6 c3 :: Sh 93 3 (or3 (refO (List.map LsE.es (LL1.take n)) (List.length (LL1.take n)))) a7 c4 :: Sh 49 1 (enL (LL1.take n)) a5 lc1 :: Sh 64 1 (u32s (rs1.take n)) a4 rc1 :: Sh 49 1 (enL LL1) lu1 lc1 :: Sh 64 1 (u32s rs1) ru1 rc1 :: cel b2 #[.slice a2 (List.length (sls (AM.dmp A1))) c1, .slice a3 (List.length (u32s (SM.order A1.s))) c2] 62 :: Own 167 11 (sls (AM.dmp A1)) a2 c1 :: Own 64 1 (u32s (SM.order A1.s)) a3 c2 :: cel b1 #[.int .i64 k2, .int .i64 v2] 77 :: Sh 79 4 (ch4 S) us ds :: L) w := hS
      refine WL.nil ?_
      refine ⟨by exact RQ.ung rfl rfl rfl (RQ.ldF rfl rfl 16 hS rfl rfl ag_62 rfl rfl), ?_⟩
      refine WQ.nil ?_
      intro m10
      replace hS := hS.drewN m10; generalize hwm10 : World.drewN _ _ = w at *; clear hwm10
      refine WL.ung rfl rfl rfl ?_
      replace hS := (hS.at_ 0 rfl).share
      replace hS : St g (Sh 167 11 (sls (AM.dmp A1)) a14 c7 :: Own 64 1 (u32s (SM.order A1.s)) a15 c8 :: Arn a1 A1 :: Sh 77 2 (en2 (fqA (hev minI maxI ((LL1.take n).map LsE.es) (List.length (rs1.take n))))) a12 c5 :: Sh 77 2 (en2 (fqA (hev minI maxI (List.map LsE.es (LL1.take n)) (List.length (LL1.take n))))) a13 c6 :: Sh 49 1 (enL (LL1.take n)) a11 lc1 :: Shs leF LL1 :: Sh 64 1 (u32s (rs1.take n)) a10 rc1 :: Sh 49 1 (enL (LL1.take n)) a9 lc1 :: Sh 64 1 (u32s (rs1.take n)) a8 rc1 :: Sh 93 3 (or3 (oAll (hev minI maxI ((LL1.take n).map LsE.es) (List.length (rs1.take n))))) a6 c3 :: Sh 93 3 (or3 (refO (List.map LsE.es (LL1.take n)) (List.length (LL1.take n)))) a7 c4 :: Sh 49 1 (enL (LL1.take n)) a5 lc1 :: Sh 64 1 (u32s (rs1.take n)) a4 rc1 :: Sh 49 1 (enL LL1) lu1 lc1 :: Sh 64 1 (u32s rs1) ru1 rc1 :: cel b2 #[.slice a2 (List.length (sls (AM.dmp A1))) c1, .slice a3 (List.length (u32s (SM.order A1.s))) c2] 62 :: Own 167 11 (sls (AM.dmp A1)) a2 c1 :: Own 64 1 (u32s (SM.order A1.s)) a3 c2 :: cel b1 #[.int .i64 k2, .int .i64 v2] 77 :: Sh 79 4 (ch4 S) us ds :: L) w := hS
      replace hS := (hS.at_ 1 rfl).share
      replace hS : St g (Sh 64 1 (u32s (SM.order A1.s)) a15 c8 :: Sh 167 11 (sls (AM.dmp A1)) a14 c7 :: Arn a1 A1 :: Sh 77 2 (en2 (fqA (hev minI maxI ((LL1.take n).map LsE.es) (List.length (rs1.take n))))) a12 c5 :: Sh 77 2 (en2 (fqA (hev minI maxI (List.map LsE.es (LL1.take n)) (List.length (LL1.take n))))) a13 c6 :: Sh 49 1 (enL (LL1.take n)) a11 lc1 :: Shs leF LL1 :: Sh 64 1 (u32s (rs1.take n)) a10 rc1 :: Sh 49 1 (enL (LL1.take n)) a9 lc1 :: Sh 64 1 (u32s (rs1.take n)) a8 rc1 :: Sh 93 3 (or3 (oAll (hev minI maxI ((LL1.take n).map LsE.es) (List.length (rs1.take n))))) a6 c3 :: Sh 93 3 (or3 (refO (List.map LsE.es (LL1.take n)) (List.length (LL1.take n)))) a7 c4 :: Sh 49 1 (enL (LL1.take n)) a5 lc1 :: Sh 64 1 (u32s (rs1.take n)) a4 rc1 :: Sh 49 1 (enL LL1) lu1 lc1 :: Sh 64 1 (u32s rs1) ru1 rc1 :: cel b2 #[.slice a2 (List.length (sls (AM.dmp A1))) c1, .slice a3 (List.length (u32s (SM.order A1.s))) c2] 62 :: Own 167 11 (sls (AM.dmp A1)) a2 c1 :: Own 64 1 (u32s (SM.order A1.s)) a3 c2 :: cel b1 #[.int .i64 k2, .int .i64 v2] 77 :: Sh 79 4 (ch4 S) us ds :: L) w := hS
      replace hS := (hS.at_ 17 rfl).share
      replace hS : St g (Sh 167 11 (sls (AM.dmp A1)) a2 c1 :: Sh 64 1 (u32s (SM.order A1.s)) a15 c8 :: Sh 167 11 (sls (AM.dmp A1)) a14 c7 :: Arn a1 A1 :: Sh 77 2 (en2 (fqA (hev minI maxI ((LL1.take n).map LsE.es) (List.length (rs1.take n))))) a12 c5 :: Sh 77 2 (en2 (fqA (hev minI maxI (List.map LsE.es (LL1.take n)) (List.length (LL1.take n))))) a13 c6 :: Sh 49 1 (enL (LL1.take n)) a11 lc1 :: Shs leF LL1 :: Sh 64 1 (u32s (rs1.take n)) a10 rc1 :: Sh 49 1 (enL (LL1.take n)) a9 lc1 :: Sh 64 1 (u32s (rs1.take n)) a8 rc1 :: Sh 93 3 (or3 (oAll (hev minI maxI ((LL1.take n).map LsE.es) (List.length (rs1.take n))))) a6 c3 :: Sh 93 3 (or3 (refO (List.map LsE.es (LL1.take n)) (List.length (LL1.take n)))) a7 c4 :: Sh 49 1 (enL (LL1.take n)) a5 lc1 :: Sh 64 1 (u32s (rs1.take n)) a4 rc1 :: Sh 49 1 (enL LL1) lu1 lc1 :: Sh 64 1 (u32s rs1) ru1 rc1 :: cel b2 #[.slice a2 (List.length (sls (AM.dmp A1))) c1, .slice a3 (List.length (u32s (SM.order A1.s))) c2] 62 :: Own 64 1 (u32s (SM.order A1.s)) a3 c2 :: cel b1 #[.int .i64 k2, .int .i64 v2] 77 :: Sh 79 4 (ch4 S) us ds :: L) w := hS
      replace hS := (hS.at_ 18 rfl).share
      replace hS : St g (Sh 64 1 (u32s (SM.order A1.s)) a3 c2 :: Sh 167 11 (sls (AM.dmp A1)) a2 c1 :: Sh 64 1 (u32s (SM.order A1.s)) a15 c8 :: Sh 167 11 (sls (AM.dmp A1)) a14 c7 :: Arn a1 A1 :: Sh 77 2 (en2 (fqA (hev minI maxI ((LL1.take n).map LsE.es) (List.length (rs1.take n))))) a12 c5 :: Sh 77 2 (en2 (fqA (hev minI maxI (List.map LsE.es (LL1.take n)) (List.length (LL1.take n))))) a13 c6 :: Sh 49 1 (enL (LL1.take n)) a11 lc1 :: Shs leF LL1 :: Sh 64 1 (u32s (rs1.take n)) a10 rc1 :: Sh 49 1 (enL (LL1.take n)) a9 lc1 :: Sh 64 1 (u32s (rs1.take n)) a8 rc1 :: Sh 93 3 (or3 (oAll (hev minI maxI ((LL1.take n).map LsE.es) (List.length (rs1.take n))))) a6 c3 :: Sh 93 3 (or3 (refO (List.map LsE.es (LL1.take n)) (List.length (LL1.take n)))) a7 c4 :: Sh 49 1 (enL (LL1.take n)) a5 lc1 :: Sh 64 1 (u32s (rs1.take n)) a4 rc1 :: Sh 49 1 (enL LL1) lu1 lc1 :: Sh 64 1 (u32s rs1) ru1 rc1 :: cel b2 #[.slice a2 (List.length (sls (AM.dmp A1))) c1, .slice a3 (List.length (u32s (SM.order A1.s))) c2] 62 :: cel b1 #[.int .i64 k2, .int .i64 v2] 77 :: Sh 79 4 (ch4 S) us ds :: L) w := hS
      refine WL.call rfl rfl (same_dump (xs := AM.dmp A1) (ys := AM.dmp A1) (fs := SM.order A1.s) (gs := SM.order A1.s) (a := a14) (b := a15) (a' := a2) (b' := a3) (c := c7) (d := c8) (c' := c1) (d' := c2) (he := rfl) (hf := rfl) (hl := (by omega)) (hm := (by have := order_len hw.s; omega)) (hS := (hS.sel 4 [3, 2, 1, 0] rfl))) rfl ?_
      clear hS; rintro _ w ⟨rfl, hS⟩
      replace hS : St g (Arn a1 A1 :: Sh 77 2 (en2 (fqA (hev minI maxI ((LL1.take n).map LsE.es) (List.length (rs1.take n))))) a12 c5 :: Sh 77 2 (en2 (fqA (hev minI maxI (List.map LsE.es (LL1.take n)) (List.length (LL1.take n))))) a13 c6 :: Sh 49 1 (enL (LL1.take n)) a11 lc1 :: Shs leF LL1 :: Sh 64 1 (u32s (rs1.take n)) a10 rc1 :: Sh 49 1 (enL (LL1.take n)) a9 lc1 :: Sh 64 1 (u32s (rs1.take n)) a8 rc1 :: Sh 93 3 (or3 (oAll (hev minI maxI ((LL1.take n).map LsE.es) (List.length (rs1.take n))))) a6 c3 :: Sh 93 3 (or3 (refO (List.map LsE.es (LL1.take n)) (List.length (LL1.take n)))) a7 c4 :: Sh 49 1 (enL (LL1.take n)) a5 lc1 :: Sh 64 1 (u32s (rs1.take n)) a4 rc1 :: Sh 49 1 (enL LL1) lu1 lc1 :: Sh 64 1 (u32s rs1) ru1 rc1 :: cel b2 #[.slice a2 (List.length (sls (AM.dmp A1))) c1, .slice a3 (List.length (u32s (SM.order A1.s))) c2] 62 :: cel b1 #[.int .i64 k2, .int .i64 v2] 77 :: Sh 79 4 (ch4 S) us ds :: L) w := hS
      refine WL.nil ?_
      refine ⟨by exact trivial, ?_⟩
      refine WQ.r 2 rfl ?_
      refine WQ.nil ?_
      intro m11
      replace hS := hS.drewN m11; generalize hwm11 : World.drewN _ _ = w at *; clear hwm11
      as_aux_lemma =>
        refine WC.ret ?_
        refine ⟨[.bool true], rfl, ?_⟩
        replace hS := (hS.sel 17 [] rfl)
        exact ⟨rfl, hS⟩
end Go.Proofs.YtlnlnebibgdjdaaGreat
/-! ## Argp -/
namespace Go.Proofs.YtlnlnebibgdjdaaGreat
open Go Go.V Go.RowKit
set_option maxRecDepth 100000
section
variable {H : Type} {enc : TypeId × Value → H} {w : World} {cs : List Value}
theorem rd_int (h : Rdc enc Tryz.prog w 3 cs) : ∃ n, cs = [.int .i64 n] ∧ (-9223372036854775808 ≤ n ∧ n ≤ 9223372036854775807) := by
  obtain ⟨n, h1, h2, h3⟩ := h.int (k := .i64) (by kernel_rfl)
  exact ⟨n, h1, h2, h3⟩
theorem one1 {x : List Value} {v : Value} (h : x = [v]) (h1 : v.oneCell' = true) : x.length = 1 ∧ ∀ u ∈ x, u.oneCell' = true := by
  subst h; exact ⟨rfl, fun u hu => by simp at hu; subst hu; exact h1⟩
end
end Go.Proofs.YtlnlnebibgdjdaaGreat
/-! ## Argv -/
namespace Go.Proofs.YtlnlnebibgdjdaaGreat
open Go Go.V Go.RowKit
set_option maxRecDepth 100000
theorem rdf_77 {H : Type} {enc : TypeId × Value → H} {w : World} {cs : List Value} (h : Rdc enc Tryz.prog w 77 cs) : ∃ c0 c1 : Value, cs = [c0, c1] ∧ Rdc enc Tryz.prog w 2 [c0] ∧ Rdc enc Tryz.prog w 2 [c1] := by
  obtain ⟨hl, hf⟩ := Rdc.struct h Tryz.underlying77
  rw [show Tryz.prog.cellsOf 77 = 2 by kernel_rfl] at hl
  match cs, hl with
  | [c0, c1], _ =>
    have f0 : Rdc enc Tryz.prog w 2 (([c0, c1].drop 0).take (Tryz.prog.cellsOf 2)) := hf 0 _ rfl
    rw [show Tryz.prog.cellsOf 2 = 1 by kernel_rfl] at f0
    have f1 : Rdc enc Tryz.prog w 2 (([c0, c1].drop 1).take (Tryz.prog.cellsOf 2)) := hf 1 _ rfl
    rw [show Tryz.prog.cellsOf 2 = 1 by kernel_rfl] at f1
    exact ⟨c0, c1, rfl, f0, f1⟩
section
variable {H : Type} {enc : TypeId × Value → H} {w : World} {cs : List Value}
theorem rd_i64 (h : Rdc enc Tryz.prog w 2 cs) : ∃ n, cs = [.int .i64 n] ∧ Ir n := by
  obtain ⟨n, h1, h2, h3⟩ := h.int (k := .i64) (by kernel_rfl)
  exact ⟨n, h1, h2, h3⟩
theorem rd_u64 (h : Rdc enc Tryz.prog w 23 cs) : ∃ n, cs = [.int .u64 n] ∧ 0 ≤ n ∧ n ≤ 18446744073709551615 := by
  obtain ⟨n, h1, h2, h3⟩ := h.int (k := .u64) (by kernel_rfl)
  exact ⟨n, h1, h2, h3⟩
theorem rd_ent (h : Rdc enc Tryz.prog w 77 cs) : ∃ x : Int × Int, cs = [.int .i64 x.1, .int .i64 x.2] ∧ Ir x.1 ∧ Ir x.2 := by
  obtain ⟨c0, c1, rfl, h0, h1⟩ := rdf_77 h
  obtain ⟨a, e0, w0⟩ := rd_i64 h0
  obtain ⟨b, e1, w1⟩ := rd_i64 h1
  cases e0; cases e1
  exact ⟨(a, b), rfl, w0, w1⟩
theorem rd_ents (h : Rdc enc Tryz.prog w 49 cs) : ∃ (l : List (Int × Int)) (a : Option Addr) (c : Nat), cs = [.slice a (en2 l).length c] ∧ (∀ x ∈ l, Ir x.1 ∧ Ir x.2) ∧ l.length ≤ maxLen ∧ ∀ e, Hw w (Sh e 2 (en2 l) a c) := by
  obtain ⟨a, c, ls, h1, h2, h3, h4⟩ := Rdc.slice (e := 77) (size := 2) h (by kernel_rfl) (by kernel_rfl) (by decide) (fun x hx => by
    obtain ⟨n, hn, _⟩ := rd_ent hx
    subst hn; exact ⟨rfl, fun u hu => by simp at hu; rcases hu with rfl | rfl <;> rfl⟩)
  obtain ⟨m, rfl, hm⟩ := map_of (fun x : Int × Int => [Value.int .i64 x.1, Value.int .i64 x.2]) (fun x => Ir x.1 ∧ Ir x.2) ls (fun x hx => by
    obtain ⟨n, hn, hb⟩ := rd_ent (h3 x hx)
    exact ⟨n, hn, hb⟩)
  exact ⟨m, a, c, h1, hm, by simpa using h2, h4⟩
end
end Go.Proofs.YtlnlnebibgdjdaaGreat
/-! ## Arge -/
namespace Go.Proofs.YtlnlnebibgdjdaaGreat
open Go Go.V Go.RowKit
set_option maxRecDepth 100000
theorem rdf_79 {H : Type} {enc : TypeId × Value → H} {w : World} {cs : List Value} (h : Rdc enc Tryz.prog w 79 cs) : ∃ c0 c1 c2 c3 : Value, cs = [c0, c1, c2, c3] ∧ Rdc enc Tryz.prog w 3 [c0] ∧ Rdc enc Tryz.prog w 77 [c1, c2] ∧ Rdc enc Tryz.prog w 3 [c3] := by
  obtain ⟨hl, hf⟩ := Rdc.struct h Tryz.underlying79
  rw [show Tryz.prog.cellsOf 79 = 4 by kernel_rfl] at hl
  match cs, hl with
  | [c0, c1, c2, c3], _ =>
    have f0 : Rdc enc Tryz.prog w 3 (([c0, c1, c2, c3].drop 0).take (Tryz.prog.cellsOf 3)) := hf 0 _ rfl
    rw [show Tryz.prog.cellsOf 3 = 1 by kernel_rfl] at f0
    have f1 : Rdc enc Tryz.prog w 77 (([c0, c1, c2, c3].drop 1).take (Tryz.prog.cellsOf 77)) := hf 1 _ rfl
    rw [show Tryz.prog.cellsOf 77 = 2 by kernel_rfl] at f1
    have f2 : Rdc enc Tryz.prog w 3 (([c0, c1, c2, c3].drop 3).take (Tryz.prog.cellsOf 3)) := hf 2 _ rfl
    rw [show Tryz.prog.cellsOf 3 = 1 by kernel_rfl] at f2
    exact ⟨c0, c1, c2, c3, rfl, f0, f1, f2⟩
section
variable {H : Type} {enc : TypeId × Value → H} {w : World} {cs : List Value}
theorem rd_step (h : Rdc enc Tryz.prog w 79 cs) : ∃ x : Int × Int × Int × Int, cs = [.int .i64 x.1, .int .i64 x.2.1, .int .i64 x.2.2.1, .int .i64 x.2.2.2] ∧ Ir x.1 ∧ Ir x.2.1 ∧ Ir x.2.2.2 := by
  obtain ⟨c0, c1, c2, c3, rfl, h0, h1, h2⟩ := rdf_79 h
  obtain ⟨a, e0, w0⟩ := rd_int h0
  obtain ⟨b, e1, w1⟩ := rd_ent h1
  obtain ⟨d, e2, w2⟩ := rd_int h2
  cases e0; cases e1; cases e2
  exact ⟨(a, b.1, b.2, d), rfl, w0, w1.1, w2⟩
theorem rd_steps (h : Rdc enc Tryz.prog w 73 cs) : ∃ (l : List (Int × Int × Int × Int)) (a : Option Addr) (c : Nat), cs = [.slice a (ch4 l).length c] ∧ (∀ x ∈ l, Ir x.1 ∧ Ir x.2.1 ∧ Ir x.2.2.2) ∧ l.length ≤ maxLen ∧ ∀ e, Hw w (Sh e 4 (ch4 l) a c) := by
  obtain ⟨a, c, ls, h1, h2, h3, h4⟩ := Rdc.slice (e := 79) (size := 4) h (by kernel_rfl) (by kernel_rfl) (by decide) (fun x hx => by
    obtain ⟨n, hn, _⟩ := rd_step hx
    subst hn; exact ⟨rfl, fun u hu => by simp at hu; rcases hu with rfl | rfl | rfl | rfl <;> rfl⟩)
  obtain ⟨m, rfl, hm⟩ := map_of (fun x : Int × Int × Int × Int => [Value.int .i64 x.1, Value.int .i64 x.2.1, Value.int .i64 x.2.2.1, Value.int .i64 x.2.2.2]) (fun x => Ir x.1 ∧ Ir x.2.1 ∧ Ir x.2.2.2) ls (fun x hx => by
    obtain ⟨n, hn, hb⟩ := rd_step (h3 x hx)
    exact ⟨n, hn, hb⟩)
  exact ⟨m, a, c, h1, hm, by simpa using h2, h4⟩
end
end Go.Proofs.YtlnlnebibgdjdaaGreat
/-! ## Jhor -/
namespace Go.Proofs.YtlnlnebibgdjdaaGreat
open Go Go.V Go.RowKit Go.ChangeShapes Go.WideShapes
set_option maxRecDepth 100000
theorem hors_calls {H : Type} {enc : TypeId × Value → H} {W : World} {base : Nat} {args : List Value} (h : AOk enc Tryz.prog W base [49, 23, 73, 77, 3] args) :
    Calls Tryz.prog 7 args.toArray W fun e W' => e = .returned (.bool true) ∧ Below W.heap.size W W' := by
  obtain ⟨v0, vs0, rfl, k0, r0, h⟩ := h.cons
  obtain ⟨v1, vs1, rfl, k1, r1, h⟩ := h.cons
  obtain ⟨v2, vs2, rfl, k2, r2, h⟩ := h.cons
  obtain ⟨v3, vs3, rfl, k3, r3, h⟩ := h.cons
  obtain ⟨v4, vs4, rfl, k4, r4, h⟩ := h.cons
  obtain rfl := h.nil
  obtain ⟨l0, a0, c0, e0, h0, _, s0⟩ := rd_ents r0
  obtain ⟨n1, e1, h1⟩ := rd_u64 r1
  obtain ⟨l2, a2, c2, e2, h2, m2, s2⟩ := rd_steps r2
  obtain ⟨x3, e3, _⟩ := rd_ent r3
  obtain ⟨n4, e4, h4⟩ := rd_int r4
  obtain rfl := okv_one (okv_slice k0 Tryz.underlying49) e0
  obtain rfl := okv_one (okv_int k1 Tryz.underlying23) e1
  obtain rfl := okv_one (okv_slice k2 Tryz.underlying73) e2
  obtain rfl := okv_agg k3 Tryz.underlying77 e3
  obtain rfl := okv_one (okv_int k4 Tryz.underlying3) e4
  have hS := St.start W
  have hS := (s2 79).add hS
  have hS := (s0 77).add hS
  exact law_calls (law_hor l0 a0 c0 n1 l2 a2 c2 x3.1 x3.2 n4 h1 (fun x hx => (h0 x hx).1) h2 (Nat.le_trans m2 (by decide)) h4 hS)
theorem hors_lifted (os : Os) (started : os.Started) (H : Type) (enc : TypeId × Value → H) :
    ReturnsInHanded {} Tryz.checked os 7 .any (Rows.historyOriginsSpec.pre6 enc Tryz.prog Tryz.f7 Rows.historyOriginsRow.domain false) (Rows.historyOriginsSpec.post enc Tryz.prog Tryz.f7 false true false false) := by
  refine returnsInHanded_of_change (C := Tryz.checked) (by kernel_rfl) started (by kernel_rfl) Tryz.func7
    (ChangeSpec.witness6 (enc := enc) (C := Tryz.checked) false ⟨#[], #[.slice none 0 0, .int .u64 0, .slice none 0 0, .agg #[.int .i64 0, .int .i64 0], .int .i64 0], []⟩ 8 (by kernel_rfl) (by kernel_rfl) (by kernel_rfl) (by kernel_rfl)) ?_
  intro W base args ds gs before hval0 hW _ _
  have hval : ∀ (j : Nat) t v, Tryz.f7.params[j]? = some t → args[j]? = some v → Value.okWide Tryz.prog W .any base t v := hval0
  have hW0 := hW
  obtain ⟨p, q, hA0, _⟩ := hW
  have hA : DataW.TrodAll enc Tryz.prog W 0 (fun _ => true) true Tryz.f7.params.toList args.toList ds p := hA0
  rw [Tryz.params7] at hA hval
  clear hA0 hval0
  have hc := hors_calls (AOk.args hA hval)
  rw [Array.toArray_toList] at hc
  refine hc.mono fun e W' ⟨he, hb⟩ => ⟨_, he, ?_⟩
  refine law_post rfl hW0 (by kernel_rfl) ?_ (by kernel_rfl) Tryz.underlying4 ?_ hb
  · exact fun t ht => by
      simp only [Tryz.params7, List.mem_cons, List.not_mem_nil, or_false] at ht
      rcases ht with rfl | rfl | rfl | rfl | rfl <;> exact ⟨by kernel_rfl, of_decide_eq_true (by kernel_rfl)⟩
  · intro hd
    match ds, hd with
    | [d1, d2, d3, d4, d5], _ => exact ⟨rfl, rfl, rfl⟩
theorem hors_holds : Rows.HistoryOriginsSaid :=
  OpenClaim.holds_of_wide 7 Tryz.f7 rfl rfl rfl rfl rfl rfl rfl ⟨rfl, rfl, rfl, rfl, rfl⟩ rfl rfl rfl rfl rfl (by kernel_rfl) Tryz.func7 hors_closed
    (of_decide_eq_true (by kernel_rfl)) (by unfold Func.isWrapper; first | (rw [if_pos (by decide +kernel)]; kernel_rfl) | (rw [if_neg (by decide +kernel)]; exact ⟨rfl, rfl⟩))
    (fun os started H enc _ => hors_lifted os started H enc)
end Go.Proofs.YtlnlnebibgdjdaaGreat
