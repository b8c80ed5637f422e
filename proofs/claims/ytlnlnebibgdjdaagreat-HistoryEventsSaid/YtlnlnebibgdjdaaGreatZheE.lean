/-
  The row of HistoryEvents: for every input the law returns true, and the arguments read as before.
  Conditions: none.
-/
import Derived.Test.YtlnlnebibgdjdaaGreatJheq
import Derived.Test.YtlnlnebibgdjdaaGreatZheD
/-! ## D2 -/
namespace Go.Proofs.YtlnlnebibgdjdaaGreat
open Go Go.V
set_option maxRecDepth 8192 in
theorem ar_cap_o {g w : World} {L : List HP} (a p : Nat) (A : AM) (na : Option Addr) (nc : Nat) (ca : Option Addr) (cc : Nat) (rd : Int) (hA : AWf A) (hS : St g (cel a #[.pointer (some ⟨p, 0, none⟩), .slice na (List.length (nds A.nodes)) nc, .slice ca (List.length (i64s A.cnt)) cc, .int .u64 rd] 153 :: Slt p A.s :: Own 165 8 (nds A.nodes) na nc :: Own 3 1 (i64s A.cnt) ca cc :: L) w) :
    Sp Tryz.prog 14 [.pointer (some ⟨a, 0, none⟩)] w (fun v w' => v = .int .i64 A.s.cap ∧ St g (cel a #[.pointer (some ⟨p, 0, none⟩), .slice na (List.length (nds A.nodes)) nc, .slice ca (List.length (i64s A.cnt)) cc, .int .u64 rd] 153 :: Slt p A.s :: Own 165 8 (nds A.nodes) na nc :: Own 3 1 (i64s A.cnt) ca cc :: L) w') := by
  refine Sp.enter Tryz.func14 rfl (by kernel_rfl) (by kernel_rfl) ?_
  refine WC.seq ?_
  refine WC.region ?_
  have hs := hA.s
  refine WL.r 1 rfl ?_
  refine WL.nil ?_
  refine WC.seq ?_
  refine WC.region ?_
  refine WL.run 4 [.pointer (some ⟨p, 0, none⟩)] rfl (by exact hS.ld 0 rfl rfl) ?_
  refine WL.call rfl rfl (sl_cap (s := p) (S := A.s) (hl := hA.s.le) (hS := (hS.sel 2 [1, 0] rfl))) rfl ?_
  clear hS; rintro _ w ⟨rfl, hS⟩
  replace hS : St g (Slt p A.s :: cel a #[.pointer (some ⟨p, 0, none⟩), .slice na (List.length (nds A.nodes)) nc, .slice ca (List.length (i64s A.cnt)) cc, .int .u64 rd] 153 :: Own 165 8 (nds A.nodes) na nc :: Own 3 1 (i64s A.cnt) ca cc :: L) w := hS
  refine WL.r 1 rfl ?_
  refine WL.nil ?_
  refine WC.ret ?_
  refine ⟨[.int .i64 A.s.cap], rfl, ?_⟩
  replace hS := (hS.sel 2 [1, 0] rfl)
  exact ⟨rfl, hS⟩
set_option maxRecDepth 8192 in
theorem ar_gen_o {g w : World} {L : List HP} (a p : Nat) (A : AM) (na : Option Addr) (nc : Nat) (ca : Option Addr) (cc : Nat) (rd : Int) (i : Int) (hA : AWf A) (hi : 0 ≤ i ∧ i < 4294967296) (hS : St g (cel a #[.pointer (some ⟨p, 0, none⟩), .slice na (List.length (nds A.nodes)) nc, .slice ca (List.length (i64s A.cnt)) cc, .int .u64 rd] 153 :: Slt p A.s :: Own 165 8 (nds A.nodes) na nc :: Own 3 1 (i64s A.cnt) ca cc :: L) w) :
    Sp Tryz.prog 79 [.pointer (some ⟨a, 0, none⟩), .int .u32 i] w (fun v w' => v = .int .u32 (A.s.genOf i) ∧ St g (cel a #[.pointer (some ⟨p, 0, none⟩), .slice na (List.length (nds A.nodes)) nc, .slice ca (List.length (i64s A.cnt)) cc, .int .u64 rd] 153 :: Slt p A.s :: Own 165 8 (nds A.nodes) na nc :: Own 3 1 (i64s A.cnt) ca cc :: L) w') := by
  refine Sp.enter Tryz.func79 rfl (by kernel_rfl) (by kernel_rfl) ?_
  have _ := hi
  refine WC.seq ?_
  refine WC.region ?_
  have hs := hA.s
  refine WL.r 1 rfl ?_
  refine WL.nil ?_
  refine WC.seq ?_
  refine WC.region ?_
  refine WL.run 5 [.pointer (some ⟨p, 0, none⟩)] rfl (by exact hS.ld 0 rfl rfl) ?_
  refine WL.call rfl rfl (sl_gen (s := p) (S := A.s) (i := i) (hl := (by first | assumption | exact SOk.gle (by assumption))) (hi := (by omega)) (hS := (hS.sel 2 [1, 0] rfl))) rfl ?_
  clear hS; rintro _ w ⟨rfl, hS⟩
  replace hS : St g (Slt p A.s :: cel a #[.pointer (some ⟨p, 0, none⟩), .slice na (List.length (nds A.nodes)) nc, .slice ca (List.length (i64s A.cnt)) cc, .int .u64 rd] 153 :: Own 165 8 (nds A.nodes) na nc :: Own 3 1 (i64s A.cnt) ca cc :: L) w := hS
  refine WL.r 1 rfl ?_
  refine WL.nil ?_
  refine WC.ret ?_
  refine ⟨[.int .u32 (A.s.genOf i)], rfl, ?_⟩
  replace hS := (hS.sel 2 [1, 0] rfl)
  exact ⟨rfl, hS⟩
set_option maxRecDepth 8192 in
theorem ar_count_o {g w : World} {L : List HP} (a p : Nat) (A : AM) (na : Option Addr) (nc : Nat) (ca : Option Addr) (cc : Nat) (rd : Int) (i : Int) (hA : AWf A) (hi : 0 ≤ i ∧ i < 4294967296) (hS : St g (cel a #[.pointer (some ⟨p, 0, none⟩), .slice na (List.length (nds A.nodes)) nc, .slice ca (List.length (i64s A.cnt)) cc, .int .u64 rd] 153 :: Slt p A.s :: Own 165 8 (nds A.nodes) na nc :: Own 3 1 (i64s A.cnt) ca cc :: L) w) :
    Sp Tryz.prog 78 [.pointer (some ⟨a, 0, none⟩), .int .u32 i] w (fun v w' => v = .int .i64 (AM.cntD A i) ∧ St g (cel a #[.pointer (some ⟨p, 0, none⟩), .slice na (List.length (nds A.nodes)) nc, .slice ca (List.length (i64s A.cnt)) cc, .int .u64 rd] 153 :: Slt p A.s :: Own 165 8 (nds A.nodes) na nc :: Own 3 1 (i64s A.cnt) ca cc :: L) w') := by
  refine Sp.enter Tryz.func78 rfl (by kernel_rfl) (by kernel_rfl) ?_
  refine WC.seq ?_
  refine WC.region ?_
  refine WL.r 1 rfl ?_
  refine WL.nil ?_
  refine WC.seq ?_
  refine WC.seq ?_
  refine WC.region ?_
  have hs := hA.s; have hle := hA.s.le; have hcl := hA.cl; have hil := i64s_len A.cnt
  refine WL.run 5 [.pointer (some ⟨p, 0, none⟩)] rfl (by exact hS.ld 0 rfl rfl) ?_
  refine WL.call rfl rfl (sl_ok (s := p) (S := A.s) (i := i) (hl := hle) (hi := hi) (hS := (hS.sel 2 [1, 0] rfl))) rfl ?_
  clear hS; rintro _ w ⟨rfl, hS⟩
  replace hS : St g (Slt p A.s :: cel a #[.pointer (some ⟨p, 0, none⟩), .slice na (List.length (nds A.nodes)) nc, .slice ca (List.length (i64s A.cnt)) cc, .int .u64 rd] 153 :: Own 165 8 (nds A.nodes) na nc :: Own 3 1 (i64s A.cnt) ca cc :: L) w := hS
  refine WL.r 1 rfl ?_
  refine WL.nil ?_
  refine WC.if_ rfl (fun hc => ?_) (fun hc => ?_)
  · refine WC.seq ?_
    refine WC.region ?_
    refine WL.r 1 rfl ?_
    refine WL.nil ?_
    refine WC.ret ?_
    refine ⟨[.int .i64 0], rfl, ?_⟩
    replace hS := (hS.sel 2 [1, 0] rfl)
    exact ⟨by unfold AM.cntD; rw [if_neg (by simpa using hc)]; rfl, hS⟩
  · refine WC.skip ?_
    refine WC.seq ?_
    refine WC.region ?_
    refine WL.run 5 [.slice ca (List.length (i64s A.cnt)) cc] rfl (by exact hS.ld 1 rfl rfl) ?_
    have hr := SM.ok_rng hA.s hi.1 (by simpa using hc); obtain ⟨x, hx⟩ : ∃ x, A.cnt[i.toNat]? = some x := ⟨_, List.getElem?_eq_getElem (by omega)⟩
    refine WL.ix rfl rfl (i := i) (i.toNat) el_56 rfl rfl (by omega) (by omega) (hS.rdO 3 rfl (i64s_at hx)).1 ?_
    refine WL.run 2 [.int .i64 x] rfl (by exact (hS.rdO 3 rfl (i64s_at hx)).2 0 _ rfl) ?_
    refine WL.nil ?_
    refine WC.ret ?_
    refine ⟨[.int .i64 x], rfl, ?_⟩
    replace hS := (hS.sel 2 [1, 0] rfl)
    exact ⟨by unfold AM.cntD AM.cntOf; rw [if_pos (by simpa using hc), hx]; rfl, hS⟩
end Go.Proofs.YtlnlnebibgdjdaaGreat
/-! ## D3 -/
namespace Go.Proofs.YtlnlnebibgdjdaaGreat
open Go Go.V
theorem dmp_nd {A : AM} (h : AWf A) {k : Nat} (hk : (k : Int) < A.s.cap) : ∃ nd, A.nodes[k + 1]? = some nd ∧ (A.dmpAt ((k : Int) + 1)).nd = nd := by
  have hn := h.nl
  have hc : A.s.cap = (A.s.used.length : Int) - 1 := rfl
  have h1 : A.nodes[k + 1]? = some (A.nodes[k + 1]'(by omega)) := List.getElem?_eq_getElem (by omega)
  refine ⟨_, h1, ?_⟩
  show (A.nodes[((k : Int) + 1).toNat]?).getD Nd.zero = _
  rw [show ((k : Int) + 1).toNat = k + 1 by omega, h1]; rfl
theorem dmp_zero (A : AM) : List.replicate A.s.cap.toNat [.bool false, .int .i64 0, .int .u32 0, .int .i64 0, .int .i64 0, .int .u32 0, .int .u32 0, .int .i64 0, .int .i64 0, .int .i64 0, .int .i64 0] = sls (A.dmpK 0) := A.dmpK_0.symm
theorem dmp_st {A : AM} {k : Nat} {nd : Nd} (h : (A.dmpAt ((k : Int) + 1)).nd = nd) : (sls (A.dmpK k)).set k [.bool (A.s.ok ((k : Int) + 1)), .int .i64 (A.cntD ((k : Int) + 1)), .int .u32 (A.s.genOf ((k : Int) + 1)), .int .i64 nd.key, .int .i64 nd.val, .int .u32 nd.lf, .int .u32 nd.rg, .int .i64 nd.size, .int .i64 nd.sum, .int .i64 nd.mn, .int .i64 nd.mx] = sls (A.dmpK (k + 1)) := by
  subst h
  exact (sls_set (A.dmpK k) k (A.dmpAt ((k : Int) + 1))).trans (congrArg sls A.dmpK_set)
set_option maxHeartbeats 2000000 in
set_option maxRecDepth 8192 in
theorem ar_dump {g w : World} {L : List HP} (a : Nat) (A : AM) (hA : AWf A) (hS : St g (Arn a A :: L) w) :
    Sp Tryz.prog 20 [.pointer (some ⟨a, 0, none⟩)] w (fun v w' => ∃ (a2 : Option Addr) (c2 : Nat) (a4 : Option Addr) (c4 : Nat), v = .agg #[.slice a2 (List.length (sls (AM.dmp A))) c2, .slice a4 (List.length (u32s (SM.order A.s))) c4] ∧ St g (Own 167 11 (sls (AM.dmp A)) a2 c2 :: Own 64 1 (u32s (SM.order A.s)) a4 c4 :: Arn a A :: L) w') := by
  refine Sp.enter Tryz.func20 rfl (by kernel_rfl) (by kernel_rfl) ?_
  refine WC.seq ?_
  refine WC.region ?_
  obtain ⟨⟨xp, xna, xnc, xca, xcc, xrd⟩, hS⟩ := St.exOpen (f := arnF a A) hS
  replace hS : St g (cel a #[.pointer (some ⟨xp, 0, none⟩), .slice xna (List.length (nds A.nodes)) xnc, .slice xca (List.length (i64s A.cnt)) xcc, .int .u64 xrd] 153 :: Slt xp A.s :: Own 165 8 (nds A.nodes) xna xnc :: Own 3 1 (i64s A.cnt) xca xcc :: L) w := hS
  have hs := hA.s; have hle := hA.s.le; have hcp : A.s.cap = (A.s.used.length : Int) - 1 := rfl; have hce := hA.s.cap
  refine WL.new rfl rfl zv_62 hS (fun b1 w hS => ?_)
  refine WL.nil ?_
  refine WC.seq ?_
  refine WC.cut [0, 2, 3] (fun vs w => ∃ (b : Nat) (ua : Option Addr) (ub : Option Addr) (ud : Nat), vs = [.pointer (some ⟨a, 0, none⟩), .pointer (some ⟨b1, 0, none⟩), .pointer (some ⟨b, 0, none⟩)] ∧ St g (cel b #[.slice ua A.s.cap.toNat A.s.cap.toNat, .slice ub (List.length (u32s (SM.order A.s))) ud] 62 :: Own 167 11 (List.replicate A.s.cap.toNat [.bool false, .int .i64 0, .int .u32 0, .int .i64 0, .int .i64 0, .int .u32 0, .int .u32 0, .int .i64 0, .int .i64 0, .int .i64 0, .int .i64 0]) ua A.s.cap.toNat :: Own 64 1 (u32s (SM.order A.s)) ub ud :: cel b1 #[.slice none 0 0, .slice none 0 0] 62 :: cel a #[.pointer (some ⟨xp, 0, none⟩), .slice xna (List.length (nds A.nodes)) xnc, .slice xca (List.length (i64s A.cnt)) xcc, .int .u64 xrd] 153 :: Slt xp A.s :: Own 165 8 (nds A.nodes) xna xnc :: Own 3 1 (i64s A.cnt) xca xcc :: L) w) ?_ ?_
  · refine WC.tree (.two [0, 3, 4, 5, 6] 1 [3, 4, 5, 6] (.three [] 2 [3, 4, 5, 6] (.two [] 7 [] (.one [8] 9 [0, 3, 4, 5, 6, 8] (.one [] 10 [] .nil)) 9 [0, 3, 4, 5, 6] (.one [] 7 [] (.one [8] 10 [] .nil))) 7 [] (.two [] 2 [3, 4, 5, 6] (.one [8] 9 [0, 3, 4, 5, 6, 8] (.one [] 10 [] .nil)) 9 [0, 3, 4, 5, 6] (.one [] 2 [3, 4, 5, 6] (.one [8] 10 [] .nil))) 9 [0, 3, 4, 5, 6] (.two [] 2 [3, 4, 5, 6] (.one [] 7 [] (.one [8] 10 [] .nil)) 7 [] (.one [] 2 [3, 4, 5, 6] (.one [8] 10 [] .nil)))) 9 [0, 3, 4, 5, 6] (.one [] 1 [3, 4, 5, 6] (.two [] 2 [3, 4, 5, 6] (.one [] 7 [] (.one [8] 10 [] .nil)) 7 [] (.one [] 2 [3, 4, 5, 6] (.one [8] 10 [] .nil))))) (by kernel_rfl) (by kernel_rfl) ?_
    refine WQ.run 5 [.pointer (some ⟨xp, 0, none⟩)] rfl (by exact hS.ld 1 rfl rfl) ?_
    refine WQ.nil ?_
    intro m1
    replace hS := hS.drewN m1; generalize hwm1 : World.drewN _ _ = w at *; clear hwm1
    refine ⟨?_, ?_⟩
    · refine WL.call rfl rfl (ar_cap_o (a := a) (p := xp) (A := A) (na := xna) (nc := xnc) (ca := xca) (cc := xcc) (rd := xrd) (hA := hA) (hS := (hS.sel 5 [1, 1, 1, 1, 0] rfl))) rfl ?_
      clear hS; rintro _ w ⟨rfl, hS⟩
      replace hS : St g (cel a #[.pointer (some ⟨xp, 0, none⟩), .slice xna (List.length (nds A.nodes)) xnc, .slice xca (List.length (i64s A.cnt)) xcc, .int .u64 xrd] 153 :: Slt xp A.s :: Own 165 8 (nds A.nodes) xna xnc :: Own 3 1 (i64s A.cnt) xca xcc :: cel b1 #[.slice none 0 0, .slice none 0 0] 62 :: L) w := hS
      refine WL.nil ?_
      refine ⟨by exact ⟨RQ.pure rfl rfl rfl rfl, RQ.pure rfl rfl rfl rfl, RQ.pure rfl rfl rfl rfl, RQ.load rfl rfl rfl rfl (hS.ld 0 rfl rfl)⟩, ?_⟩
      refine WQ.nil ?_
      intro m2
      replace hS := hS.drewN m2; generalize hwm2 : World.drewN _ _ = w at *; clear hwm2
      refine ⟨?_, ?_, ?_⟩
      · refine WL.make rfl rfl (v := A.s.cap) (v' := A.s.cap) (A.s.cap.toNat) (A.s.cap.toNat) el_60 hS rfl (by omega) rfl (by omega) (by omega) (Rm.of (by omega) (by decide)) (fun b2 w hS => ?_)
        replace hS : St g (Own 167 11 (List.replicate A.s.cap.toNat [.bool false, .int .i64 0, .int .u32 0, .int .i64 0, .int .i64 0, .int .u32 0, .int .u32 0, .int .i64 0, .int .i64 0, .int .i64 0, .int .i64 0]) (some ⟨b2, 0, none⟩) A.s.cap.toNat :: cel a #[.pointer (some ⟨xp, 0, none⟩), .slice xna (List.length (nds A.nodes)) xnc, .slice xca (List.length (i64s A.cnt)) xcc, .int .u64 xrd] 153 :: Slt xp A.s :: Own 165 8 (nds A.nodes) xna xnc :: Own 3 1 (i64s A.cnt) xca xcc :: cel b1 #[.slice none 0 0, .slice none 0 0] 62 :: L) w := hS
        refine WL.nil ?_
        refine ⟨by exact ⟨RQ.pure rfl rfl rfl rfl, RQ.pure rfl rfl rfl rfl, RQ.pure rfl rfl rfl rfl, RQ.load rfl rfl rfl rfl (hS.ld 1 rfl rfl)⟩, ?_⟩
        refine WQ.nil ?_
        intro m3
        replace hS := hS.drewN m3; generalize hwm3 : World.drewN _ _ = w at *; clear hwm3
        refine ⟨?_, ?_⟩
        · refine WL.call rfl rfl (sl_order (s := xp) (S := A.s) (hO := hs) (hS := (hS.sel 3 [2, 0, 0] rfl))) rfl ?_
          clear hS; rintro _ w ⟨a1, c1, rfl, hS⟩
          replace hS : St g (Own 64 1 (u32s (SM.order A.s)) a1 c1 :: Slt xp A.s :: Own 167 11 (List.replicate A.s.cap.toNat [.bool false, .int .i64 0, .int .u32 0, .int .i64 0, .int .i64 0, .int .u32 0, .int .u32 0, .int .i64 0, .int .i64 0, .int .i64 0, .int .i64 0]) (some ⟨b2, 0, none⟩) A.s.cap.toNat :: cel a #[.pointer (some ⟨xp, 0, none⟩), .slice xna (List.length (nds A.nodes)) xnc, .slice xca (List.length (i64s A.cnt)) xcc, .int .u64 xrd] 153 :: Own 165 8 (nds A.nodes) xna xnc :: Own 3 1 (i64s A.cnt) xca xcc :: cel b1 #[.slice none 0 0, .slice none 0 0] 62 :: L) w := hS
          refine WL.nil ?_
          refine ⟨by exact trivial, ?_⟩
          refine WQ.build rfl rfl (cs := [.slice (some ⟨b2, 0, none⟩) A.s.cap.toNat A.s.cap.toNat, .slice a1 (List.length (u32s (SM.order A.s))) c1]) zv_62 rfl rfl ?_
          refine WQ.nil ?_
          intro m4
          replace hS := hS.drewN m4; generalize hwm4 : World.drewN _ _ = w at *; clear hwm4
          refine WL.new rfl rfl zv_62 hS (fun b3 w hS => ?_)
          refine WL.nil ?_
          refine ⟨by exact ⟨RQ.pure rfl rfl rfl rfl, RQ.pure rfl rfl rfl rfl, RQ.pure rfl rfl rfl rfl, RQ.pure rfl rfl rfl rfl, RQ.load rfl rfl rfl rfl (hS.ld 4 rfl rfl), RQ.build rfl rfl (cs := [.slice (some ⟨b2, 0, none⟩) A.s.cap.toNat A.s.cap.toNat, .slice a1 (List.length (u32s (SM.order A.s))) c1]) zv_62 rfl rfl rfl rfl⟩, ?_⟩
          refine WQ.nil ?_
          intro m5
          replace hS := hS.drewN m5; generalize hwm5 : World.drewN _ _ = w at *; clear hwm5
          refine WL.stF rfl rfl rfl 0 hS rfl rfl rfl rfl rfl ag_62 (fun w hS => ?_)
          replace hS : St g (cel b3 #[.slice (some ⟨b2, 0, none⟩) A.s.cap.toNat A.s.cap.toNat, .slice a1 (List.length (u32s (SM.order A.s))) c1] 62 :: Own 64 1 (u32s (SM.order A.s)) a1 c1 :: Slt xp A.s :: Own 167 11 (List.replicate A.s.cap.toNat [.bool false, .int .i64 0, .int .u32 0, .int .i64 0, .int .i64 0, .int .u32 0, .int .u32 0, .int .i64 0, .int .i64 0, .int .i64 0, .int .i64 0]) (some ⟨b2, 0, none⟩) A.s.cap.toNat :: cel a #[.pointer (some ⟨xp, 0, none⟩), .slice xna (List.length (nds A.nodes)) xnc, .slice xca (List.length (i64s A.cnt)) xcc, .int .u64 xrd] 153 :: Own 165 8 (nds A.nodes) xna xnc :: Own 3 1 (i64s A.cnt) xca xcc :: cel b1 #[.slice none 0 0, .slice none 0 0] 62 :: L) w := hS
          refine WL.nil ?_
          refine ⟨by exact trivial, ?_⟩
          intro m6
          replace hS := hS.drewN m6; generalize hwm6 : World.drewN _ _ = w at *; clear hwm6
          exact ⟨b3, (some ⟨b2, 0, none⟩), a1, c1, rfl, (hS.sel 8 [0, 2, 0, 4, 1, 0, 0, 0] rfl)⟩
        · refine WL.new rfl rfl zv_62 hS (fun b3 w hS => ?_)
          refine WL.nil ?_
          refine ⟨by exact ⟨RQ.pure rfl rfl rfl rfl, RQ.pure rfl rfl rfl rfl, RQ.pure rfl rfl rfl rfl, RQ.pure rfl rfl rfl rfl, RQ.load rfl rfl rfl rfl (hS.ld 2 rfl rfl)⟩, ?_⟩
          refine WQ.nil ?_
          intro m4
          replace hS := hS.drewN m4; generalize hwm4 : World.drewN _ _ = w at *; clear hwm4
          refine WL.call rfl rfl (sl_order (s := xp) (S := A.s) (hO := hs) (hS := (hS.sel 4 [3, 0, 0, 0] rfl))) rfl ?_
          clear hS; rintro _ w ⟨a1, c1, rfl, hS⟩
          replace hS : St g (Own 64 1 (u32s (SM.order A.s)) a1 c1 :: Slt xp A.s :: cel b3 #[.slice none 0 0, .slice none 0 0] 62 :: Own 167 11 (List.replicate A.s.cap.toNat [.bool false, .int .i64 0, .int .u32 0, .int .i64 0, .int .i64 0, .int .u32 0, .int .u32 0, .int .i64 0, .int .i64 0, .int .i64 0, .int .i64 0]) (some ⟨b2, 0, none⟩) A.s.cap.toNat :: cel a #[.pointer (some ⟨xp, 0, none⟩), .slice xna (List.length (nds A.nodes)) xnc, .slice xca (List.length (i64s A.cnt)) xcc, .int .u64 xrd] 153 :: Own 165 8 (nds A.nodes) xna xnc :: Own 3 1 (i64s A.cnt) xca xcc :: cel b1 #[.slice none 0 0, .slice none 0 0] 62 :: L) w := hS
          refine WL.nil ?_
          refine ⟨by exact trivial, ?_⟩
          refine WQ.build rfl rfl (cs := [.slice (some ⟨b2, 0, none⟩) A.s.cap.toNat A.s.cap.toNat, .slice a1 (List.length (u32s (SM.order A.s))) c1]) zv_62 rfl rfl ?_
          refine WQ.nil ?_
          intro m5
          replace hS := hS.drewN m5; generalize hwm5 : World.drewN _ _ = w at *; clear hwm5
          refine WL.stF rfl rfl rfl 2 hS rfl rfl rfl rfl rfl ag_62 (fun w hS => ?_)
          replace hS : St g (Own 64 1 (u32s (SM.order A.s)) a1 c1 :: Slt xp A.s :: cel b3 #[.slice (some ⟨b2, 0, none⟩) A.s.cap.toNat A.s.cap.toNat, .slice a1 (List.length (u32s (SM.order A.s))) c1] 62 :: Own 167 11 (List.replicate A.s.cap.toNat [.bool false, .int .i64 0, .int .u32 0, .int .i64 0, .int .i64 0, .int .u32 0, .int .u32 0, .int .i64 0, .int .i64 0, .int .i64 0, .int .i64 0]) (some ⟨b2, 0, none⟩) A.s.cap.toNat :: cel a #[.pointer (some ⟨xp, 0, none⟩), .slice xna (List.length (nds A.nodes)) xnc, .slice xca (List.length (i64s A.cnt)) xcc, .int .u64 xrd] 153 :: Own 165 8 (nds A.nodes) xna xnc :: Own 3 1 (i64s A.cnt) xca xcc :: cel b1 #[.slice none 0 0, .slice none 0 0] 62 :: L) w := hS
          refine WL.nil ?_
          refine ⟨by exact trivial, ?_⟩
          intro m6
          replace hS := hS.drewN m6; generalize hwm6 : World.drewN _ _ = w at *; clear hwm6
          exact ⟨b3, (some ⟨b2, 0, none⟩), a1, c1, rfl, (hS.sel 8 [2, 2, 0, 4, 1, 0, 0, 0] rfl)⟩
      · refine WL.call rfl rfl (sl_order (s := xp) (S := A.s) (hO := hs) (hS := (hS.sel 2 [1, 0] rfl))) rfl ?_
        clear hS; rintro _ w ⟨a1, c1, rfl, hS⟩
        replace hS : St g (Own 64 1 (u32s (SM.order A.s)) a1 c1 :: Slt xp A.s :: cel a #[.pointer (some ⟨xp, 0, none⟩), .slice xna (List.length (nds A.nodes)) xnc, .slice xca (List.length (i64s A.cnt)) xcc, .int .u64 xrd] 153 :: Own 165 8 (nds A.nodes) xna xnc :: Own 3 1 (i64s A.cnt) xca xcc :: cel b1 #[.slice none 0 0, .slice none 0 0] 62 :: L) w := hS
        refine WL.nil ?_
        refine ⟨by exact trivial, ?_⟩
        refine WQ.nil ?_
        intro m3
        replace hS := hS.drewN m3; generalize hwm3 : World.drewN _ _ = w at *; clear hwm3
        refine ⟨?_, ?_⟩
        · refine WL.make rfl rfl (v := A.s.cap) (v' := A.s.cap) (A.s.cap.toNat) (A.s.cap.toNat) el_60 hS rfl (by omega) rfl (by omega) (by omega) (Rm.of (by omega) (by decide)) (fun b2 w hS => ?_)
          replace hS : St g (Own 167 11 (List.replicate A.s.cap.toNat [.bool false, .int .i64 0, .int .u32 0, .int .i64 0, .int .i64 0, .int .u32 0, .int .u32 0, .int .i64 0, .int .i64 0, .int .i64 0, .int .i64 0]) (some ⟨b2, 0, none⟩) A.s.cap.toNat :: Own 64 1 (u32s (SM.order A.s)) a1 c1 :: Slt xp A.s :: cel a #[.pointer (some ⟨xp, 0, none⟩), .slice xna (List.length (nds A.nodes)) xnc, .slice xca (List.length (i64s A.cnt)) xcc, .int .u64 xrd] 153 :: Own 165 8 (nds A.nodes) xna xnc :: Own 3 1 (i64s A.cnt) xca xcc :: cel b1 #[.slice none 0 0, .slice none 0 0] 62 :: L) w := hS
          refine WL.nil ?_
          refine ⟨by exact ⟨RQ.pure rfl rfl rfl rfl, RQ.pure rfl rfl rfl rfl, RQ.pure rfl rfl rfl rfl, RQ.load rfl rfl rfl rfl (hS.ld 3 rfl rfl)⟩, ?_⟩
          refine WQ.build rfl rfl (cs := [.slice (some ⟨b2, 0, none⟩) A.s.cap.toNat A.s.cap.toNat, .slice a1 (List.length (u32s (SM.order A.s))) c1]) zv_62 rfl rfl ?_
          refine WQ.nil ?_
          intro m4
          replace hS := hS.drewN m4; generalize hwm4 : World.drewN _ _ = w at *; clear hwm4
          refine WL.new rfl rfl zv_62 hS (fun b3 w hS => ?_)
          refine WL.nil ?_
          refine ⟨by exact ⟨RQ.pure rfl rfl rfl rfl, RQ.pure rfl rfl rfl rfl, RQ.pure rfl rfl rfl rfl, RQ.pure rfl rfl rfl rfl, RQ.load rfl rfl rfl rfl (hS.ld 4 rfl rfl), RQ.build rfl rfl (cs := [.slice (some ⟨b2, 0, none⟩) A.s.cap.toNat A.s.cap.toNat, .slice a1 (List.length (u32s (SM.order A.s))) c1]) zv_62 rfl rfl rfl rfl⟩, ?_⟩
          refine WQ.nil ?_
          intro m5
          replace hS := hS.drewN m5; generalize hwm5 : World.drewN _ _ = w at *; clear hwm5
          refine WL.stF rfl rfl rfl 0 hS rfl rfl rfl rfl rfl ag_62 (fun w hS => ?_)
          replace hS : St g (cel b3 #[.slice (some ⟨b2, 0, none⟩) A.s.cap.toNat A.s.cap.toNat, .slice a1 (List.length (u32s (SM.order A.s))) c1] 62 :: Own 167 11 (List.replicate A.s.cap.toNat [.bool false, .int .i64 0, .int .u32 0, .int .i64 0, .int .i64 0, .int .u32 0, .int .u32 0, .int .i64 0, .int .i64 0, .int .i64 0, .int .i64 0]) (some ⟨b2, 0, none⟩) A.s.cap.toNat :: Own 64 1 (u32s (SM.order A.s)) a1 c1 :: Slt xp A.s :: cel a #[.pointer (some ⟨xp, 0, none⟩), .slice xna (List.length (nds A.nodes)) xnc, .slice xca (List.length (i64s A.cnt)) xcc, .int .u64 xrd] 153 :: Own 165 8 (nds A.nodes) xna xnc :: Own 3 1 (i64s A.cnt) xca xcc :: cel b1 #[.slice none 0 0, .slice none 0 0] 62 :: L) w := hS
          refine WL.nil ?_
          refine ⟨by exact trivial, ?_⟩
          intro m6
          replace hS := hS.drewN m6; generalize hwm6 : World.drewN _ _ = w at *; clear hwm6
          exact ⟨b3, (some ⟨b2, 0, none⟩), a1, c1, rfl, (hS.sel 8 [0, 0, 0, 4, 1, 0, 0, 0] rfl)⟩
        · refine WL.new rfl rfl zv_62 hS (fun b2 w hS => ?_)
          refine WL.nil ?_
          refine ⟨by exact ⟨RQ.pure rfl rfl rfl rfl, RQ.pure rfl rfl rfl rfl, RQ.pure rfl rfl rfl rfl, RQ.pure rfl rfl rfl rfl, RQ.load rfl rfl rfl rfl (hS.ld 3 rfl rfl)⟩, ?_⟩
          refine WQ.nil ?_
          intro m4
          replace hS := hS.drewN m4; generalize hwm4 : World.drewN _ _ = w at *; clear hwm4
          refine WL.make rfl rfl (v := A.s.cap) (v' := A.s.cap) (A.s.cap.toNat) (A.s.cap.toNat) el_60 hS rfl (by omega) rfl (by omega) (by omega) (Rm.of (by omega) (by decide)) (fun b3 w hS => ?_)
          replace hS : St g (Own 167 11 (List.replicate A.s.cap.toNat [.bool false, .int .i64 0, .int .u32 0, .int .i64 0, .int .i64 0, .int .u32 0, .int .u32 0, .int .i64 0, .int .i64 0, .int .i64 0, .int .i64 0]) (some ⟨b3, 0, none⟩) A.s.cap.toNat :: cel b2 #[.slice none 0 0, .slice none 0 0] 62 :: Own 64 1 (u32s (SM.order A.s)) a1 c1 :: Slt xp A.s :: cel a #[.pointer (some ⟨xp, 0, none⟩), .slice xna (List.length (nds A.nodes)) xnc, .slice xca (List.length (i64s A.cnt)) xcc, .int .u64 xrd] 153 :: Own 165 8 (nds A.nodes) xna xnc :: Own 3 1 (i64s A.cnt) xca xcc :: cel b1 #[.slice none 0 0, .slice none 0 0] 62 :: L) w := hS
          refine WL.nil ?_
          refine ⟨by exact ⟨RQ.pure rfl rfl rfl rfl, RQ.pure rfl rfl rfl rfl, RQ.pure rfl rfl rfl rfl, RQ.load rfl rfl rfl rfl (hS.ld 4 rfl rfl)⟩, ?_⟩
          refine WQ.build rfl rfl (cs := [.slice (some ⟨b3, 0, none⟩) A.s.cap.toNat A.s.cap.toNat, .slice a1 (List.length (u32s (SM.order A.s))) c1]) zv_62 rfl rfl ?_
          refine WQ.nil ?_
          intro m5
          replace hS := hS.drewN m5; generalize hwm5 : World.drewN _ _ = w at *; clear hwm5
          refine WL.stF rfl rfl rfl 1 hS rfl rfl rfl rfl rfl ag_62 (fun w hS => ?_)
          replace hS : St g (Own 167 11 (List.replicate A.s.cap.toNat [.bool false, .int .i64 0, .int .u32 0, .int .i64 0, .int .i64 0, .int .u32 0, .int .u32 0, .int .i64 0, .int .i64 0, .int .i64 0, .int .i64 0]) (some ⟨b3, 0, none⟩) A.s.cap.toNat :: cel b2 #[.slice (some ⟨b3, 0, none⟩) A.s.cap.toNat A.s.cap.toNat, .slice a1 (List.length (u32s (SM.order A.s))) c1] 62 :: Own 64 1 (u32s (SM.order A.s)) a1 c1 :: Slt xp A.s :: cel a #[.pointer (some ⟨xp, 0, none⟩), .slice xna (List.length (nds A.nodes)) xnc, .slice xca (List.length (i64s A.cnt)) xcc, .int .u64 xrd] 153 :: Own 165 8 (nds A.nodes) xna xnc :: Own 3 1 (i64s A.cnt) xca xcc :: cel b1 #[.slice none 0 0, .slice none 0 0] 62 :: L) w := hS
          refine WL.nil ?_
          refine ⟨by exact trivial, ?_⟩
          intro m6
          replace hS := hS.drewN m6; generalize hwm6 : World.drewN _ _ = w at *; clear hwm6
          exact ⟨b2, (some ⟨b3, 0, none⟩), a1, c1, rfl, (hS.sel 8 [1, 0, 0, 4, 1, 0, 0, 0] rfl)⟩
      · refine WL.new rfl rfl zv_62 hS (fun b2 w hS => ?_)
        refine WL.nil ?_
        refine ⟨by exact ⟨RQ.pure rfl rfl rfl rfl, RQ.pure rfl rfl rfl rfl, RQ.pure rfl rfl rfl rfl, RQ.pure rfl rfl rfl rfl, RQ.load rfl rfl rfl rfl (hS.ld 1 rfl rfl)⟩, ?_⟩
        refine WQ.nil ?_
        intro m3
        replace hS := hS.drewN m3; generalize hwm3 : World.drewN _ _ = w at *; clear hwm3
        refine ⟨?_, ?_⟩
        · refine WL.make rfl rfl (v := A.s.cap) (v' := A.s.cap) (A.s.cap.toNat) (A.s.cap.toNat) el_60 hS rfl (by omega) rfl (by omega) (by omega) (Rm.of (by omega) (by decide)) (fun b3 w hS => ?_)
          replace hS : St g (Own 167 11 (List.replicate A.s.cap.toNat [.bool false, .int .i64 0, .int .u32 0, .int .i64 0, .int .i64 0, .int .u32 0, .int .u32 0, .int .i64 0, .int .i64 0, .int .i64 0, .int .i64 0]) (some ⟨b3, 0, none⟩) A.s.cap.toNat :: cel b2 #[.slice none 0 0, .slice none 0 0] 62 :: cel a #[.pointer (some ⟨xp, 0, none⟩), .slice xna (List.length (nds A.nodes)) xnc, .slice xca (List.length (i64s A.cnt)) xcc, .int .u64 xrd] 153 :: Slt xp A.s :: Own 165 8 (nds A.nodes) xna xnc :: Own 3 1 (i64s A.cnt) xca xcc :: cel b1 #[.slice none 0 0, .slice none 0 0] 62 :: L) w := hS
          refine WL.nil ?_
          refine ⟨by exact ⟨RQ.pure rfl rfl rfl rfl, RQ.pure rfl rfl rfl rfl, RQ.pure rfl rfl rfl rfl, RQ.load rfl rfl rfl rfl (hS.ld 2 rfl rfl)⟩, ?_⟩
          refine WQ.nil ?_
          intro m4
          replace hS := hS.drewN m4; generalize hwm4 : World.drewN _ _ = w at *; clear hwm4
          refine WL.call rfl rfl (sl_order (s := xp) (S := A.s) (hO := hs) (hS := (hS.sel 4 [3, 0, 0, 0] rfl))) rfl ?_
          clear hS; rintro _ w ⟨a1, c1, rfl, hS⟩
          replace hS : St g (Own 64 1 (u32s (SM.order A.s)) a1 c1 :: Slt xp A.s :: Own 167 11 (List.replicate A.s.cap.toNat [.bool false, .int .i64 0, .int .u32 0, .int .i64 0, .int .i64 0, .int .u32 0, .int .u32 0, .int .i64 0, .int .i64 0, .int .i64 0, .int .i64 0]) (some ⟨b3, 0, none⟩) A.s.cap.toNat :: cel b2 #[.slice none 0 0, .slice none 0 0] 62 :: cel a #[.pointer (some ⟨xp, 0, none⟩), .slice xna (List.length (nds A.nodes)) xnc, .slice xca (List.length (i64s A.cnt)) xcc, .int .u64 xrd] 153 :: Own 165 8 (nds A.nodes) xna xnc :: Own 3 1 (i64s A.cnt) xca xcc :: cel b1 #[.slice none 0 0, .slice none 0 0] 62 :: L) w := hS
          refine WL.nil ?_
          refine ⟨by exact trivial, ?_⟩
          refine WQ.build rfl rfl (cs := [.slice (some ⟨b3, 0, none⟩) A.s.cap.toNat A.s.cap.toNat, .slice a1 (List.length (u32s (SM.order A.s))) c1]) zv_62 rfl rfl ?_
          refine WQ.nil ?_
          intro m5
          replace hS := hS.drewN m5; generalize hwm5 : World.drewN _ _ = w at *; clear hwm5
          refine WL.stF rfl rfl rfl 3 hS rfl rfl rfl rfl rfl ag_62 (fun w hS => ?_)
          replace hS : St g (Own 64 1 (u32s (SM.order A.s)) a1 c1 :: Slt xp A.s :: Own 167 11 (List.replicate A.s.cap.toNat [.bool false, .int .i64 0, .int .u32 0, .int .i64 0, .int .i64 0, .int .u32 0, .int .u32 0, .int .i64 0, .int .i64 0, .int .i64 0, .int .i64 0]) (some ⟨b3, 0, none⟩) A.s.cap.toNat :: cel b2 #[.slice (some ⟨b3, 0, none⟩) A.s.cap.toNat A.s.cap.toNat, .slice a1 (List.length (u32s (SM.order A.s))) c1] 62 :: cel a #[.pointer (some ⟨xp, 0, none⟩), .slice xna (List.length (nds A.nodes)) xnc, .slice xca (List.length (i64s A.cnt)) xcc, .int .u64 xrd] 153 :: Own 165 8 (nds A.nodes) xna xnc :: Own 3 1 (i64s A.cnt) xca xcc :: cel b1 #[.slice none 0 0, .slice none 0 0] 62 :: L) w := hS
          refine WL.nil ?_
          refine ⟨by exact trivial, ?_⟩
          intro m6
          replace hS := hS.drewN m6; generalize hwm6 : World.drewN _ _ = w at *; clear hwm6
          exact ⟨b2, (some ⟨b3, 0, none⟩), a1, c1, rfl, (hS.sel 8 [3, 2, 0, 4, 1, 0, 0, 0] rfl)⟩
        · refine WL.call rfl rfl (sl_order (s := xp) (S := A.s) (hO := hs) (hS := (hS.sel 3 [2, 0, 0] rfl))) rfl ?_
          clear hS; rintro _ w ⟨a1, c1, rfl, hS⟩
          replace hS : St g (Own 64 1 (u32s (SM.order A.s)) a1 c1 :: Slt xp A.s :: cel b2 #[.slice none 0 0, .slice none 0 0] 62 :: cel a #[.pointer (some ⟨xp, 0, none⟩), .slice xna (List.length (nds A.nodes)) xnc, .slice xca (List.length (i64s A.cnt)) xcc, .int .u64 xrd] 153 :: Own 165 8 (nds A.nodes) xna xnc :: Own 3 1 (i64s A.cnt) xca xcc :: cel b1 #[.slice none 0 0, .slice none 0 0] 62 :: L) w := hS
          refine WL.nil ?_
          refine ⟨by exact trivial, ?_⟩
          refine WQ.nil ?_
          intro m4
          replace hS := hS.drewN m4; generalize hwm4 : World.drewN _ _ = w at *; clear hwm4
          refine WL.make rfl rfl (v := A.s.cap) (v' := A.s.cap) (A.s.cap.toNat) (A.s.cap.toNat) el_60 hS rfl (by omega) rfl (by omega) (by omega) (Rm.of (by omega) (by decide)) (fun b3 w hS => ?_)
          replace hS : St g (Own 167 11 (List.replicate A.s.cap.toNat [.bool false, .int .i64 0, .int .u32 0, .int .i64 0, .int .i64 0, .int .u32 0, .int .u32 0, .int .i64 0, .int .i64 0, .int .i64 0, .int .i64 0]) (some ⟨b3, 0, none⟩) A.s.cap.toNat :: Own 64 1 (u32s (SM.order A.s)) a1 c1 :: Slt xp A.s :: cel b2 #[.slice none 0 0, .slice none 0 0] 62 :: cel a #[.pointer (some ⟨xp, 0, none⟩), .slice xna (List.length (nds A.nodes)) xnc, .slice xca (List.length (i64s A.cnt)) xcc, .int .u64 xrd] 153 :: Own 165 8 (nds A.nodes) xna xnc :: Own 3 1 (i64s A.cnt) xca xcc :: cel b1 #[.slice none 0 0, .slice none 0 0] 62 :: L) w := hS
          refine WL.nil ?_
          refine ⟨by exact ⟨RQ.pure rfl rfl rfl rfl, RQ.pure rfl rfl rfl rfl, RQ.pure rfl rfl rfl rfl, RQ.load rfl rfl rfl rfl (hS.ld 4 rfl rfl)⟩, ?_⟩
          refine WQ.build rfl rfl (cs := [.slice (some ⟨b3, 0, none⟩) A.s.cap.toNat A.s.cap.toNat, .slice a1 (List.length (u32s (SM.order A.s))) c1]) zv_62 rfl rfl ?_
          refine WQ.nil ?_
          intro m5
          replace hS := hS.drewN m5; generalize hwm5 : World.drewN _ _ = w at *; clear hwm5
          refine WL.stF rfl rfl rfl 3 hS rfl rfl rfl rfl rfl ag_62 (fun w hS => ?_)
          replace hS : St g (Own 167 11 (List.replicate A.s.cap.toNat [.bool false, .int .i64 0, .int .u32 0, .int .i64 0, .int .i64 0, .int .u32 0, .int .u32 0, .int .i64 0, .int .i64 0, .int .i64 0, .int .i64 0]) (some ⟨b3, 0, none⟩) A.s.cap.toNat :: Own 64 1 (u32s (SM.order A.s)) a1 c1 :: Slt xp A.s :: cel b2 #[.slice (some ⟨b3, 0, none⟩) A.s.cap.toNat A.s.cap.toNat, .slice a1 (List.length (u32s (SM.order A.s))) c1] 62 :: cel a #[.pointer (some ⟨xp, 0, none⟩), .slice xna (List.length (nds A.nodes)) xnc, .slice xca (List.length (i64s A.cnt)) xcc, .int .u64 xrd] 153 :: Own 165 8 (nds A.nodes) xna xnc :: Own 3 1 (i64s A.cnt) xca xcc :: cel b1 #[.slice none 0 0, .slice none 0 0] 62 :: L) w := hS
          refine WL.nil ?_
          refine ⟨by exact trivial, ?_⟩
          intro m6
          replace hS := hS.drewN m6; generalize hwm6 : World.drewN _ _ = w at *; clear hwm6
          exact ⟨b2, (some ⟨b3, 0, none⟩), a1, c1, rfl, (hS.sel 8 [3, 0, 0, 4, 1, 0, 0, 0] rfl)⟩
    · refine WL.new rfl rfl zv_62 hS (fun b2 w hS => ?_)
      refine WL.nil ?_
      refine ⟨by exact ⟨RQ.pure rfl rfl rfl rfl, RQ.pure rfl rfl rfl rfl, RQ.pure rfl rfl rfl rfl, RQ.pure rfl rfl rfl rfl, RQ.load rfl rfl rfl rfl (hS.ld 2 rfl rfl)⟩, ?_⟩
      refine WQ.nil ?_
      intro m2
      replace hS := hS.drewN m2; generalize hwm2 : World.drewN _ _ = w at *; clear hwm2
      refine WL.call rfl rfl (ar_cap_o (a := a) (p := xp) (A := A) (na := xna) (nc := xnc) (ca := xca) (cc := xcc) (rd := xrd) (hA := hA) (hS := (hS.sel 6 [2, 2, 2, 2, 0, 0] rfl))) rfl ?_
      clear hS; rintro _ w ⟨rfl, hS⟩
      replace hS : St g (cel a #[.pointer (some ⟨xp, 0, none⟩), .slice xna (List.length (nds A.nodes)) xnc, .slice xca (List.length (i64s A.cnt)) xcc, .int .u64 xrd] 153 :: Slt xp A.s :: Own 165 8 (nds A.nodes) xna xnc :: Own 3 1 (i64s A.cnt) xca xcc :: cel b2 #[.slice none 0 0, .slice none 0 0] 62 :: cel b1 #[.slice none 0 0, .slice none 0 0] 62 :: L) w := hS
      refine WL.nil ?_
      refine ⟨by exact ⟨RQ.pure rfl rfl rfl rfl, RQ.pure rfl rfl rfl rfl, RQ.pure rfl rfl rfl rfl, RQ.load rfl rfl rfl rfl (hS.ld 0 rfl rfl)⟩, ?_⟩
      refine WQ.nil ?_
      intro m3
      replace hS := hS.drewN m3; generalize hwm3 : World.drewN _ _ = w at *; clear hwm3
      refine ⟨?_, ?_⟩
      · refine WL.make rfl rfl (v := A.s.cap) (v' := A.s.cap) (A.s.cap.toNat) (A.s.cap.toNat) el_60 hS rfl (by omega) rfl (by omega) (by omega) (Rm.of (by omega) (by decide)) (fun b3 w hS => ?_)
        replace hS : St g (Own 167 11 (List.replicate A.s.cap.toNat [.bool false, .int .i64 0, .int .u32 0, .int .i64 0, .int .i64 0, .int .u32 0, .int .u32 0, .int .i64 0, .int .i64 0, .int .i64 0, .int .i64 0]) (some ⟨b3, 0, none⟩) A.s.cap.toNat :: cel a #[.pointer (some ⟨xp, 0, none⟩), .slice xna (List.length (nds A.nodes)) xnc, .slice xca (List.length (i64s A.cnt)) xcc, .int .u64 xrd] 153 :: Slt xp A.s :: Own 165 8 (nds A.nodes) xna xnc :: Own 3 1 (i64s A.cnt) xca xcc :: cel b2 #[.slice none 0 0, .slice none 0 0] 62 :: cel b1 #[.slice none 0 0, .slice none 0 0] 62 :: L) w := hS
        refine WL.nil ?_
        refine ⟨by exact ⟨RQ.pure rfl rfl rfl rfl, RQ.pure rfl rfl rfl rfl, RQ.pure rfl rfl rfl rfl, RQ.load rfl rfl rfl rfl (hS.ld 1 rfl rfl)⟩, ?_⟩
        refine WQ.nil ?_
        intro m4
        replace hS := hS.drewN m4; generalize hwm4 : World.drewN _ _ = w at *; clear hwm4
        refine WL.call rfl rfl (sl_order (s := xp) (S := A.s) (hO := hs) (hS := (hS.sel 3 [2, 0, 0] rfl))) rfl ?_
        clear hS; rintro _ w ⟨a1, c1, rfl, hS⟩
        replace hS : St g (Own 64 1 (u32s (SM.order A.s)) a1 c1 :: Slt xp A.s :: Own 167 11 (List.replicate A.s.cap.toNat [.bool false, .int .i64 0, .int .u32 0, .int .i64 0, .int .i64 0, .int .u32 0, .int .u32 0, .int .i64 0, .int .i64 0, .int .i64 0, .int .i64 0]) (some ⟨b3, 0, none⟩) A.s.cap.toNat :: cel a #[.pointer (some ⟨xp, 0, none⟩), .slice xna (List.length (nds A.nodes)) xnc, .slice xca (List.length (i64s A.cnt)) xcc, .int .u64 xrd] 153 :: Own 165 8 (nds A.nodes) xna xnc :: Own 3 1 (i64s A.cnt) xca xcc :: cel b2 #[.slice none 0 0, .slice none 0 0] 62 :: cel b1 #[.slice none 0 0, .slice none 0 0] 62 :: L) w := hS
        refine WL.nil ?_
        refine ⟨by exact trivial, ?_⟩
        refine WQ.build rfl rfl (cs := [.slice (some ⟨b3, 0, none⟩) A.s.cap.toNat A.s.cap.toNat, .slice a1 (List.length (u32s (SM.order A.s))) c1]) zv_62 rfl rfl ?_
        refine WQ.nil ?_
        intro m5
        replace hS := hS.drewN m5; generalize hwm5 : World.drewN _ _ = w at *; clear hwm5
        refine WL.stF rfl rfl rfl 6 hS rfl rfl rfl rfl rfl ag_62 (fun w hS => ?_)
        replace hS : St g (Own 64 1 (u32s (SM.order A.s)) a1 c1 :: Slt xp A.s :: Own 167 11 (List.replicate A.s.cap.toNat [.bool false, .int .i64 0, .int .u32 0, .int .i64 0, .int .i64 0, .int .u32 0, .int .u32 0, .int .i64 0, .int .i64 0, .int .i64 0, .int .i64 0]) (some ⟨b3, 0, none⟩) A.s.cap.toNat :: cel a #[.pointer (some ⟨xp, 0, none⟩), .slice xna (List.length (nds A.nodes)) xnc, .slice xca (List.length (i64s A.cnt)) xcc, .int .u64 xrd] 153 :: Own 165 8 (nds A.nodes) xna xnc :: Own 3 1 (i64s A.cnt) xca xcc :: cel b2 #[.slice (some ⟨b3, 0, none⟩) A.s.cap.toNat A.s.cap.toNat, .slice a1 (List.length (u32s (SM.order A.s))) c1] 62 :: cel b1 #[.slice none 0 0, .slice none 0 0] 62 :: L) w := hS
        refine WL.nil ?_
        refine ⟨by exact trivial, ?_⟩
        intro m6
        replace hS := hS.drewN m6; generalize hwm6 : World.drewN _ _ = w at *; clear hwm6
        exact ⟨b2, (some ⟨b3, 0, none⟩), a1, c1, rfl, (hS.sel 8 [6, 2, 0, 4, 1, 0, 0, 0] rfl)⟩
      · refine WL.call rfl rfl (sl_order (s := xp) (S := A.s) (hO := hs) (hS := (hS.sel 2 [1, 0] rfl))) rfl ?_
        clear hS; rintro _ w ⟨a1, c1, rfl, hS⟩
        replace hS : St g (Own 64 1 (u32s (SM.order A.s)) a1 c1 :: Slt xp A.s :: cel a #[.pointer (some ⟨xp, 0, none⟩), .slice xna (List.length (nds A.nodes)) xnc, .slice xca (List.length (i64s A.cnt)) xcc, .int .u64 xrd] 153 :: Own 165 8 (nds A.nodes) xna xnc :: Own 3 1 (i64s A.cnt) xca xcc :: cel b2 #[.slice none 0 0, .slice none 0 0] 62 :: cel b1 #[.slice none 0 0, .slice none 0 0] 62 :: L) w := hS
        refine WL.nil ?_
        refine ⟨by exact trivial, ?_⟩
        refine WQ.nil ?_
        intro m4
        replace hS := hS.drewN m4; generalize hwm4 : World.drewN _ _ = w at *; clear hwm4
        refine WL.make rfl rfl (v := A.s.cap) (v' := A.s.cap) (A.s.cap.toNat) (A.s.cap.toNat) el_60 hS rfl (by omega) rfl (by omega) (by omega) (Rm.of (by omega) (by decide)) (fun b3 w hS => ?_)
        replace hS : St g (Own 167 11 (List.replicate A.s.cap.toNat [.bool false, .int .i64 0, .int .u32 0, .int .i64 0, .int .i64 0, .int .u32 0, .int .u32 0, .int .i64 0, .int .i64 0, .int .i64 0, .int .i64 0]) (some ⟨b3, 0, none⟩) A.s.cap.toNat :: Own 64 1 (u32s (SM.order A.s)) a1 c1 :: Slt xp A.s :: cel a #[.pointer (some ⟨xp, 0, none⟩), .slice xna (List.length (nds A.nodes)) xnc, .slice xca (List.length (i64s A.cnt)) xcc, .int .u64 xrd] 153 :: Own 165 8 (nds A.nodes) xna xnc :: Own 3 1 (i64s A.cnt) xca xcc :: cel b2 #[.slice none 0 0, .slice none 0 0] 62 :: cel b1 #[.slice none 0 0, .slice none 0 0] 62 :: L) w := hS
        refine WL.nil ?_
        refine ⟨by exact ⟨RQ.pure rfl rfl rfl rfl, RQ.pure rfl rfl rfl rfl, RQ.pure rfl rfl rfl rfl, RQ.load rfl rfl rfl rfl (hS.ld 3 rfl rfl)⟩, ?_⟩
        refine WQ.build rfl rfl (cs := [.slice (some ⟨b3, 0, none⟩) A.s.cap.toNat A.s.cap.toNat, .slice a1 (List.length (u32s (SM.order A.s))) c1]) zv_62 rfl rfl ?_
        refine WQ.nil ?_
        intro m5
        replace hS := hS.drewN m5; generalize hwm5 : World.drewN _ _ = w at *; clear hwm5
        refine WL.stF rfl rfl rfl 6 hS rfl rfl rfl rfl rfl ag_62 (fun w hS => ?_)
        replace hS : St g (Own 167 11 (List.replicate A.s.cap.toNat [.bool false, .int .i64 0, .int .u32 0, .int .i64 0, .int .i64 0, .int .u32 0, .int .u32 0, .int .i64 0, .int .i64 0, .int .i64 0, .int .i64 0]) (some ⟨b3, 0, none⟩) A.s.cap.toNat :: Own 64 1 (u32s (SM.order A.s)) a1 c1 :: Slt xp A.s :: cel a #[.pointer (some ⟨xp, 0, none⟩), .slice xna (List.length (nds A.nodes)) xnc, .slice xca (List.length (i64s A.cnt)) xcc, .int .u64 xrd] 153 :: Own 165 8 (nds A.nodes) xna xnc :: Own 3 1 (i64s A.cnt) xca xcc :: cel b2 #[.slice (some ⟨b3, 0, none⟩) A.s.cap.toNat A.s.cap.toNat, .slice a1 (List.length (u32s (SM.order A.s))) c1] 62 :: cel b1 #[.slice none 0 0, .slice none 0 0] 62 :: L) w := hS
        refine WL.nil ?_
        refine ⟨by exact trivial, ?_⟩
        intro m6
        replace hS := hS.drewN m6; generalize hwm6 : World.drewN _ _ = w at *; clear hwm6
        exact ⟨b2, (some ⟨b3, 0, none⟩), a1, c1, rfl, (hS.sel 8 [6, 0, 0, 4, 1, 0, 0, 0] rfl)⟩
  clear hS; rintro _ w j ⟨b, ua, ub, ud, rfl, hS⟩
  refine WC.seq ?_
  refine WC.seq ?_
  refine WC.region ?_
  rw [dmp_zero] at hS
  refine WL.run 4 [.slice ua A.s.cap.toNat A.s.cap.toNat] rfl (by exact hS.ld 0 rfl rfl) ?_
  refine WL.nil ?_
  refine WC.block ?_
  refine WC.loop [0, 2, 3, 17, 18] (fun kM vs w => ∃ (k : Nat), vs = [.pointer (some ⟨a, 0, none⟩), .pointer (some ⟨b1, 0, none⟩), .pointer (some ⟨b, 0, none⟩), .int .i64 (A.s.cap.toNat : Int), .int .i64 (k : Int)] ∧ St g (cel b #[.slice ua A.s.cap.toNat A.s.cap.toNat, .slice ub (List.length (u32s (SM.order A.s))) ud] 62 :: Own 167 11 (sls (AM.dmpK A k)) ua A.s.cap.toNat :: Own 64 1 (u32s (SM.order A.s)) ub ud :: cel b1 #[.slice none 0 0, .slice none 0 0] 62 :: cel a #[.pointer (some ⟨xp, 0, none⟩), .slice xna (List.length (nds A.nodes)) xnc, .slice xca (List.length (i64s A.cnt)) xcc, .int .u64 xrd] 153 :: Slt xp A.s :: Own 165 8 (nds A.nodes) xna xnc :: Own 3 1 (i64s A.cnt) xca xcc :: L) w ∧ (k ≤ A.s.cap.toNat) ∧ (A.s.cap.toNat - k) = kM) (A.s.cap.toNat - 0) ⟨0, rfl, hS, (Nat.zero_le _), rfl⟩ ?_
  clear hS; rintro _ _ w j ⟨k, rfl, hS, hk, rfl⟩
  refine WC.seq ?_
  refine WC.region ?_
  refine WL.r 1 rfl ?_
  refine WL.nil ?_
  refine WC.seq ?_
  refine WC.ifP rfl (fun cd1 => ?_) (fun cd1 => ?_)
  · refine WC.skip ?_
    as_aux_lemma =>
      refine WC.seq ?_
      refine WC.block ?_
      refine WC.seq ?_
      refine WC.region ?_
      refine WL.r 2 rfl ?_
      refine WL.nil ?_
      refine WC.seq ?_
      refine WC.region ?_
      obtain ⟨nd, hnd, hne⟩ := dmp_nd hA (k := k) (by omega); have hnl := nds_len A.nodes; have hnn := hA.nl; have hkl := AM.dmpK_len A k; have hsl := sls_len (AM.dmpK A k); obtain ⟨z, hz⟩ : ∃ z, (AM.dmpK A k)[k]? = some z := ⟨_, List.getElem?_eq_getElem (by omega)⟩
      refine WL.r 2 rfl ?_
      refine WL.nw 22 rfl (w64 (by omega)) ?_
      refine WL.r 1 rfl ?_
      refine WL.nw 23 rfl (wu32 (by omega)) ?_
      refine WL.r 1 rfl ?_
      refine WL.nil ?_
      refine WC.plan [([0, 2, 3, 7, 9, 10, 12, 13, 15, 19, 1, 4, 16, 5, 17, 6, 18, 20, 21], some (8, [0, 1, 2, 9, 10, 12, 13, 15, 16, 17, 18, 19, 20, 21])), ([], some (11, [0, 1, 2, 12, 13, 15, 16, 17, 18, 19, 20, 21])), ([], some (14, [0, 1, 2, 15, 16, 17, 18, 19, 20, 21])), ([22, 23], some (24, []))] (by kernel_rfl) (by kernel_rfl) ?_
      refine WQ.run 17 [.slice ua A.s.cap.toNat A.s.cap.toNat, .pointer (some ⟨xp, 0, none⟩), .slice xna (List.length (nds A.nodes)) xnc] rfl (by exact ⟨hS.ld 0 rfl rfl, hS.ld 4 rfl rfl, hS.ld 4 rfl rfl⟩) ?_
      refine WQ.ix rfl rfl (i := (k : Int) + 1) (k + 1) el_151 rfl rfl (by omega) (by omega) (hS.rdO 6 rfl (nds_at hnd)).1 ?_
      refine WQ.ldC rfl rfl [.int .i64 nd.key, .int .i64 nd.val, .int .u32 nd.lf, .int .u32 nd.rg, .int .i64 nd.size, .int .i64 nd.sum, .int .i64 nd.mn, .int .i64 nd.mx] ag_165 rfl (hS.rdO 6 rfl (nds_at hnd)).2 ?_
      refine WQ.nil ?_
      intro m1
      replace hS := hS.drewN m1; generalize hwm1 : World.drewN _ _ = w at *; clear hwm1
      refine WL.call rfl rfl (sl_ok (s := xp) (S := A.s) (i := (k : Int) + 1) (hl := hle) (hi := (by omega)) (hS := (hS.sel 6 [5, 0, 0, 0, 0, 0] rfl))) rfl ?_
      clear hS; rintro _ w ⟨rfl, hS⟩
      replace hS : St g (Slt xp A.s :: cel b #[.slice ua A.s.cap.toNat A.s.cap.toNat, .slice ub (List.length (u32s (SM.order A.s))) ud] 62 :: Own 167 11 (sls (AM.dmpK A k)) ua A.s.cap.toNat :: Own 64 1 (u32s (SM.order A.s)) ub ud :: cel b1 #[.slice none 0 0, .slice none 0 0] 62 :: cel a #[.pointer (some ⟨xp, 0, none⟩), .slice xna (List.length (nds A.nodes)) xnc, .slice xca (List.length (i64s A.cnt)) xcc, .int .u64 xrd] 153 :: Own 165 8 (nds A.nodes) xna xnc :: Own 3 1 (i64s A.cnt) xca xcc :: L) w := hS
      refine WL.nil ?_
      refine ⟨by exact ⟨RQ.pure rfl rfl rfl rfl, RQ.load rfl rfl rfl rfl (hS.ld 1 rfl rfl), RQ.pure rfl rfl rfl rfl, RQ.pure rfl rfl rfl rfl, RQ.pure rfl rfl rfl rfl, RQ.pure rfl rfl rfl rfl, RQ.pure rfl rfl rfl rfl, RQ.pure rfl rfl rfl rfl, RQ.pure rfl rfl rfl rfl, RQ.pure rfl rfl rfl rfl, RQ.load rfl rfl rfl rfl (hS.ld 5 rfl rfl), RQ.pure rfl rfl rfl rfl, RQ.ix rfl rfl (i := (k : Int) + 1) (k + 1) el_151 rfl rfl (by omega) (by omega) (hS.rdO 6 rfl (nds_at hnd)).1 rfl rfl, RQ.ldC rfl rfl [.int .i64 nd.key, .int .i64 nd.val, .int .u32 nd.lf, .int .u32 nd.rg, .int .i64 nd.size, .int .i64 nd.sum, .int .i64 nd.mn, .int .i64 nd.mx] ag_165 rfl (hS.rdO 6 rfl (nds_at hnd)).2 rfl rfl⟩, ?_⟩
      refine WQ.nil ?_
      intro m2
      replace hS := hS.drewN m2; generalize hwm2 : World.drewN _ _ = w at *; clear hwm2
      refine WL.call rfl rfl (ar_count_o (a := a) (p := xp) (A := A) (na := xna) (nc := xnc) (ca := xca) (cc := xcc) (rd := xrd) (i := (k : Int) + 1) (hA := hA) (hi := (by omega)) (hS := (hS.sel 8 [5, 0, 4, 4, 0, 0, 0, 0] rfl))) rfl ?_
      clear hS; rintro _ w ⟨rfl, hS⟩
      replace hS : St g (cel a #[.pointer (some ⟨xp, 0, none⟩), .slice xna (List.length (nds A.nodes)) xnc, .slice xca (List.length (i64s A.cnt)) xcc, .int .u64 xrd] 153 :: Slt xp A.s :: Own 165 8 (nds A.nodes) xna xnc :: Own 3 1 (i64s A.cnt) xca xcc :: cel b #[.slice ua A.s.cap.toNat A.s.cap.toNat, .slice ub (List.length (u32s (SM.order A.s))) ud] 62 :: Own 167 11 (sls (AM.dmpK A k)) ua A.s.cap.toNat :: Own 64 1 (u32s (SM.order A.s)) ub ud :: cel b1 #[.slice none 0 0, .slice none 0 0] 62 :: L) w := hS
      refine WL.nil ?_
      refine ⟨by exact ⟨RQ.pure rfl rfl rfl rfl, RQ.load rfl rfl rfl rfl (hS.ld 4 rfl rfl), RQ.pure rfl rfl rfl rfl, RQ.pure rfl rfl rfl rfl, RQ.pure rfl rfl rfl rfl, RQ.pure rfl rfl rfl rfl, RQ.pure rfl rfl rfl rfl, RQ.pure rfl rfl rfl rfl, RQ.load rfl rfl rfl rfl (hS.ld 0 rfl rfl), RQ.pure rfl rfl rfl rfl, RQ.ix rfl rfl (i := (k : Int) + 1) (k + 1) el_151 rfl rfl (by omega) (by omega) (hS.rdO 2 rfl (nds_at hnd)).1 rfl rfl, RQ.ldC rfl rfl [.int .i64 nd.key, .int .i64 nd.val, .int .u32 nd.lf, .int .u32 nd.rg, .int .i64 nd.size, .int .i64 nd.sum, .int .i64 nd.mn, .int .i64 nd.mx] ag_165 rfl (hS.rdO 2 rfl (nds_at hnd)).2 rfl rfl⟩, ?_⟩
      refine WQ.nil ?_
      intro m3
      replace hS := hS.drewN m3; generalize hwm3 : World.drewN _ _ = w at *; clear hwm3
      refine WL.call rfl rfl (ar_gen_o (a := a) (p := xp) (A := A) (na := xna) (nc := xnc) (ca := xca) (cc := xcc) (rd := xrd) (i := (k : Int) + 1) (hA := hA) (hi := (by omega)) (hS := hS)) rfl ?_
      clear hS; rintro _ w ⟨rfl, hS⟩
      replace hS : St g (cel a #[.pointer (some ⟨xp, 0, none⟩), .slice xna (List.length (nds A.nodes)) xnc, .slice xca (List.length (i64s A.cnt)) xcc, .int .u64 xrd] 153 :: Slt xp A.s :: Own 165 8 (nds A.nodes) xna xnc :: Own 3 1 (i64s A.cnt) xca xcc :: cel b #[.slice ua A.s.cap.toNat A.s.cap.toNat, .slice ub (List.length (u32s (SM.order A.s))) ud] 62 :: Own 167 11 (sls (AM.dmpK A k)) ua A.s.cap.toNat :: Own 64 1 (u32s (SM.order A.s)) ub ud :: cel b1 #[.slice none 0 0, .slice none 0 0] 62 :: L) w := hS
      refine WL.nil ?_
      refine ⟨by exact ⟨RQ.pure rfl rfl rfl rfl, RQ.load rfl rfl rfl rfl (hS.ld 4 rfl rfl), RQ.pure rfl rfl rfl rfl, RQ.pure rfl rfl rfl rfl, RQ.pure rfl rfl rfl rfl, RQ.pure rfl rfl rfl rfl, RQ.load rfl rfl rfl rfl (hS.ld 0 rfl rfl), RQ.pure rfl rfl rfl rfl, RQ.ix rfl rfl (i := (k : Int) + 1) (k + 1) el_151 rfl rfl (by omega) (by omega) (hS.rdO 2 rfl (nds_at hnd)).1 rfl rfl, RQ.ldC rfl rfl [.int .i64 nd.key, .int .i64 nd.val, .int .u32 nd.lf, .int .u32 nd.rg, .int .i64 nd.size, .int .i64 nd.sum, .int .i64 nd.mn, .int .i64 nd.mx] ag_165 rfl (hS.rdO 2 rfl (nds_at hnd)).2 rfl rfl⟩, ?_⟩
      refine WQ.build rfl rfl (cs := [.bool (A.s.ok ((k : Int) + 1)), .int .i64 (AM.cntD A ((k : Int) + 1)), .int .u32 (A.s.genOf ((k : Int) + 1)), .int .i64 nd.key, .int .i64 nd.val, .int .u32 nd.lf, .int .u32 nd.rg, .int .i64 nd.size, .int .i64 nd.sum, .int .i64 nd.mn, .int .i64 nd.mx]) zv_167 rfl rfl ?_
      refine WQ.ix rfl rfl (i := (k : Int)) (k) el_60 rfl rfl (by omega) (by omega) (hS.rdO 5 rfl (sls_at hz)).1 ?_
      refine WQ.nil ?_
      intro m4
      replace hS := hS.drewN m4; generalize hwm4 : World.drewN _ _ = w at *; clear hwm4
      refine WL.stS rfl rfl rfl 5 (k) [.bool z.al, .int .i64 z.cn, .int .u32 z.ge, .int .i64 z.nd.key, .int .i64 z.nd.val, .int .u32 z.nd.lf, .int .u32 z.nd.rg, .int .i64 z.nd.size, .int .i64 z.nd.sum, .int .i64 z.nd.mn, .int .i64 z.nd.mx] (sls (AM.dmpK A (k + 1))) hS rfl (sls_at hz) rfl rfl rfl rfl ag_167 (dmp_st hne) (fun w hS => ?_)
      replace hS : St g (cel a #[.pointer (some ⟨xp, 0, none⟩), .slice xna (List.length (nds A.nodes)) xnc, .slice xca (List.length (i64s A.cnt)) xcc, .int .u64 xrd] 153 :: Slt xp A.s :: Own 165 8 (nds A.nodes) xna xnc :: Own 3 1 (i64s A.cnt) xca xcc :: cel b #[.slice ua A.s.cap.toNat A.s.cap.toNat, .slice ub (List.length (u32s (SM.order A.s))) ud] 62 :: Own 167 11 (sls (AM.dmpK A (k + 1))) ua A.s.cap.toNat :: Own 64 1 (u32s (SM.order A.s)) ub ud :: cel b1 #[.slice none 0 0, .slice none 0 0] 62 :: L) w := hS
      refine WL.nil ?_
      refine ⟨by exact trivial, ?_⟩
      intro m5
      replace hS := hS.drewN m5; generalize hwm5 : World.drewN _ _ = w at *; clear hwm5
      as_aux_lemma =>
        refine WC.region ?_
        refine WL.r 1 rfl ?_
        refine WL.nw 48 rfl (w64 (by omega)) ?_
        refine WL.r 1 rfl ?_
        refine WL.nil ?_
        exact ⟨_, by omega, k + 1, rfl, (hS.sel 8 [4, 4, 4, 4, 0, 0, 0, 0] rfl), (by omega), rfl⟩
  · refine WC.exit ?_
    as_aux_lemma =>
      refine WC.seq ?_
      refine WC.region ?_
      refine WL.ldF rfl rfl 0 hS rfl rfl ag_62 ?_
      refine WL.stF rfl rfl rfl 3 hS rfl rfl rfl rfl rfl ag_62 (fun w hS => ?_)
      replace hS : St g (cel b #[.slice ua A.s.cap.toNat A.s.cap.toNat, .slice ub (List.length (u32s (SM.order A.s))) ud] 62 :: Own 167 11 (sls (AM.dmpK A k)) ua A.s.cap.toNat :: Own 64 1 (u32s (SM.order A.s)) ub ud :: cel b1 #[.slice ua A.s.cap.toNat A.s.cap.toNat, .slice ub (List.length (u32s (SM.order A.s))) ud] 62 :: cel a #[.pointer (some ⟨xp, 0, none⟩), .slice xna (List.length (nds A.nodes)) xnc, .slice xca (List.length (i64s A.cnt)) xcc, .int .u64 xrd] 153 :: Slt xp A.s :: Own 165 8 (nds A.nodes) xna xnc :: Own 3 1 (i64s A.cnt) xca xcc :: L) w := hS
      refine WL.nil ?_
      refine WC.ret ?_
      replace hS := St.exClose (f := arnF a A) (L := cel b #[.slice ua A.s.cap.toNat A.s.cap.toNat, .slice ub (List.length (u32s (SM.order A.s))) ud] 62 :: Own 167 11 (sls (AM.dmpK A k)) ua A.s.cap.toNat :: Own 64 1 (u32s (SM.order A.s)) ub ud :: cel b1 #[.slice ua A.s.cap.toNat A.s.cap.toNat, .slice ub (List.length (u32s (SM.order A.s))) ud] 62 :: L) ⟨xp, xna, xnc, xca, xcc, xrd⟩ ((hS.sel 8 [4, 4, 4, 4, 0, 0, 0, 0] rfl))
      replace hS : St g (Arn a A :: cel b #[.slice ua A.s.cap.toNat A.s.cap.toNat, .slice ub (List.length (u32s (SM.order A.s))) ud] 62 :: Own 167 11 (sls (AM.dmpK A k)) ua A.s.cap.toNat :: Own 64 1 (u32s (SM.order A.s)) ub ud :: cel b1 #[.slice ua A.s.cap.toNat A.s.cap.toNat, .slice ub (List.length (u32s (SM.order A.s))) ud] 62 :: L) w := hS
      refine ⟨[.agg #[.slice ua A.s.cap.toNat A.s.cap.toNat, .slice ub (List.length (u32s (SM.order A.s))) ud]], ⟨⟨_, rfl, hS.lvF 4 rfl ag_62⟩, trivial⟩, ?_⟩
      replace hS := (hS.sel 5 [2, 2, 0] rfl)
      have hke : k = A.s.cap.toNat := (by omega); subst hke; rw [AM.dmpK_end] at hS; exact ⟨_, _, _, _, by rw [sls_len, AM.dmp_len]; rfl, hS⟩
end Go.Proofs.YtlnlnebibgdjdaaGreat
/-! ## E5 -/
namespace Go.Proofs.YtlnlnebibgdjdaaGreat
open Go Go.V Go.RowKit
theorem rts_drop {A : AM} {L : List Kvs} {rs : List Int} (h : RTs A L rs) (k : Nat) : RTs A (L.drop k) (rs.drop k) := by
  refine ⟨by rw [List.length_drop, List.length_drop, h.len], fun i r hr => ?_⟩
  rw [List.getElem?_drop] at hr
  obtain ⟨t, h1, h2, h3⟩ := h.get _ r hr
  refine ⟨t, h1, h2, h3.trans ?_⟩
  unfold lsA
  rw [List.getD_eq_getElem?_getD, List.getD_eq_getElem?_getD, List.getElem?_drop]
theorem lok_drop {L : List Kvs} (h : LOk L) (k : Nat) : LOk (L.drop k) := fun l hl => h l (List.mem_of_mem_drop hl)
theorem rts_dropL {A : AM} {LL : List LsE} {rs : List Int} (h : RTs A (LL.map LsE.es) rs) (k : Nat) : RTs A ((LL.drop k).map LsE.es) (rs.drop k) := by
  rw [List.map_drop]; exact rts_drop h k
theorem lok_dropL {LL : List LsE} (h : LOk (LL.map LsE.es)) (k : Nat) : LOk ((LL.drop k).map LsE.es) := by
  rw [List.map_drop]; exact lok_drop h k
theorem enL_drop (l : List LsE) (k : Nat) : (enL l).drop k = enL (l.drop k) := by simp [enL]
theorem order_len {S : SM} (h : SOk S) : (SM.order S).length ≤ 140000 := by
  have h1 := h.rle
  have h2 := h.cap
  have h3 := h.fr
  have h4 : S.cap = (S.used.length : Int) - 1 := rfl
  unfold SM.order ordU
  rw [List.length_append, List.length_reverse, List.length_map, List.length_range]
  omega
set_option maxHeartbeats 2000000 in
set_option maxRecDepth 8192 in
theorem law_hev {g w : World} {L : List HP} (raw : Kvs) (u : Option Addr) (d : Nat) (q : Int) (S : List Chg) (us : Option Addr) (ds : Nat) (lo hi key fr : Int) (hq : 0 ≤ q ∧ q ≤ 18446744073709551615) (hraw : kvR raw) (hS0 : stR S) (hSl : S.length ≤ 9223372036854775807) (hfr : Ir fr) (hS : St g (Sh 77 2 (en2 raw) u d :: Sh 79 4 (ch4 S) us ds :: L) w) :
    Sp Tryz.prog 6 [.slice u (List.length (en2 raw)) d, .int .u64 q, .slice us (List.length (ch4 S)) ds, .int .i64 lo, .int .i64 hi, .int .i64 key, .int .i64 fr] w (fun v w' => v = .bool true ∧ St g (L) w') := by
  refine Sp.enter Tryz.func6 rfl (by kernel_rfl) (by kernel_rfl) ?_
  refine WC.seq ?_
  refine WC.region ?_
  refine WL.r 1 rfl ?_
  refine WL.nil ?_
  refine WC.seq ?_
  refine WC.region ?_
  replace hS : St g (Sh 79 4 (ch4 S) us ds :: Sh 77 2 (en2 raw) u d :: Sh 79 4 (ch4 S) us ds :: L) w := hS.dup 1 rfl fun _ _ h => Sh.dup h
  refine WL.r 3 rfl ?_
  refine WL.call rfl rfl (kt_chain (raw := raw) (u := u) (d := d) (q := q) (S := S) (us := us) (ds := ds) (hq := hq) (hraw := hraw) (hS0 := hS0) (hSl := hSl) (hS := (hS.sel 2 [1, 0] rfl))) rfl ?_
  clear hS; rintro _ w ⟨a1, A1, R1, rs1, ru1, rc1, LL1, lu1, lc1, rfl, hS, f1, f2, f3, f4⟩
  replace hS : St g (Arn a1 A1 :: Own 64 1 (u32s rs1) ru1 rc1 :: Own 49 1 (enL LL1) lu1 lc1 :: Shs leF LL1 :: Sh 79 4 (ch4 S) us ds :: L) w := hS
  refine WL.r 9 rfl ?_
  refine WL.nil ?_
  refine WC.seq ?_
  refine WC.seq ?_
  refine WC.region ?_
  refine WL.call rfl rfl (awake27_spec   (hS := hS)) rfl ?_
  clear hS; rintro _ w ⟨rfl, hS⟩
  replace hS : St g (Arn a1 A1 :: Own 64 1 (u32s rs1) ru1 rc1 :: Own 49 1 (enL LL1) lu1 lc1 :: Shs leF LL1 :: Sh 79 4 (ch4 S) us ds :: L) w := hS
  refine WL.r 2 rfl ?_
  refine WL.ung rfl rfl rfl ?_
  refine WL.r 1 rfl ?_
  refine WL.ung rfl rfl rfl ?_
  refine WL.r 2 rfl ?_
  refine WL.nil ?_
  as_aux_lemma =>
    refine WC.ifF rfl rfl ?_
    refine WC.skip ?_
    refine WC.seq ?_
    refine WC.region ?_
    have hul := u32s_len rs1; have hcl := ch4_len S
    refine WL.r 1 rfl ?_
    refine WL.call rfl rfl (ar_dump (a := a1) (A := A1) (hA := f1.toAWf) (hS := hS)) rfl ?_
    clear hS; rintro _ w ⟨a2, c1, a3, c2, rfl, hS⟩
    replace hS : St g (Own 167 11 (sls (AM.dmp A1)) a2 c1 :: Own 64 1 (u32s (SM.order A1.s)) a3 c2 :: Arn a1 A1 :: Own 64 1 (u32s rs1) ru1 rc1 :: Own 49 1 (enL LL1) lu1 lc1 :: Shs leF LL1 :: Sh 79 4 (ch4 S) us ds :: L) w := hS
    refine WL.r 4 rfl ?_
    refine WL.nw 41 rfl (w64 (by omega)) ?_
    refine WL.call rfl rfl (md_spec (k := fr) (n := (List.length (u32s rs1) : Int) + 1) (hk := hfr) (hn := (by omega)) (hS := hS)) rfl ?_
    clear hS; rintro _ w ⟨rfl, hS⟩
    replace hS : St g (Own 167 11 (sls (AM.dmp A1)) a2 c1 :: Own 64 1 (u32s (SM.order A1.s)) a3 c2 :: Arn a1 A1 :: Own 64 1 (u32s rs1) ru1 rc1 :: Own 49 1 (enL LL1) lu1 lc1 :: Shs leF LL1 :: Sh 79 4 (ch4 S) us ds :: L) w := hS
    refine WL.new rfl rfl zv_62 hS (fun b1 w hS => ?_)
    refine WL.stF rfl rfl rfl 0 hS rfl rfl rfl rfl rfl ag_62 (fun w hS => ?_)
    replace hS : St g (cel b1 #[.slice a2 (List.length (sls (AM.dmp A1))) c1, .slice a3 (List.length (u32s (SM.order A1.s))) c2] 62 :: Own 167 11 (sls (AM.dmp A1)) a2 c1 :: Own 64 1 (u32s (SM.order A1.s)) a3 c2 :: Arn a1 A1 :: Own 64 1 (u32s rs1) ru1 rc1 :: Own 49 1 (enL LL1) lu1 lc1 :: Shs leF LL1 :: Sh 79 4 (ch4 S) us ds :: L) w := hS
    refine WL.r 1 rfl ?_
    refine WL.nil ?_
    refine WC.seq ?_
    refine WC.seq ?_
    refine WC.region ?_
    refine WL.r 3 rfl ?_
    refine WL.rG 5 rfl (fun j => ?_)
    refine WL.prop 50 rfl (band (dd _) (dd _)) ?_
    refine WL.nil ?_
    as_aux_lemma =>
      refine WC.cut [3, 4, 5, 14, 15, 16, 17, 19, 20] (fun vs w => ∃ (key2 : Int), vs = [.int .i64 lo, .int .i64 hi, .int .i64 key2, .bool false, .pointer (some ⟨a1, 0, none⟩), .slice ru1 (List.length (u32s rs1)) rc1, .slice lu1 (List.length (enL LL1)) lc1, .pointer (some ⟨b1, 0, none⟩), .int .i64 (fr % ((List.length (u32s rs1) : Int) + 1))] ∧ St g (cel b1 #[.slice a2 (List.length (sls (AM.dmp A1))) c1, .slice a3 (List.length (u32s (SM.order A1.s))) c2] 62 :: Own 167 11 (sls (AM.dmp A1)) a2 c1 :: Own 64 1 (u32s (SM.order A1.s)) a3 c2 :: Arn a1 A1 :: Own 64 1 (u32s rs1) ru1 rc1 :: Own 49 1 (enL LL1) lu1 lc1 :: Shs leF LL1 :: Sh 79 4 (ch4 S) us ds :: L) w) ?_ ?_
      · refine WC.ifP rfl (fun cd1 => ?_) (fun cd1 => ?_)
        · refine WC.region ?_
          refine WL.r 1 rfl ?_
          obtain ⟨s, hs⟩ : ∃ s, S[0]? = some s := ⟨_, List.getElem?_eq_getElem (by omega)⟩
          refine WL.ix rfl rfl (i := 0) (0) el_73 rfl rfl (by omega) (by omega) (hS.rdS 7 rfl (ch4_at hs)).1 ?_
          refine WL.run 4 [.int .i64 s.2.1] rfl (by exact (hS.rdS 7 rfl (ch4_at hs)).2 1 _ rfl) ?_
          refine WL.nil ?_
          exact ⟨s.2.1, rfl, hS⟩
        · refine WC.skip ?_
          exact ⟨key, rfl, hS⟩
      clear hS; rintro _ w j ⟨key2, rfl, hS⟩
      refine WC.seq ?_
      refine WC.plan [([0, 1, 2, 4, 5, 7, 8, 10, 11, 3, 9], some (6, [7, 8, 9, 10, 11])), ([], some (12, [])), ([], some (13, [])), ([14, 15, 16, 17, 19, 21, 22, 24, 25, 18, 23], some (20, [21, 22, 23, 24, 25])), ([], some (26, [])), ([], some (27, [])), ([28, 29, 30, 32], some (31, [32])), ([], some (33, [])), ([34, 35], none)] (by kernel_rfl) (by kernel_rfl) ?_
      obtain ⟨n, hn⟩ : ∃ n : Nat, fr % ((List.length (u32s rs1) : Int) + 1) = (n : Int) := ⟨(fr % ((List.length (u32s rs1) : Int) + 1)).toNat, by have := Int.emod_nonneg fr (b := (List.length (u32s rs1) : Int) + 1) (by omega); omega⟩; have hn2 := Int.emod_lt_of_pos fr (b := (List.length (u32s rs1) : Int) + 1) (by omega); have hLl : LL1.length = rs1.length := (by have := f2.len; rw [List.length_map] at this; exact this); have hnl := enL_len LL1; have hT := rts_dropL f2 n; have hK := lok_dropL f3 n; have hdr : (rs1.drop n).length ≤ 100 := (by rw [List.length_drop]; omega); have hdl : (LL1.drop n).length ≤ 100 := (by rw [List.length_drop]; omega); have hde : (rs1.drop n).length = (LL1.drop n).length := (by rw [List.length_drop, List.length_drop]; omega); have hsub : ∀ x ∈ LL1.drop n, x ∈ LL1 := (fun x hx => List.mem_of_mem_drop hx); have hle := hev_len (lo := lo) (hi := hi) hK (rs1.drop n).length; have hlk := hev_len (lo := key2) (hi := key2) hK (rs1.drop n).length; have hw := f1.toAWf; have hsm := AM.dmp_len A1; have hcp : A1.s.cap = (A1.s.used.length : Int) - 1 := rfl; have hce := hw.s.cap
      replace hS := (hS.at_ 4 rfl).share
      replace hS : St g (Sh 64 1 (u32s rs1) ru1 rc1 :: cel b1 #[.slice a2 (List.length (sls (AM.dmp A1))) c1, .slice a3 (List.length (u32s (SM.order A1.s))) c2] 62 :: Own 167 11 (sls (AM.dmp A1)) a2 c1 :: Own 64 1 (u32s (SM.order A1.s)) a3 c2 :: Arn a1 A1 :: Own 49 1 (enL LL1) lu1 lc1 :: Shs leF LL1 :: Sh 79 4 (ch4 S) us ds :: L) w := hS
      replace hS := (hS.at_ 5 rfl).share
      replace hS : St g (Sh 49 1 (enL LL1) lu1 lc1 :: Sh 64 1 (u32s rs1) ru1 rc1 :: cel b1 #[.slice a2 (List.length (sls (AM.dmp A1))) c1, .slice a3 (List.length (u32s (SM.order A1.s))) c2] 62 :: Own 167 11 (sls (AM.dmp A1)) a2 c1 :: Own 64 1 (u32s (SM.order A1.s)) a3 c2 :: Arn a1 A1 :: Shs leF LL1 :: Sh 79 4 (ch4 S) us ds :: L) w := hS
      refine WQ.r 9 rfl ?_
      refine WQ.slLo rfl rfl (v := fr % ((List.length (u32s rs1) : Int) + 1)) 1 (n) (u32s (rs1.drop n)) el_32 hS rfl rfl rfl (by omega) (by omega) (u32s_drop rs1 n) (fun a4 qa4 hS => ?_)
      replace hS : St g (Sh 64 1 (u32s (rs1.drop n)) a4 (rc1 - n) :: Sh 49 1 (enL LL1) lu1 lc1 :: Sh 64 1 (u32s rs1) ru1 rc1 :: cel b1 #[.slice a2 (List.length (sls (AM.dmp A1))) c1, .slice a3 (List.length (u32s (SM.order A1.s))) c2] 62 :: Own 167 11 (sls (AM.dmp A1)) a2 c1 :: Own 64 1 (u32s (SM.order A1.s)) a3 c2 :: Arn a1 A1 :: Shs leF LL1 :: Sh 79 4 (ch4 S) us ds :: L) w := hS
      refine WQ.slLo rfl rfl (v := fr % ((List.length (u32s rs1) : Int) + 1)) 1 (n) (enL (LL1.drop n)) el_41 hS rfl rfl rfl (by omega) (by omega) (enL_drop LL1 n) (fun a5 qa5 hS => ?_)
      replace hS : St g (Sh 49 1 (enL (LL1.drop n)) a5 (lc1 - n) :: Sh 64 1 (u32s (rs1.drop n)) a4 (rc1 - n) :: Sh 49 1 (enL LL1) lu1 lc1 :: Sh 64 1 (u32s rs1) ru1 rc1 :: cel b1 #[.slice a2 (List.length (sls (AM.dmp A1))) c1, .slice a3 (List.length (u32s (SM.order A1.s))) c2] 62 :: Own 167 11 (sls (AM.dmp A1)) a2 c1 :: Own 64 1 (u32s (SM.order A1.s)) a3 c2 :: Arn a1 A1 :: Shs leF LL1 :: Sh 79 4 (ch4 S) us ds :: L) w := hS
      refine WQ.nil ?_
      intro m1
      replace hS := hS.drewN m1; generalize hwm1 : World.drewN _ _ = w at *; clear hwm1
      refine WL.call rfl rfl (hi_events (a := a1) (A := A1) (R := R1) (Ls := (LL1.drop n).map LsE.es) (rs := rs1.drop n) (u := a4) (d := rc1 - n) (lo := lo) (hi := hi) (hA := f1) (hT := hT) (hL := hK) (hn := hdr) (hS := (hS.sel 8 [7, 1, 0, 0, 0, 0, 0, 0] rfl))) rfl ?_
      clear hS; rintro _ w ⟨a6, c3, rfl, hS⟩
      replace hS : St g (Own 84 5 (ev5 (hev lo hi ((LL1.drop n).map LsE.es) (List.length (rs1.drop n)))) a6 c3 :: Arn a1 A1 :: Sh 64 1 (u32s (rs1.drop n)) a4 (rc1 - n) :: Sh 49 1 (enL (LL1.drop n)) a5 (lc1 - n) :: Sh 49 1 (enL LL1) lu1 lc1 :: Sh 64 1 (u32s rs1) ru1 rc1 :: cel b1 #[.slice a2 (List.length (sls (AM.dmp A1))) c1, .slice a3 (List.length (u32s (SM.order A1.s))) c2] 62 :: Own 167 11 (sls (AM.dmp A1)) a2 c1 :: Own 64 1 (u32s (SM.order A1.s)) a3 c2 :: Shs leF LL1 :: Sh 79 4 (ch4 S) us ds :: L) w := hS
      refine WL.nil ?_
      refine ⟨by exact ⟨RQ.pure rfl rfl rfl rfl, RQ.pure rfl rfl rfl rfl, RQ.slLo rfl rfl (v := fr % ((List.length (u32s rs1) : Int) + 1)) (n) el_41 rfl rfl (by omega) (by omega) (enL_drop LL1 n) qa5 rfl rfl, RQ.pure rfl rfl rfl rfl, RQ.pure rfl rfl rfl rfl⟩, ?_⟩
      refine WQ.nil ?_
      intro m2
      replace hS := hS.drewN m2; generalize hwm2 : World.drewN _ _ = w at *; clear hwm2
      refine WL.call rfl rfl (r27_events (LL := LL1.drop n) (ZZ := LL1) (u := a5) (d := lc1 - n) (lo := lo) (hi := hi) (hL := hK) (hsub := hsub) (hn := hdl) (hS := (hS.sel 10 [3, 8, 0, 0, 0, 0, 0, 0, 0, 0] rfl))) rfl ?_
      clear hS; rintro _ w ⟨a7, c4, rfl, hS⟩
      replace hS : St g (Own 84 5 (ev5 (hev lo hi (List.map LsE.es (LL1.drop n)) (List.length (LL1.drop n)))) a7 c4 :: Sh 49 1 (enL (LL1.drop n)) a5 (lc1 - n) :: Shs leF LL1 :: Own 84 5 (ev5 (hev lo hi ((LL1.drop n).map LsE.es) (List.length (rs1.drop n)))) a6 c3 :: Arn a1 A1 :: Sh 64 1 (u32s (rs1.drop n)) a4 (rc1 - n) :: Sh 49 1 (enL LL1) lu1 lc1 :: Sh 64 1 (u32s rs1) ru1 rc1 :: cel b1 #[.slice a2 (List.length (sls (AM.dmp A1))) c1, .slice a3 (List.length (u32s (SM.order A1.s))) c2] 62 :: Own 167 11 (sls (AM.dmp A1)) a2 c1 :: Own 64 1 (u32s (SM.order A1.s)) a3 c2 :: Sh 79 4 (ch4 S) us ds :: L) w := hS
      refine WL.nil ?_
      refine ⟨by exact trivial, ?_⟩
      refine WQ.nil ?_
      intro m3
      replace hS := hS.drewN m3; generalize hwm3 : World.drewN _ _ = w at *; clear hwm3
      replace hS := (hS.at_ 3 rfl).share
      replace hS : St g (Sh 84 5 (ev5 (hev lo hi ((LL1.drop n).map LsE.es) (List.length (rs1.drop n)))) a6 c3 :: Own 84 5 (ev5 (hev lo hi (List.map LsE.es (LL1.drop n)) (List.length (LL1.drop n)))) a7 c4 :: Sh 49 1 (enL (LL1.drop n)) a5 (lc1 - n) :: Shs leF LL1 :: Arn a1 A1 :: Sh 64 1 (u32s (rs1.drop n)) a4 (rc1 - n) :: Sh 49 1 (enL LL1) lu1 lc1 :: Sh 64 1 (u32s rs1) ru1 rc1 :: cel b1 #[.slice a2 (List.length (sls (AM.dmp A1))) c1, .slice a3 (List.length (u32s (SM.order A1.s))) c2] 62 :: Own 167 11 (sls (AM.dmp A1)) a2 c1 :: Own 64 1 (u32s (SM.order A1.s)) a3 c2 :: Sh 79 4 (ch4 S) us ds :: L) w := hS
      replace hS := (hS.at_ 1 rfl).share
      replace hS : St g (Sh 84 5 (ev5 (hev lo hi (List.map LsE.es (LL1.drop n)) (List.length (LL1.drop n)))) a7 c4 :: Sh 84 5 (ev5 (hev lo hi ((LL1.drop n).map LsE.es) (List.length (rs1.drop n)))) a6 c3 :: Sh 49 1 (enL (LL1.drop n)) a5 (lc1 - n) :: Shs leF LL1 :: Arn a1 A1 :: Sh 64 1 (u32s (rs1.drop n)) a4 (rc1 - n) :: Sh 49 1 (enL LL1) lu1 lc1 :: Sh 64 1 (u32s rs1) ru1 rc1 :: cel b1 #[.slice a2 (List.length (sls (AM.dmp A1))) c1, .slice a3 (List.length (u32s (SM.order A1.s))) c2] 62 :: Own 167 11 (sls (AM.dmp A1)) a2 c1 :: Own 64 1 (u32s (SM.order A1.s)) a3 c2 :: Sh 79 4 (ch4 S) us ds :: L) w := hS
      refine WL.call rfl rfl (sameVV (xs := hev lo hi ((LL1.drop n).map LsE.es) (List.length (rs1.drop n))) (ys := hev lo hi (List.map LsE.es (LL1.drop n)) (List.length (LL1.drop n))) (a := a6) (b := a7) (c := c3) (d := c4) (he := (by rw [hde])) (hl := (by omega)) (hS := (hS.sel 2 [1, 0] rfl))) rfl ?_
      clear hS; rintro _ w ⟨rfl, hS⟩
      replace hS : St g (Sh 84 5 (ev5 (hev lo hi ((LL1.drop n).map LsE.es) (List.length (rs1.drop n)))) a6 c3 :: Sh 84 5 (ev5 (hev lo hi (List.map LsE.es (LL1.drop n)) (List.length (LL1.drop n)))) a7 c4 :: Sh 49 1 (enL (LL1.drop n)) a5 (lc1 - n) :: Shs leF LL1 :: Arn a1 A1 :: Sh 64 1 (u32s (rs1.drop n)) a4 (rc1 - n) :: Sh 49 1 (enL LL1) lu1 lc1 :: Sh 64 1 (u32s rs1) ru1 rc1 :: cel b1 #[.slice a2 (List.length (sls (AM.dmp A1))) c1, .slice a3 (List.length (u32s (SM.order A1.s))) c2] 62 :: Own 167 11 (sls (AM.dmp A1)) a2 c1 :: Own 64 1 (u32s (SM.order A1.s)) a3 c2 :: Sh 79 4 (ch4 S) us ds :: L) w := hS
      refine WL.nil ?_
      refine ⟨by exact trivial, ?_⟩
      refine WQ.r 1 rfl ?_
      refine WQ.ung rfl rfl rfl ?_
      refine WQ.r 1 rfl ?_
      refine WQ.ung rfl rfl rfl ?_
      refine WQ.r 1 rfl ?_
      refine WQ.ung rfl rfl rfl ?_
      refine WQ.r 1 rfl ?_
      refine WQ.ung rfl rfl rfl ?_
      refine WQ.r 1 rfl ?_
      refine WQ.ung rfl rfl rfl ?_
      refine WQ.r 1 rfl ?_
      refine WQ.ung rfl rfl rfl ?_
      refine WQ.r 1 rfl ?_
      refine WQ.ung rfl rfl rfl ?_
      refine WQ.r 1 rfl ?_
      refine WQ.ung rfl rfl rfl ?_
      refine WQ.r 1 rfl ?_
      refine WQ.ung rfl rfl rfl ?_
      refine WQ.slLo rfl rfl (v := fr % ((List.length (u32s rs1) : Int) + 1)) 7 (n) (u32s (rs1.drop n)) el_32 hS rfl rfl rfl (by omega) (by omega) (u32s_drop rs1 n) (fun a8 qa8 hS => ?_)
      replace hS : St g (Sh 64 1 (u32s (rs1.drop n)) a8 (rc1 - n) :: Sh 84 5 (ev5 (hev lo hi ((LL1.drop n).map LsE.es) (List.length (rs1.drop n)))) a6 c3 :: Sh 84 5 (ev5 (hev lo hi (List.map LsE.es (LL1.drop n)) (List.length (LL1.drop n)))) a7 c4 :: Sh 49 1 (enL (LL1.drop n)) a5 (lc1 - n) :: Shs leF LL1 :: Arn a1 A1 :: Sh 64 1 (u32s (rs1.drop n)) a4 (rc1 - n) :: Sh 49 1 (enL LL1) lu1 lc1 :: Sh 64 1 (u32s rs1) ru1 rc1 :: cel b1 #[.slice a2 (List.length (sls (AM.dmp A1))) c1, .slice a3 (List.length (u32s (SM.order A1.s))) c2] 62 :: Own 167 11 (sls (AM.dmp A1)) a2 c1 :: Own 64 1 (u32s (SM.order A1.s)) a3 c2 :: Sh 79 4 (ch4 S) us ds :: L) w := hS
      refine WQ.ung rfl rfl rfl ?_
      refine WQ.slLo rfl rfl (v := fr % ((List.length (u32s rs1) : Int) + 1)) 7 (n) (enL (LL1.drop n)) el_41 hS rfl rfl rfl (by omega) (by omega) (enL_drop LL1 n) (fun a9 qa9 hS => ?_)
      replace hS : St g (Sh 49 1 (enL (LL1.drop n)) a9 (lc1 - n) :: Sh 64 1 (u32s (rs1.drop n)) a8 (rc1 - n) :: Sh 84 5 (ev5 (hev lo hi ((LL1.drop n).map LsE.es) (List.length (rs1.drop n)))) a6 c3 :: Sh 84 5 (ev5 (hev lo hi (List.map LsE.es (LL1.drop n)) (List.length (LL1.drop n)))) a7 c4 :: Sh 49 1 (enL (LL1.drop n)) a5 (lc1 - n) :: Shs leF LL1 :: Arn a1 A1 :: Sh 64 1 (u32s (rs1.drop n)) a4 (rc1 - n) :: Sh 49 1 (enL LL1) lu1 lc1 :: Sh 64 1 (u32s rs1) ru1 rc1 :: cel b1 #[.slice a2 (List.length (sls (AM.dmp A1))) c1, .slice a3 (List.length (u32s (SM.order A1.s))) c2] 62 :: Own 167 11 (sls (AM.dmp A1)) a2 c1 :: Own 64 1 (u32s (SM.order A1.s)) a3 c2 :: Sh 79 4 (ch4 S) us ds :: L) w := hS
      refine WQ.nil ?_
      intro m4
      replace hS := hS.drewN m4; generalize hwm4 : World.drewN _ _ = w at *; clear hwm4
      refine WL.ung rfl rfl rfl ?_
      refine WL.call rfl rfl (hi_log (a := a1) (A := A1) (R := R1) (Ls := (LL1.drop n).map LsE.es) (rs := rs1.drop n) (u := a8) (d := rc1 - n) (key := key2) (hA := f1) (hT := hT) (hL := hK) (hn := hdr) (hS := (hS.sel 7 [6, 1, 0, 0, 0, 0, 0] rfl))) rfl ?_
      clear hS; rintro _ w ⟨a10, c5, rfl, hS⟩
      replace hS : St g (Own 84 5 (ev5 (hev key2 key2 ((LL1.drop n).map LsE.es) (List.length (rs1.drop n)))) a10 c5 :: Arn a1 A1 :: Sh 64 1 (u32s (rs1.drop n)) a8 (rc1 - n) :: Sh 49 1 (enL (LL1.drop n)) a9 (lc1 - n) :: Sh 84 5 (ev5 (hev lo hi ((LL1.drop n).map LsE.es) (List.length (rs1.drop n)))) a6 c3 :: Sh 84 5 (ev5 (hev lo hi (List.map LsE.es (LL1.drop n)) (List.length (LL1.drop n)))) a7 c4 :: Sh 49 1 (enL (LL1.drop n)) a5 (lc1 - n) :: Shs leF LL1 :: Sh 64 1 (u32s (rs1.drop n)) a4 (rc1 - n) :: Sh 49 1 (enL LL1) lu1 lc1 :: Sh 64 1 (u32s rs1) ru1 rc1 :: cel b1 #[.slice a2 (List.length (sls (AM.dmp A1))) c1, .slice a3 (List.length (u32s (SM.order A1.s))) c2] 62 :: Own 167 11 (sls (AM.dmp A1)) a2 c1 :: Own 64 1 (u32s (SM.order A1.s)) a3 c2 :: Sh 79 4 (ch4 S) us ds :: L) w := hS
      refine WL.nil ?_
      refine ⟨by exact ⟨RQ.ung rfl rfl rfl (RQ.pure rfl rfl rfl rfl), RQ.ung rfl rfl rfl (RQ.pure rfl rfl rfl rfl), RQ.ung rfl rfl rfl (RQ.slLo rfl rfl (v := fr % ((List.length (u32s rs1) : Int) + 1)) (n) el_41 rfl rfl (by omega) (by omega) (enL_drop LL1 n) qa9 rfl rfl), RQ.ung rfl rfl rfl (RQ.pure rfl rfl rfl rfl), RQ.ung rfl rfl rfl (RQ.pure rfl rfl rfl rfl)⟩, ?_⟩
      refine WQ.nil ?_
      intro m5
      replace hS := hS.drewN m5; generalize hwm5 : World.drewN _ _ = w at *; clear hwm5
      refine WL.ung rfl rfl rfl ?_
      refine WL.call rfl rfl (r27_events (LL := LL1.drop n) (ZZ := LL1) (u := a9) (d := lc1 - n) (lo := key2) (hi := key2) (hL := hK) (hsub := hsub) (hn := hdl) (hS := (hS.sel 8 [3, 6, 0, 0, 0, 0, 0, 0] rfl))) rfl ?_
      clear hS; rintro _ w ⟨a11, c6, rfl, hS⟩
      replace hS : St g (Own 84 5 (ev5 (hev key2 key2 (List.map LsE.es (LL1.drop n)) (List.length (LL1.drop n)))) a11 c6 :: Sh 49 1 (enL (LL1.drop n)) a9 (lc1 - n) :: Shs leF LL1 :: Own 84 5 (ev5 (hev key2 key2 ((LL1.drop n).map LsE.es) (List.length (rs1.drop n)))) a10 c5 :: Arn a1 A1 :: Sh 64 1 (u32s (rs1.drop n)) a8 (rc1 - n) :: Sh 84 5 (ev5 (hev lo hi ((LL1.drop n).map LsE.es) (List.length (rs1.drop n)))) a6 c3 :: Sh 84 5 (ev5 (hev lo hi (List.map LsE.es (LL1.drop n)) (List.length (LL1.drop n)))) a7 c4 :: Sh 49 1 (enL (LL1.drop n)) a5 (lc1 - n) :: Sh 64 1 (u32s (rs1.drop n)) a4 (rc1 - n) :: Sh 49 1 (enL LL1) lu1 lc1 :: Sh 64 1 (u32s rs1) ru1 rc1 :: cel b1 #[.slice a2 (List.length (sls (AM.dmp A1))) c1, .slice a3 (List.length (u32s (SM.order A1.s))) c2] 62 :: Own 167 11 (sls (AM.dmp A1)) a2 c1 :: Own 64 1 (u32s (SM.order A1.s)) a3 c2 :: Sh 79 4 (ch4 S) us ds :: L) w := hS
      refine WL.nil ?_
      refine ⟨by exact trivial, ?_⟩
      refine WQ.nil ?_
      intro m6
      replace hS := hS.drewN m6; generalize hwm6 : World.drewN _ _ = w at *; clear hwm6
      refine WL.ung rfl rfl rfl ?_
      replace hS := (hS.at_ 3 rfl).share
      replace hS : St g (Sh 84 5 (ev5 (hev key2 key2 ((LL1.drop n).map LsE.es) (List.length (rs1.drop n)))) a10 c5 :: Own 84 5 (ev5 (hev key2 key2 (List.map LsE.es (LL1.drop n)) (List.length (LL1.drop n)))) a11 c6 :: Sh 49 1 (enL (LL1.drop n)) a9 (lc1 - n) :: Shs leF LL1 :: Arn a1 A1 :: Sh 64 1 (u32s (rs1.drop n)) a8 (rc1 - n) :: Sh 84 5 (ev5 (hev lo hi ((LL1.drop n).map LsE.es) (List.length (rs1.drop n)))) a6 c3 :: Sh 84 5 (ev5 (hev lo hi (List.map LsE.es (LL1.drop n)) (List.length (LL1.drop n)))) a7 c4 :: Sh 49 1 (enL (LL1.drop n)) a5 (lc1 - n) :: Sh 64 1 (u32s (rs1.drop n)) a4 (rc1 - n) :: Sh 49 1 (enL LL1) lu1 lc1 :: Sh 64 1 (u32s rs1) ru1 rc1 :: cel b1 #[.slice a2 (List.length (sls (AM.dmp A1))) c1, .slice a3 (List.length (u32s (SM.order A1.s))) c2] 62 :: Own 167 11 (sls (AM.dmp A1)) a2 c1 :: Own 64 1 (u32s (SM.order A1.s)) a3 c2 :: Sh 79 4 (ch4 S) us ds :: L) w := hS
      replace hS := (hS.at_ 1 rfl).share
      replace hS : St g (Sh 84 5 (ev5 (hev key2 key2 (List.map LsE.es (LL1.drop n)) (List.length (LL1.drop n)))) a11 c6 :: Sh 84 5 (ev5 (hev key2 key2 ((LL1.drop n).map LsE.es) (List.length (rs1.drop n)))) a10 c5 :: Sh 49 1 (enL (LL1.drop n)) a9 (lc1 - n) :: Shs leF LL1 :: Arn a1 A1 :: Sh 64 1 (u32s (rs1.drop n)) a8 (rc1 - n) :: Sh 84 5 (ev5 (hev lo hi ((LL1.drop n).map LsE.es) (List.length (rs1.drop n)))) a6 c3 :: Sh 84 5 (ev5 (hev lo hi (List.map LsE.es (LL1.drop n)) (List.length (LL1.drop n)))) a7 c4 :: Sh 49 1 (enL (LL1.drop n)) a5 (lc1 - n) :: Sh 64 1 (u32s (rs1.drop n)) a4 (rc1 - n) :: Sh 49 1 (enL LL1) lu1 lc1 :: Sh 64 1 (u32s rs1) ru1 rc1 :: cel b1 #[.slice a2 (List.length (sls (AM.dmp A1))) c1, .slice a3 (List.length (u32s (SM.order A1.s))) c2] 62 :: Own 167 11 (sls (AM.dmp A1)) a2 c1 :: Own 64 1 (u32s (SM.order A1.s)) a3 c2 :: Sh 79 4 (ch4 S) us ds :: L) w := hS
      refine WL.call rfl rfl (sameVV (xs := hev key2 key2 ((LL1.drop n).map LsE.es) (List.length (rs1.drop n))) (ys := hev key2 key2 (List.map LsE.es (LL1.drop n)) (List.length (LL1.drop n))) (a := a10) (b := a11) (c := c5) (d := c6) (he := (by rw [hde])) (hl := (by omega)) (hS := (hS.sel 2 [1, 0] rfl))) rfl ?_
      clear hS; rintro _ w ⟨rfl, hS⟩
      replace hS : St g (Sh 84 5 (ev5 (hev key2 key2 ((LL1.drop n).map LsE.es) (List.length (rs1.drop n)))) a10 c5 :: Sh 84 5 (ev5 (hev key2 key2 (List.map LsE.es (LL1.drop n)) (List.length (LL1.drop n)))) a11 c6 :: Sh 49 1 (enL (LL1.drop n)) a9 (lc1 - n) :: Shs leF LL1 :: Arn a1 A1 :: Sh 64 1 (u32s (rs1.drop n)) a8 (rc1 - n) :: Sh 84 5 (ev5 (hev lo hi ((LL1.drop n).map LsE.es) (List.length (rs1.drop n)))) a6 c3 :: Sh 84 5 (ev5 (hev lo hi (List.map LsE.es (LL1.drop n)) (List.length (LL1.drop n)))) a7 c4 :: Sh 49 1 (enL (LL1.drop n)) a5 (lc1 - n) :: Sh 64 1 (u32s (rs1.drop n)) a4 (rc1 - n) :: Sh 49 1 (enL LL1) lu1 lc1 :: Sh 64 1 (u32s rs1) ru1 rc1 :: cel b1 #[.slice a2 (List.length (sls (AM.dmp A1))) c1, .slice a3 (List.length (u32s (SM.order A1.s))) c2] 62 :: Own 167 11 (sls (AM.dmp A1)) a2 c1 :: Own 64 1 (u32s (SM.order A1.s)) a3 c2 :: Sh 79 4 (ch4 S) us ds :: L) w := hS
      refine WL.nil ?_
      refine ⟨by exact trivial, ?_⟩
      refine WQ.r 2 rfl ?_
      refine WQ.ung rfl rfl rfl ?_
      refine WQ.r 1 rfl ?_
      refine WQ.ung rfl rfl rfl ?_
      refine WQ.ldF rfl rfl 12 hS rfl rfl ag_62 ?_
      refine WQ.nil ?_
      intro m7
      replace hS := hS.drewN m7; generalize hwm7 : World.drewN _ _ = w at *; clear hwm7
      refine WL.ung rfl rfl rfl ?_
      refine WL.call rfl rfl (ar_dump (a := a1) (A := A1) (hA := hw) (hS := (hS.sel 5 [4, 0, 0, 0, 0] rfl))) rfl ?_
      clear hS; rintro _ w ⟨a12, c7, a13, c8, rfl, hS⟩
      replace hS : St g (Own 167 11 (sls (AM.dmp A1)) a12 c7 :: Own 64 1 (u32s (SM.order A1.s)) a13 c8 :: Arn a1 A1 :: Sh 84 5 (ev5 (hev key2 key2 ((LL1.drop n).map LsE.es) (List.length (rs1.drop n)))) a10 c5 :: Sh 84 5 (ev5 (hev key2 key2 (List.map LsE.es (LL1.drop n)) (List.length (LL1.drop n)))) a11 c6 :: Sh 49 1 (enL (LL1.drop n)) a9 (lc1 - n) :: Shs leF LL1 :: Sh 64 1 (u32s (rs1.drop n)) a8 (rc1 - n) :: Sh 84 5 (ev5 (hev lo hi ((LL1.drop n).map LsE.es) (List.length (rs1.drop n)))) a6 c3 :: Sh 84 5 (ev5 (hev lo hi (List.map LsE.es (LL1.drop n)) (List.length (LL1.drop n)))) a7 c4 :: Sh 49 1 (enL (LL1.drop n)) a5 (lc1 - n) :: Sh 64 1 (u32s (rs1.drop n)) a4 (rc1 - n) :: Sh 49 1 (enL LL1) lu1 lc1 :: Sh 64 1 (u32s rs1) ru1 rc1 :: cel b1 #[.slice a2 (List.length (sls (AM.dmp A1))) c1, .slice a3 (List.length (u32s (SM.order A1.s))) c2] 62 :: Own 167 11 (sls (AM.dmp A1)) a2 c1 :: Own 64 1 (u32s (SM.order A1.s)) a3 c2 :: Sh 79 4 (ch4 S) us ds :: L) w := hS
      refine WL.nil ?_
      refine ⟨by exact RQ.ung rfl rfl rfl (RQ.ldF rfl rfl 14 hS rfl rfl ag_62 rfl rfl), ?_⟩
      refine WQ.nil ?_
      intro m8
      replace hS := hS.drewN m8; generalize hwm8 : World.drewN _ _ = w at *; clear hwm8
      refine WL.ung rfl rfl rfl ?_
      replace hS := (hS.at_ 0 rfl).share
      replace hS : St g (Sh 167 11 (sls (AM.dmp A1)) a12 c7 :: Own 64 1 (u32s (SM.order A1.s)) a13 c8 :: Arn a1 A1 :: Sh 84 5 (ev5 (hev key2 key2 ((LL1.drop n).map LsE.es) (List.length (rs1.drop n)))) a10 c5 :: Sh 84 5 (ev5 (hev key2 key2 (List.map LsE.es (LL1.drop n)) (List.length (LL1.drop n)))) a11 c6 :: Sh 49 1 (enL (LL1.drop n)) a9 (lc1 - n) :: Shs leF LL1 :: Sh 64 1 (u32s (rs1.drop n)) a8 (rc1 - n) :: Sh 84 5 (ev5 (hev lo hi ((LL1.drop n).map LsE.es) (List.length (rs1.drop n)))) a6 c3 :: Sh 84 5 (ev5 (hev lo hi (List.map LsE.es (LL1.drop n)) (List.length (LL1.drop n)))) a7 c4 :: Sh 49 1 (enL (LL1.drop n)) a5 (lc1 - n) :: Sh 64 1 (u32s (rs1.drop n)) a4 (rc1 - n) :: Sh 49 1 (enL LL1) lu1 lc1 :: Sh 64 1 (u32s rs1) ru1 rc1 :: cel b1 #[.slice a2 (List.length (sls (AM.dmp A1))) c1, .slice a3 (List.length (u32s (SM.order A1.s))) c2] 62 :: Own 167 11 (sls (AM.dmp A1)) a2 c1 :: Own 64 1 (u32s (SM.order A1.s)) a3 c2 :: Sh 79 4 (ch4 S) us ds :: L) w := hS
      replace hS := (hS.at_ 1 rfl).share
      replace hS : St g (Sh 64 1 (u32s (SM.order A1.s)) a13 c8 :: Sh 167 11 (sls (AM.dmp A1)) a12 c7 :: Arn a1 A1 :: Sh 84 5 (ev5 (hev key2 key2 ((LL1.drop n).map LsE.es) (List.length (rs1.drop n)))) a10 c5 :: Sh 84 5 (ev5 (hev key2 key2 (List.map LsE.es (LL1.drop n)) (List.length (LL1.drop n)))) a11 c6 :: Sh 49 1 (enL (LL1.drop n)) a9 (lc1 - n) :: Shs leF LL1 :: Sh 64 1 (u32s (rs1.drop n)) a8 (rc1 - n) :: Sh 84 5 (ev5 (hev lo hi ((LL1.drop n).map LsE.es) (List.length (rs1.drop n)))) a6 c3 :: Sh 84 5 (ev5 (hev lo hi (List.map LsE.es (LL1.drop n)) (List.length (LL1.drop n)))) a7 c4 :: Sh 49 1 (enL (LL1.drop n)) a5 (lc1 - n) :: Sh 64 1 (u32s (rs1.drop n)) a4 (rc1 - n) :: Sh 49 1 (enL LL1) lu1 lc1 :: Sh 64 1 (u32s rs1) ru1 rc1 :: cel b1 #[.slice a2 (List.length (sls (AM.dmp A1))) c1, .slice a3 (List.length (u32s (SM.order A1.s))) c2] 62 :: Own 167 11 (sls (AM.dmp A1)) a2 c1 :: Own 64 1 (u32s (SM.order A1.s)) a3 c2 :: Sh 79 4 (ch4 S) us ds :: L) w := hS
      replace hS := (hS.at_ 15 rfl).share
      replace hS : St g (Sh 167 11 (sls (AM.dmp A1)) a2 c1 :: Sh 64 1 (u32s (SM.order A1.s)) a13 c8 :: Sh 167 11 (sls (AM.dmp A1)) a12 c7 :: Arn a1 A1 :: Sh 84 5 (ev5 (hev key2 key2 ((LL1.drop n).map LsE.es) (List.length (rs1.drop n)))) a10 c5 :: Sh 84 5 (ev5 (hev key2 key2 (List.map LsE.es (LL1.drop n)) (List.length (LL1.drop n)))) a11 c6 :: Sh 49 1 (enL (LL1.drop n)) a9 (lc1 - n) :: Shs leF LL1 :: Sh 64 1 (u32s (rs1.drop n)) a8 (rc1 - n) :: Sh 84 5 (ev5 (hev lo hi ((LL1.drop n).map LsE.es) (List.length (rs1.drop n)))) a6 c3 :: Sh 84 5 (ev5 (hev lo hi (List.map LsE.es (LL1.drop n)) (List.length (LL1.drop n)))) a7 c4 :: Sh 49 1 (enL (LL1.drop n)) a5 (lc1 - n) :: Sh 64 1 (u32s (rs1.drop n)) a4 (rc1 - n) :: Sh 49 1 (enL LL1) lu1 lc1 :: Sh 64 1 (u32s rs1) ru1 rc1 :: cel b1 #[.slice a2 (List.length (sls (AM.dmp A1))) c1, .slice a3 (List.length (u32s (SM.order A1.s))) c2] 62 :: Own 64 1 (u32s (SM.order A1.s)) a3 c2 :: Sh 79 4 (ch4 S) us ds :: L) w := hS
      replace hS := (hS.at_ 16 rfl).share
      replace hS : St g (Sh 64 1 (u32s (SM.order A1.s)) a3 c2 :: Sh 167 11 (sls (AM.dmp A1)) a2 c1 :: Sh 64 1 (u32s (SM.order A1.s)) a13 c8 :: Sh 167 11 (sls (AM.dmp A1)) a12 c7 :: Arn a1 A1 :: Sh 84 5 (ev5 (hev key2 key2 ((LL1.drop n).map LsE.es) (List.length (rs1.drop n)))) a10 c5 :: Sh 84 5 (ev5 (hev key2 key2 (List.map LsE.es (LL1.drop n)) (List.length (LL1.drop n)))) a11 c6 :: Sh 49 1 (enL (LL1.drop n)) a9 (lc1 - n) :: Shs leF LL1 :: Sh 64 1 (u32s (rs1.drop n)) a8 (rc1 - n) :: Sh 84 5 (ev5 (hev lo hi ((LL1.drop n).map LsE.es) (List.length (rs1.drop n)))) a6 c3 :: Sh 84 5 (ev5 (hev lo hi (List.map LsE.es (LL1.drop n)) (List.length (LL1.drop n)))) a7 c4 :: Sh 49 1 (enL (LL1.drop n)) a5 (lc1 - n) :: Sh 64 1 (u32s (rs1.drop n)) a4 (rc1 - n) :: Sh 49 1 (enL LL1) lu1 lc1 :: Sh 64 1 (u32s rs1) ru1 rc1 :: cel b1 #[.slice a2 (List.length (sls (AM.dmp A1))) c1, .slice a3 (List.length (u32s (SM.order A1.s))) c2] 62 :: Sh 79 4 (ch4 S) us ds :: L) w := hS
      refine WL.call rfl rfl (same_dump (xs := AM.dmp A1) (ys := AM.dmp A1) (fs := SM.order A1.s) (gs := SM.order A1.s) (a := a12) (b := a13) (a' := a2) (b' := a3) (c := c7) (d := c8) (c' := c1) (d' := c2) (he := rfl) (hf := rfl) (hl := (by omega)) (hm := (by have := order_len hw.s; omega)) (hS := (hS.sel 4 [3, 2, 1, 0] rfl))) rfl ?_
      clear hS; rintro _ w ⟨rfl, hS⟩
      replace hS : St g (Arn a1 A1 :: Sh 84 5 (ev5 (hev key2 key2 ((LL1.drop n).map LsE.es) (List.length (rs1.drop n)))) a10 c5 :: Sh 84 5 (ev5 (hev key2 key2 (List.map LsE.es (LL1.drop n)) (List.length (LL1.drop n)))) a11 c6 :: Sh 49 1 (enL (LL1.drop n)) a9 (lc1 - n) :: Shs leF LL1 :: Sh 64 1 (u32s (rs1.drop n)) a8 (rc1 - n) :: Sh 84 5 (ev5 (hev lo hi ((LL1.drop n).map LsE.es) (List.length (rs1.drop n)))) a6 c3 :: Sh 84 5 (ev5 (hev lo hi (List.map LsE.es (LL1.drop n)) (List.length (LL1.drop n)))) a7 c4 :: Sh 49 1 (enL (LL1.drop n)) a5 (lc1 - n) :: Sh 64 1 (u32s (rs1.drop n)) a4 (rc1 - n) :: Sh 49 1 (enL LL1) lu1 lc1 :: Sh 64 1 (u32s rs1) ru1 rc1 :: cel b1 #[.slice a2 (List.length (sls (AM.dmp A1))) c1, .slice a3 (List.length (u32s (SM.order A1.s))) c2] 62 :: Sh 79 4 (ch4 S) us ds :: L) w := hS
      refine WL.nil ?_
      refine ⟨by exact trivial, ?_⟩
      refine WQ.r 2 rfl ?_
      refine WQ.nil ?_
      intro m9
      replace hS := hS.drewN m9; generalize hwm9 : World.drewN _ _ = w at *; clear hwm9
      as_aux_lemma =>
        refine WC.ret ?_
        refine ⟨[.bool true], rfl, ?_⟩
        replace hS := (hS.sel 14 [] rfl)
        exact ⟨rfl, hS⟩
end Go.Proofs.YtlnlnebibgdjdaaGreat
/-! ## Argp -/
namespace Go.Proofs.YtlnlnebibgdjdaaGreat
open Go Go.V Go.RowKit
set_option maxRecDepth 100000
section
variable {H : Type} {enc : TypeId × Value → H} {w : World} {cs : List Value}
theorem rd_int (h : Rdc enc Tryz.prog w 3 cs) : ∃ n, cs = [.int .i64 n] ∧ (-9223372036854775808 ≤ n ∧ n ≤ 9223372036854775807) := by
  obtain ⟨n, h1, h2, h3⟩ := h.int (k := .i64) (by kernel_rfl)
  exact ⟨n, h1, h2, h3⟩
theorem one1 {x : List Value} {v : Value} (h : x = [v]) (h1 : v.oneCell' = true) : x.length = 1 ∧ ∀ u ∈ x, u.oneCell' = true := by
  subst h; exact ⟨rfl, fun u hu => by simp at hu; subst hu; exact h1⟩
end
end Go.Proofs.YtlnlnebibgdjdaaGreat
/-! ## Argv -/
namespace Go.Proofs.YtlnlnebibgdjdaaGreat
open Go Go.V Go.RowKit
set_option maxRecDepth 100000
theorem rdf_77 {H : Type} {enc : TypeId × Value → H} {w : World} {cs : List Value} (h : Rdc enc Tryz.prog w 77 cs) : ∃ c0 c1 : Value, cs = [c0, c1] ∧ Rdc enc Tryz.prog w 2 [c0] ∧ Rdc enc Tryz.prog w 2 [c1] := by
  obtain ⟨hl, hf⟩ := Rdc.struct h Tryz.underlying77
  rw [show Tryz.prog.cellsOf 77 = 2 by kernel_rfl] at hl
  match cs, hl with
  | [c0, c1], _ =>
    have f0 : Rdc enc Tryz.prog w 2 (([c0, c1].drop 0).take (Tryz.prog.cellsOf 2)) := hf 0 _ rfl
    rw [show Tryz.prog.cellsOf 2 = 1 by kernel_rfl] at f0
    have f1 : Rdc enc Tryz.prog w 2 (([c0, c1].drop 1).take (Tryz.prog.cellsOf 2)) := hf 1 _ rfl
    rw [show Tryz.prog.cellsOf 2 = 1 by kernel_rfl] at f1
    exact ⟨c0, c1, rfl, f0, f1⟩
section
variable {H : Type} {enc : TypeId × Value → H} {w : World} {cs : List Value}
theorem rd_i64 (h : Rdc enc Tryz.prog w 2 cs) : ∃ n, cs = [.int .i64 n] ∧ Ir n := by
  obtain ⟨n, h1, h2, h3⟩ := h.int (k := .i64) (by kernel_rfl)
  exact ⟨n, h1, h2, h3⟩
theorem rd_u64 (h : Rdc enc Tryz.prog w 23 cs) : ∃ n, cs = [.int .u64 n] ∧ 0 ≤ n ∧ n ≤ 18446744073709551615 := by
  obtain ⟨n, h1, h2, h3⟩ := h.int (k := .u64) (by kernel_rfl)
  exact ⟨n, h1, h2, h3⟩
theorem rd_ent (h : Rdc enc Tryz.prog w 77 cs) : ∃ x : Int × Int, cs = [.int .i64 x.1, .int .i64 x.2] ∧ Ir x.1 ∧ Ir x.2 := by
  obtain ⟨c0, c1, rfl, h0, h1⟩ := rdf_77 h
  obtain ⟨a, e0, w0⟩ := rd_i64 h0
  obtain ⟨b, e1, w1⟩ := rd_i64 h1
  cases e0; cases e1
  exact ⟨(a, b), rfl, w0, w1⟩
theorem rd_ents (h : Rdc enc Tryz.prog w 49 cs) : ∃ (l : List (Int × Int)) (a : Option Addr) (c : Nat), cs = [.slice a (en2 l).length c] ∧ (∀ x ∈ l, Ir x.1 ∧ Ir x.2) ∧ l.length ≤ maxLen ∧ ∀ e, Hw w (Sh e 2 (en2 l) a c) := by
  obtain ⟨a, c, ls, h1, h2, h3, h4⟩ := Rdc.slice (e := 77) (size := 2) h (by kernel_rfl) (by kernel_rfl) (by decide) (fun x hx => by
    obtain ⟨n, hn, _⟩ := rd_ent hx
    subst hn; exact ⟨rfl, fun u hu => by simp at hu; rcases hu with rfl | rfl <;> rfl⟩)
  obtain ⟨m, rfl, hm⟩ := map_of (fun x : Int × Int => [Value.int .i64 x.1, Value.int .i64 x.2]) (fun x => Ir x.1 ∧ Ir x.2) ls (fun x hx => by
    obtain ⟨n, hn, hb⟩ := rd_ent (h3 x hx)
    exact ⟨n, hn, hb⟩)
  exact ⟨m, a, c, h1, hm, by simpa using h2, h4⟩
end
end Go.Proofs.YtlnlnebibgdjdaaGreat
/-! ## Arge -/
namespace Go.Proofs.YtlnlnebibgdjdaaGreat
open Go Go.V Go.RowKit
set_option maxRecDepth 100000
theorem rdf_79 {H : Type} {enc : TypeId × Value → H} {w : World} {cs : List Value} (h : Rdc enc Tryz.prog w 79 cs) : ∃ c0 c1 c2 c3 : Value, cs = [c0, c1, c2, c3] ∧ Rdc enc Tryz.prog w 3 [c0] ∧ Rdc enc Tryz.prog w 77 [c1, c2] ∧ Rdc enc Tryz.prog w 3 [c3] := by
  obtain ⟨hl, hf⟩ := Rdc.struct h Tryz.underlying79
  rw [show Tryz.prog.cellsOf 79 = 4 by kernel_rfl] at hl
  match cs, hl with
  | [c0, c1, c2, c3], _ =>
    have f0 : Rdc enc Tryz.prog w 3 (([c0, c1, c2, c3].drop 0).take (Tryz.prog.cellsOf 3)) := hf 0 _ rfl
    rw [show Tryz.prog.cellsOf 3 = 1 by kernel_rfl] at f0
    have f1 : Rdc enc Tryz.prog w 77 (([c0, c1, c2, c3].drop 1).take (Tryz.prog.cellsOf 77)) := hf 1 _ rfl
    rw [show Tryz.prog.cellsOf 77 = 2 by kernel_rfl] at f1
    have f2 : Rdc enc Tryz.prog w 3 (([c0, c1, c2, c3].drop 3).take (Tryz.prog.cellsOf 3)) := hf 2 _ rfl
    rw [show Tryz.prog.cellsOf 3 = 1 by kernel_rfl] at f2
    exact ⟨c0, c1, c2, c3, rfl, f0, f1, f2⟩
section
variable {H : Type} {enc : TypeId × Value → H} {w : World} {cs : List Value}
theorem rd_step (h : Rdc enc Tryz.prog w 79 cs) : ∃ x : Int × Int × Int × Int, cs = [.int .i64 x.1, .int .i64 x.2.1, .int .i64 x.2.2.1, .int .i64 x.2.2.2] ∧ Ir x.1 ∧ Ir x.2.1 ∧ Ir x.2.2.2 := by
  obtain ⟨c0, c1, c2, c3, rfl, h0, h1, h2⟩ := rdf_79 h
  obtain ⟨a, e0, w0⟩ := rd_int h0
  obtain ⟨b, e1, w1⟩ := rd_ent h1
  obtain ⟨d, e2, w2⟩ := rd_int h2
  cases e0; cases e1; cases e2
  exact ⟨(a, b.1, b.2, d), rfl, w0, w1.1, w2⟩
theorem rd_steps (h : Rdc enc Tryz.prog w 73 cs) : ∃ (l : List (Int × Int × Int × Int)) (a : Option Addr) (c : Nat), cs = [.slice a (ch4 l).length c] ∧ (∀ x ∈ l, Ir x.1 ∧ Ir x.2.1 ∧ Ir x.2.2.2) ∧ l.length ≤ maxLen ∧ ∀ e, Hw w (Sh e 4 (ch4 l) a c) := by
  obtain ⟨a, c, ls, h1, h2, h3, h4⟩ := Rdc.slice (e := 79) (size := 4) h (by kernel_rfl) (by kernel_rfl) (by decide) (fun x hx => by
    obtain ⟨n, hn, _⟩ := rd_step hx
    subst hn; exact ⟨rfl, fun u hu => by simp at hu; rcases hu with rfl | rfl | rfl | rfl <;> rfl⟩)
  obtain ⟨m, rfl, hm⟩ := map_of (fun x : Int × Int × Int × Int => [Value.int .i64 x.1, Value.int .i64 x.2.1, Value.int .i64 x.2.2.1, Value.int .i64 x.2.2.2]) (fun x => Ir x.1 ∧ Ir x.2.1 ∧ Ir x.2.2.2) ls (fun x hx => by
    obtain ⟨n, hn, hb⟩ := rd_step (h3 x hx)
    exact ⟨n, hn, hb⟩)
  exact ⟨m, a, c, h1, hm, by simpa using h2, h4⟩
end
end Go.Proofs.YtlnlnebibgdjdaaGreat
/-! ## Jhe -/
namespace Go.Proofs.YtlnlnebibgdjdaaGreat
open Go Go.V Go.RowKit Go.ChangeShapes Go.WideShapes
set_option maxRecDepth 100000
theorem hevs_calls {H : Type} {enc : TypeId × Value → H} {W : World} {base : Nat} {args : List Value} (h : AOk enc Tryz.prog W base [49, 23, 73, 2, 2, 2, 3] args) :
    Calls Tryz.prog 6 args.toArray W fun e W' => e = .returned (.bool true) ∧ Below W.heap.size W W' := by
  obtain ⟨v0, vs0, rfl, k0, r0, h⟩ := h.cons
  obtain ⟨v1, vs1, rfl, k1, r1, h⟩ := h.cons
  obtain ⟨v2, vs2, rfl, k2, r2, h⟩ := h.cons
  obtain ⟨v3, vs3, rfl, k3, r3, h⟩ := h.cons
  obtain ⟨v4, vs4, rfl, k4, r4, h⟩ := h.cons
  obtain ⟨v5, vs5, rfl, k5, r5, h⟩ := h.cons
  obtain ⟨v6, vs6, rfl, k6, r6, h⟩ := h.cons
  obtain rfl := h.nil
  obtain ⟨l0, a0, c0, e0, h0, _, s0⟩ := rd_ents r0
  obtain ⟨n1, e1, h1⟩ := rd_u64 r1
  obtain ⟨l2, a2, c2, e2, h2, m2, s2⟩ := rd_steps r2
  obtain ⟨n3, e3, _⟩ := rd_i64 r3
  obtain ⟨n4, e4, _⟩ := rd_i64 r4
  obtain ⟨n5, e5, _⟩ := rd_i64 r5
  obtain ⟨n6, e6, h6⟩ := rd_int r6
  obtain rfl := okv_one (okv_slice k0 Tryz.underlying49) e0
  obtain rfl := okv_one (okv_int k1 Tryz.underlying23) e1
  obtain rfl := okv_one (okv_slice k2 Tryz.underlying73) e2
  obtain rfl := okv_one (okv_int k3 Tryz.underlying2) e3
  obtain rfl := okv_one (okv_int k4 Tryz.underlying2) e4
  obtain rfl := okv_one (okv_int k5 Tryz.underlying2) e5
  obtain rfl := okv_one (okv_int k6 Tryz.underlying3) e6
  have hS := St.start W
  have hS := (s2 79).add hS
  have hS := (s0 77).add hS
  exact law_calls (law_hev l0 a0 c0 n1 l2 a2 c2 n3 n4 n5 n6 h1 (fun x hx => (h0 x hx).1) h2 (Nat.le_trans m2 (by decide)) h6 hS)
theorem hevs_lifted (os : Os) (started : os.Started) (H : Type) (enc : TypeId × Value → H) :
    ReturnsInHanded {} Tryz.checked os 6 .any (Rows.historyEventsSpec.pre6 enc Tryz.prog Tryz.f6 Rows.historyEventsRow.domain false) (Rows.historyEventsSpec.post enc Tryz.prog Tryz.f6 false true false false) := by
  refine returnsInHanded_of_change (C := Tryz.checked) (by kernel_rfl) started (by kernel_rfl) Tryz.func6
    (ChangeSpec.witness6 (enc := enc) (C := Tryz.checked) false ⟨#[], #[.slice none 0 0, .int .u64 0, .slice none 0 0, .int .i64 0, .int .i64 0, .int .i64 0, .int .i64 0], []⟩ 8 (by kernel_rfl) (by kernel_rfl) (by kernel_rfl) (by kernel_rfl)) ?_
  intro W base args ds gs before hval0 hW _ _
  have hval : ∀ (j : Nat) t v, Tryz.f6.params[j]? = some t → args[j]? = some v → Value.okWide Tryz.prog W .any base t v := hval0
  have hW0 := hW
  obtain ⟨p, q, hA0, _⟩ := hW
  have hA : DataW.TrodAll enc Tryz.prog W 0 (fun _ => true) true Tryz.f6.params.toList args.toList ds p := hA0
  rw [Tryz.params6] at hA hval
  clear hA0 hval0
  have hc := hevs_calls (AOk.args hA hval)
  rw [Array.toArray_toList] at hc
  refine hc.mono fun e W' ⟨he, hb⟩ => ⟨_, he, ?_⟩
  refine law_post rfl hW0 (by kernel_rfl) ?_ (by kernel_rfl) Tryz.underlying4 ?_ hb
  · exact fun t ht => by
      simp only [Tryz.params6, List.mem_cons, List.not_mem_nil, or_false] at ht
      rcases ht with rfl | rfl | rfl | rfl | rfl | rfl | rfl <;> exact ⟨by kernel_rfl, of_decide_eq_true (by kernel_rfl)⟩
  · intro hd
    match ds, hd with
    | [d1, d2, d3, d4, d5, d6, d7], _ => exact ⟨rfl, rfl, rfl⟩
theorem hevs_holds : Rows.HistoryEventsSaid :=
  OpenClaim.holds_of_wide 6 Tryz.f6 rfl rfl rfl rfl rfl rfl rfl ⟨rfl, rfl, rfl, rfl, rfl⟩ rfl rfl rfl rfl rfl (by kernel_rfl) Tryz.func6 hevs_closed
    (of_decide_eq_true (by kernel_rfl)) (by unfold Func.isWrapper; first | (rw [if_pos (by decide +kernel)]; kernel_rfl) | (rw [if_neg (by decide +kernel)]; exact ⟨rfl, rfl⟩))
    (fun os started H enc _ => hevs_lifted os started H enc)
end Go.Proofs.YtlnlnebibgdjdaaGreat
