/-
  The row of TxnSpansAreMinimal: for every input the law returns true, and the arguments read as before.
  Conditions: none.
-/
import Derived.Test.YtlnlnebibgdjdaaGreatJtsq
import Derived.Test.YtlnlnebibgdjdaaGreatZtsC
/-! ## Tx3 -/
namespace Go.Proofs.YtlnlnebibgdjdaaGreat
open Go Go.V Go.RowKit Go.Maps
theorem rd1 {s : RdS} {x : Int × Int} (h : x.2 + 1 < s.lo) : rdStep s x = ⟨s.lo, s.hi, s.less ++ [x], s.gr⟩ := if_pos h
theorem rd2 {s : RdS} {x : Int × Int} (h : ¬ x.2 + 1 < s.lo) (h2 : s.hi < x.1 - 1) : rdStep s x = ⟨s.lo, s.hi, s.less, s.gr ++ [x]⟩ := by
  unfold rdStep; rw [if_neg h, if_pos h2]
theorem rd3 {s : RdS} {x : Int × Int} (h : ¬ x.2 + 1 < s.lo) (h2 : ¬ s.hi < x.1 - 1) : rdStep s x = ⟨min s.lo x.1, max s.hi x.2, s.less, s.gr⟩ := by
  unfold rdStep; rw [if_neg h, if_neg h2]
theorem lt1 {z lo : Int} (hz : i64R z) (hl : i64R lo) : (bif decide (z < lo) then decide (IntKind.i64.wrap (z + 1) < lo) else false) = decide (z + 1 < lo) := by
  unfold i64R at hz hl
  by_cases h : z < lo
  · rw [decide_eq_true h, w64 (z := z + 1) (by omega)]; rfl
  · rw [decide_eq_false h, decide_eq_false (show ¬ z + 1 < lo by omega)]; rfl
theorem gt1 {z hi : Int} (hz : i64R z) (hl : i64R hi) : (bif decide (hi < z) then decide (hi < IntKind.i64.wrap (z - 1)) else false) = decide (hi < z - 1) := by
  unfold i64R at hz hl
  by_cases h : hi < z
  · rw [decide_eq_true h, w64 (z := z - 1) (by omega)]; rfl
  · rw [decide_eq_false h, decide_eq_false (show ¬ hi < z - 1 by omega)]; rfl
set_option maxRecDepth 8192 in
theorem tx_read {g w : World} {L : List HP} (x a : Nat) (rt : Int) (xs : List WE) (q : Nat) (S : Kvs) (lo hi : Int) (hlo : i64R lo) (hhi : i64R hi) (hR : SpR S) (hSl : S.length ≤ 100000) (hS : St g (Tx x a rt xs q S :: L) w) :
    Sp Tryz.prog 110 [.pointer (some ⟨x, 0, none⟩), .int .i64 lo, .int .i64 hi] w (fun v w' => v = .tuple #[] ∧ St g (Tx x a rt xs q (rdF lo hi S) :: L) w') := by
  refine Sp.enter Tryz.func110 rfl (by kernel_rfl) (by kernel_rfl) ?_
  have _ := hSl
  refine WC.seq ?_
  refine WC.region ?_
  obtain ⟨⟨xm, xu, xc⟩, hS⟩ := St.exOpen (f := txF x a rt xs q S) hS
  replace hS : St g (cel x #[.pointer (some ⟨a, 0, none⟩), .int .u32 rt, .bool false, .map (some xm), .slice xu (List.length (en2 S)) xc] 202 :: blk xm (.map (mE (List.map wK xs)) q) :: Own 113 2 (en2 S) xu xc :: L) w := hS
  have hll := en2_len S
  refine WL.r 2 rfl ?_
  refine WL.nil ?_
  refine WC.seq ?_
  refine WC.seq ?_
  refine WC.region ?_
  refine WL.run 6 [.slice xu (List.length (en2 S)) xc] rfl (by exact hS.ld 0 rfl rfl) ?_
  refine WL.nil ?_
  refine WC.block ?_
  replace hS := hS.nil_ 113 2
  replace hS := hS.nil_ 113 2
  refine WC.loop [0, 1, 2, 6, 7, 13, 14, 15] (fun kM vs w => ∃ (k : Nat) (r : RdS) (u1 : Option Addr) (d1 : Nat) (u2 : Option Addr) (d2 : Nat), vs = [.pointer (some ⟨x, 0, none⟩), .int .i64 r.lo, .int .i64 r.hi, .slice u1 (List.length (en2 r.less)) d1, .slice u2 (List.length (en2 r.gr)) d2, .slice xu (List.length (en2 S)) xc, .int .i64 (List.length (en2 S) : Int), .int .i64 (k : Int)] ∧ St g (Own 113 2 (en2 r.less) u1 d1 :: Own 113 2 (en2 r.gr) u2 d2 :: cel x #[.pointer (some ⟨a, 0, none⟩), .int .u32 rt, .bool false, .map (some xm), .slice xu (List.length (en2 S)) xc] 202 :: blk xm (.map (mE (List.map wK xs)) q) :: Own 113 2 (en2 S) xu xc :: L) w ∧ (k ≤ S.length) ∧ (r = rdAll lo hi (S.take k)) ∧ (S.length - k) = kM) ((List.length S) - 0) ⟨0, ⟨lo, hi, [], []⟩, none, 0, none, 0, rfl, hS, (Nat.zero_le _), (rfl), rfl⟩ ?_
  clear hS; rintro _ _ w j ⟨k, r, u1, d1, u2, d2, rfl, hS, hk, hr, rfl⟩
  refine WC.seq ?_
  refine WC.region ?_
  refine WL.r 1 rfl ?_
  refine WL.nil ?_
  refine WC.seq ?_
  refine WC.ifP rfl (fun cd1 => ?_) (fun cd1 => ?_)
  · refine WC.skip ?_
    as_aux_lemma =>
      refine WC.seq ?_
      refine WC.block ?_
      refine WC.seq ?_
      refine WC.region ?_
      obtain ⟨e, he⟩ : ∃ e, S[k]? = some e := ⟨_, List.getElem?_eq_getElem (by omega)⟩; obtain ⟨r1, r2, _, _⟩ := rdAll_R (lo := lo) (hi := hi) ⟨hlo, hhi⟩ hR k; rw [← hr] at r1 r2; have hre := hR e (List.mem_of_getElem? he); have hln := rdAll_len lo hi S k; rw [← hr] at hln; have hl1 := en2_len r.less; have hl2 := en2_len r.gr
      refine WL.ix rfl rfl (i := (k : Int)) (k) el_103 rfl rfl (by omega) (by omega) (hS.rdO 4 rfl (en2_at he)).1 ?_
      refine WL.ldC rfl rfl [.int .i64 e.1, .int .i64 e.2] ag_113 rfl (hS.rdO 4 rfl (en2_at he)).2 ?_
      refine WL.new rfl rfl zv_113 hS (fun b1 w hS => ?_)
      refine WL.stF rfl rfl rfl 0 hS rfl rfl rfl rfl rfl ag_113 (fun w hS => ?_)
      replace hS : St g (cel b1 #[.int .i64 e.1, .int .i64 e.2] 113 :: Own 113 2 (en2 r.less) u1 d1 :: Own 113 2 (en2 r.gr) u2 d2 :: cel x #[.pointer (some ⟨a, 0, none⟩), .int .u32 rt, .bool false, .map (some xm), .slice xu (List.length (en2 S)) xc] 202 :: blk xm (.map (mE (List.map wK xs)) q) :: Own 113 2 (en2 S) xu xc :: L) w := hS
      refine WL.nil ?_
      refine WC.block ?_
      refine WC.seq ?_
      refine WC.region ?_
      refine WL.run 4 [.int .i64 e.2] rfl (by exact hS.ld 0 rfl rfl) ?_
      refine WL.runG 8 [.int .i64 e.2] rfl (by exact (fun _ => hS.ld 0 rfl rfl)) (fun j => ?_)
      refine WL.prop 38 rfl (band (dd _) (dd _)) ?_
      refine WL.nil ?_
      refine WC.if_ rfl (fun cd2 => ?_) (fun cd2 => ?_)
      · refine WC.region ?_
        refine WL.r 1 rfl ?_
        refine WL.ldF rfl rfl 0 hS rfl rfl ag_113 ?_
        refine WL.lit rfl rfl (en2 [(e.1, e.2)]) el_103 hS (by exact ⟨rfl, rfl⟩) (en2_ok _) rfl (by decide) (fun b2 w hS => ?_)
        refine WL.app rfl rfl 2 (en2 (r.less ++ [(e.1, e.2)])) el_103 hS rfl (hS.srcO 0 rfl) (en2_app _ _).symm (Rm.of (by first | omega | (simp <;> omega)) (by decide)) rfl rfl (fun a1 c1 w hS => ?_)
        replace hS : St g (Own 113 2 (en2 [(e.1, e.2)]) (some ⟨b2, 0, none⟩) (List.length (en2 [(e.1, e.2)])) :: cel b1 #[.int .i64 e.1, .int .i64 e.2] 113 :: Own 113 2 (en2 (r.less ++ [(e.1, e.2)])) a1 c1 :: Own 113 2 (en2 r.gr) u2 d2 :: cel x #[.pointer (some ⟨a, 0, none⟩), .int .u32 rt, .bool false, .map (some xm), .slice xu (List.length (en2 S)) xc] 202 :: blk xm (.map (mE (List.map wK xs)) q) :: Own 113 2 (en2 S) xu xc :: L) w := hS
        refine WL.r 1 rfl ?_
        refine WL.nil ?_
        as_aux_lemma =>
          refine WC.region ?_
          refine WL.r 1 rfl ?_
          refine WL.nw 59 rfl (w64 (by omega)) ?_
          refine WL.r 1 rfl ?_
          refine WL.nil ?_
          exact ⟨_, by omega, k + 1, ⟨r.lo, r.hi, r.less ++ [e], r.gr⟩, a1, c1, u2, d2, rfl, (hS.sel 2 [] rfl), (by omega), (by rw [rdAll_snoc he, ← hr]; exact (rd1 (of_decide_eq_true ((lt1 hre.2 r1).symm.trans cd2))).symm), rfl⟩
      · refine WC.seq ?_
        refine WC.region ?_
        refine WL.run 4 [.int .i64 e.1] rfl (by exact hS.ld 0 rfl rfl) ?_
        refine WL.runG 8 [.int .i64 e.1] rfl (by exact (fun _ => hS.ld 0 rfl rfl)) (fun j => ?_)
        refine WL.prop 54 rfl (band (dd _) (dd _)) ?_
        refine WL.nil ?_
        as_aux_lemma =>
          refine WC.if_ rfl (fun cd3 => ?_) (fun cd3 => ?_)
          · refine WC.region ?_
            refine WL.r 1 rfl ?_
            refine WL.ldF rfl rfl 0 hS rfl rfl ag_113 ?_
            refine WL.lit rfl rfl (en2 [(e.1, e.2)]) el_103 hS (by exact ⟨rfl, rfl⟩) (en2_ok _) rfl (by decide) (fun b2 w hS => ?_)
            refine WL.app rfl rfl 3 (en2 (r.gr ++ [(e.1, e.2)])) el_103 hS rfl (hS.srcO 0 rfl) (en2_app _ _).symm (Rm.of (by first | omega | (simp <;> omega)) (by decide)) rfl rfl (fun a1 c1 w hS => ?_)
            replace hS : St g (Own 113 2 (en2 [(e.1, e.2)]) (some ⟨b2, 0, none⟩) (List.length (en2 [(e.1, e.2)])) :: cel b1 #[.int .i64 e.1, .int .i64 e.2] 113 :: Own 113 2 (en2 r.less) u1 d1 :: Own 113 2 (en2 (r.gr ++ [(e.1, e.2)])) a1 c1 :: cel x #[.pointer (some ⟨a, 0, none⟩), .int .u32 rt, .bool false, .map (some xm), .slice xu (List.length (en2 S)) xc] 202 :: blk xm (.map (mE (List.map wK xs)) q) :: Own 113 2 (en2 S) xu xc :: L) w := hS
            refine WL.r 1 rfl ?_
            refine WL.nil ?_
            refine WC.region ?_
            refine WL.r 1 rfl ?_
            refine WL.nw 59 rfl (w64 (by omega)) ?_
            refine WL.r 1 rfl ?_
            refine WL.nil ?_
            exact ⟨_, by omega, k + 1, ⟨r.lo, r.hi, r.less, r.gr ++ [e]⟩, u1, d1, a1, c1, rfl, (hS.sel 2 [] rfl), (by omega), (by rw [rdAll_snoc he, ← hr]; exact (rd2 (of_decide_eq_false ((lt1 hre.2 r1).symm.trans cd2)) (of_decide_eq_true ((gt1 hre.1 r2).symm.trans cd3))).symm), rfl⟩
          · refine WC.plan [([0, 1, 4, 5, 2, 6, 3, 7, 8, 9], none)] (by kernel_rfl) (by kernel_rfl) ?_
            refine WQ.run 10 [.int .i64 e.1, .int .i64 e.2] rfl (by exact ⟨hS.ld 0 rfl rfl, hS.ld 0 rfl rfl⟩) ?_
            refine WQ.nil ?_
            intro m1
            replace hS := hS.drewN m1; generalize hwm1 : World.drewN _ _ = w at *; clear hwm1
            refine WC.region ?_
            refine WL.r 1 rfl ?_
            refine WL.nw 59 rfl (w64 (by omega)) ?_
            refine WL.r 1 rfl ?_
            refine WL.nil ?_
            exact ⟨_, by omega, k + 1, ⟨min r.lo e.1, max r.hi e.2, r.less, r.gr⟩, u1, d1, u2, d2, rfl, (hS.sel 1 [] rfl), (by omega), (by rw [rdAll_snoc he, ← hr]; exact (rd3 (of_decide_eq_false ((lt1 hre.2 r1).symm.trans cd2)) (of_decide_eq_false ((gt1 hre.1 r2).symm.trans cd3))).symm), rfl⟩
  · refine WC.exit ?_
    as_aux_lemma =>
      refine WC.region ?_
      have hle := rdAll_len lo hi S k; rw [← hr] at hle; have hl1 := en2_len r.less; have hl2 := en2_len r.gr; have e9 : r.less ++ [(r.lo, r.hi)] ++ r.gr = rdF lo hi S := (by rw [hr, List.take_of_length_le (by omega)]; rfl)
      refine WL.r 4 rfl ?_
      refine WL.build rfl rfl (cs := [.int .i64 r.lo, .int .i64 r.hi]) zv_113 rfl rfl ?_
      refine WL.lit rfl rfl (en2 [(r.lo, r.hi)]) el_103 hS (by exact ⟨rfl, rfl⟩) (en2_ok _) rfl (by decide) (fun b1 w hS => ?_)
      refine WL.app rfl rfl 1 (en2 (r.less ++ [(r.lo, r.hi)])) el_103 hS rfl (hS.srcO 0 rfl) (en2_app _ _).symm (Rm.of (by first | omega | (simp <;> omega)) (by decide)) rfl rfl (fun a1 c1 w hS => ?_)
      replace hS : St g (Own 113 2 (en2 [(r.lo, r.hi)]) (some ⟨b1, 0, none⟩) (List.length (en2 [(r.lo, r.hi)])) :: Own 113 2 (en2 (r.less ++ [(r.lo, r.hi)])) a1 c1 :: Own 113 2 (en2 r.gr) u2 d2 :: cel x #[.pointer (some ⟨a, 0, none⟩), .int .u32 rt, .bool false, .map (some xm), .slice xu (List.length (en2 S)) xc] 202 :: blk xm (.map (mE (List.map wK xs)) q) :: Own 113 2 (en2 S) xu xc :: L) w := hS
      refine WL.r 1 rfl ?_
      refine WL.app rfl rfl 1 (en2 ((r.less ++ [(r.lo, r.hi)]) ++ r.gr)) el_103 hS rfl (hS.srcO 2 rfl) (en2_app _ _).symm (Rm.of (by first | omega | (simp <;> omega)) (by decide)) rfl rfl (fun a2 c2 w hS => ?_)
      replace hS : St g (Own 113 2 (en2 [(r.lo, r.hi)]) (some ⟨b1, 0, none⟩) (List.length (en2 [(r.lo, r.hi)])) :: Own 113 2 (en2 ((r.less ++ [(r.lo, r.hi)]) ++ r.gr)) a2 c2 :: Own 113 2 (en2 r.gr) u2 d2 :: cel x #[.pointer (some ⟨a, 0, none⟩), .int .u32 rt, .bool false, .map (some xm), .slice xu (List.length (en2 S)) xc] 202 :: blk xm (.map (mE (List.map wK xs)) q) :: Own 113 2 (en2 S) xu xc :: L) w := hS
      refine WL.r 2 rfl ?_
      refine WL.st rfl rfl rfl 3 hS rfl rfl rfl rfl rfl rfl (fun w hS => ?_)
      replace hS : St g (Own 113 2 (en2 [(r.lo, r.hi)]) (some ⟨b1, 0, none⟩) (List.length (en2 [(r.lo, r.hi)])) :: Own 113 2 (en2 ((r.less ++ [(r.lo, r.hi)]) ++ r.gr)) a2 c2 :: Own 113 2 (en2 r.gr) u2 d2 :: cel x #[.pointer (some ⟨a, 0, none⟩), .int .u32 rt, .bool false, .map (some xm), .slice a2 (List.length (en2 ((r.less ++ [(r.lo, r.hi)]) ++ r.gr))) c2] 202 :: blk xm (.map (mE (List.map wK xs)) q) :: Own 113 2 (en2 S) xu xc :: L) w := hS
      refine WL.nil ?_
      replace hS := St.exClose (f := txF x a rt xs q (rdF lo hi S)) (L := Own 113 2 (en2 [(r.lo, r.hi)]) (some ⟨b1, 0, none⟩) (List.length (en2 [(r.lo, r.hi)])) :: Own 113 2 (en2 r.gr) u2 d2 :: Own 113 2 (en2 S) xu xc :: L) ⟨xm, a2, c2⟩ (by
        rw [e9] at hS
        exact (hS.sel 5 [3, 3, 1, 0, 0] rfl))
      replace hS : St g (Tx x a rt xs q (rdF lo hi S) :: Own 113 2 (en2 [(r.lo, r.hi)]) (some ⟨b1, 0, none⟩) (List.length (en2 [(r.lo, r.hi)])) :: Own 113 2 (en2 r.gr) u2 d2 :: Own 113 2 (en2 S) xu xc :: L) w := hS
      refine ⟨[], trivial, ?_⟩
      replace hS := (hS.sel 4 [0] rfl)
      exact ⟨rfl, hS⟩
set_option maxRecDepth 8192 in
theorem tx_get1 {g w : World} {L : List HP} (x a : Nat) (rt : Int) (xs : List WE) (q : Nat) (S : Kvs) (M : Wrs) (A : AM) (j : Nat) (e : WE) (k : Int) (hW : WOk xs q M) (he : xs[j]? = some e) (hek : e.k = k) (hS : St g (Tx x a rt xs q S :: Arn a A :: L) w) :
    Sp Tryz.prog 107 [.pointer (some ⟨x, 0, none⟩), .int .i64 k] w (fun v w' => v = .tuple #[.int .i64 e.v, .bool e.p, .int .i64 0] ∧ St g (Tx x a rt xs q S :: Arn a A :: L) w') := by
  refine Sp.enter Tryz.func107 rfl (by kernel_rfl) (by kernel_rfl) ?_
  refine WC.seq ?_
  refine WC.region ?_
  refine WL.r 3 rfl ?_
  refine WL.nil ?_
  refine WC.seq ?_
  refine WC.seq ?_
  refine WC.region ?_
  obtain ⟨⟨xm, xu, xc⟩, hS⟩ := St.exOpen (f := txF x a rt xs q S) hS
  replace hS : St g (cel x #[.pointer (some ⟨a, 0, none⟩), .int .u32 rt, .bool false, .map (some xm), .slice xu (List.length (en2 S)) xc] 202 :: blk xm (.map (mE (List.map wK xs)) q) :: Own 113 2 (en2 S) xu xc :: Arn a A :: L) w := hS
  refine WL.run 4 [.bool false] rfl (by exact hS.ld 0 rfl rfl) ?_
  refine WL.nil ?_
  refine WC.ifF rfl rfl ?_
  refine WC.skip ?_
  refine WC.seq ?_
  refine WC.seq ?_
  refine WC.region ?_
  refine WL.run 5 [.map (some xm)] rfl (by exact hS.ld 0 rfl rfl) ?_
  refine WL.lk rfl rfl mt_200 1 hS rfl rfl rfl (by first | trivial | rfl) (r := some (j, .agg #[.bool e.p, .int .i64 e.v])) (hek ▸ ki_in (f := wK) (n := WE.k) hW.k.key hW.k.uniq he) rfl ?_
  refine WL.r 3 rfl ?_
  refine WL.new rfl rfl zv_206 hS (fun b1 w hS => ?_)
  refine WL.stF rfl rfl rfl 0 hS rfl rfl rfl rfl rfl ag_206 (fun w hS => ?_)
  replace hS : St g (cel b1 #[.bool e.p, .int .i64 e.v] 206 :: cel x #[.pointer (some ⟨a, 0, none⟩), .int .u32 rt, .bool false, .map (some xm), .slice xu (List.length (en2 S)) xc] 202 :: blk xm (.map (mE (List.map wK xs)) q) :: Own 113 2 (en2 S) xu xc :: Arn a A :: L) w := hS
  refine WL.r 1 rfl ?_
  refine WL.nil ?_
  as_aux_lemma =>
    refine WC.seq ?_
    refine WC.region ?_
    refine WL.r 1 rfl ?_
    refine WL.nil ?_
    refine WC.ifT rfl rfl ?_
    refine WC.seq ?_
    refine WC.plan [([0, 2, 1, 3, 4, 5, 6], none)] (by kernel_rfl) (by kernel_rfl) ?_
    refine WQ.run 7 [.int .i64 e.v, .bool e.p] rfl (by exact ⟨hS.ld 0 rfl rfl, hS.ld 0 rfl rfl⟩) ?_
    refine WQ.nil ?_
    intro m1
    replace hS := hS.drewN m1; generalize hwm1 : World.drewN _ _ = w at *; clear hwm1
    refine WC.ret ?_
    replace hS := St.exClose (f := txF x a rt xs q S) (L := cel b1 #[.bool e.p, .int .i64 e.v] 206 :: Arn a A :: L) ⟨xm, xu, xc⟩ ((hS.sel 4 [1, 1, 1, 0] rfl))
    replace hS : St g (Tx x a rt xs q S :: cel b1 #[.bool e.p, .int .i64 e.v] 206 :: Arn a A :: L) w := hS
    refine ⟨[.int .i64 e.v, .bool e.p, .int .i64 0], ⟨rfl, rfl, rfl⟩, ?_⟩
    replace hS := (hS.sel 2 [0] rfl)
    exact ⟨rfl, hS⟩
set_option maxRecDepth 8192 in
theorem tx_get2 {g w : World} {L : List HP} (x a : Nat) (rt : Int) (xs : List WE) (q : Nat) (S : Kvs) (M : Wrs) (A : AM) (R : List Int) (k : Int) (t : Tr) (hW : WOk xs q M) (hn : ∀ e ∈ xs, e.k ≠ k) (hA : ARf A R) (hi : Is A t rt) (hk : i64R k) (hR : SpR S) (hSl : S.length ≤ 100000) (hS : St g (Tx x a rt xs q S :: Arn a A :: L) w) :
    Sp Tryz.prog 107 [.pointer (some ⟨x, 0, none⟩), .int .i64 k] w (fun v w' => v = .tuple #[.int .i64 ((Tr.get k t).getD 0), .bool (Tr.get k t).isSome, .int .i64 0] ∧ St g (Tx x a rt xs q (rdF k k S) :: Arn a A :: L) w') := by
  refine Sp.enter Tryz.func107 rfl (by kernel_rfl) (by kernel_rfl) ?_
  refine WC.seq ?_
  refine WC.region ?_
  refine WL.r 3 rfl ?_
  refine WL.nil ?_
  refine WC.seq ?_
  refine WC.seq ?_
  refine WC.region ?_
  obtain ⟨⟨xm, xu, xc⟩, hS⟩ := St.exOpen (f := txF x a rt xs q S) hS
  replace hS : St g (cel x #[.pointer (some ⟨a, 0, none⟩), .int .u32 rt, .bool false, .map (some xm), .slice xu (List.length (en2 S)) xc] 202 :: blk xm (.map (mE (List.map wK xs)) q) :: Own 113 2 (en2 S) xu xc :: Arn a A :: L) w := hS
  refine WL.run 4 [.bool false] rfl (by exact hS.ld 0 rfl rfl) ?_
  refine WL.nil ?_
  refine WC.ifF rfl rfl ?_
  refine WC.skip ?_
  refine WC.seq ?_
  refine WC.seq ?_
  refine WC.region ?_
  refine WL.run 5 [.map (some xm)] rfl (by exact hS.ld 0 rfl rfl) ?_
  refine WL.lk rfl rfl mt_200 1 hS rfl rfl rfl (by first | trivial | rfl) (r := none) (ki_out (f := wK) (n := WE.k) hW.k.key hn) rfl ?_
  refine WL.r 3 rfl ?_
  refine WL.new rfl rfl zv_206 hS (fun b1 w hS => ?_)
  refine WL.stF rfl rfl rfl 0 hS rfl rfl rfl rfl rfl ag_206 (fun w hS => ?_)
  replace hS : St g (cel b1 #[.bool false, .int .i64 0] 206 :: cel x #[.pointer (some ⟨a, 0, none⟩), .int .u32 rt, .bool false, .map (some xm), .slice xu (List.length (en2 S)) xc] 202 :: blk xm (.map (mE (List.map wK xs)) q) :: Own 113 2 (en2 S) xu xc :: Arn a A :: L) w := hS
  refine WL.r 1 rfl ?_
  refine WL.nil ?_
  as_aux_lemma =>
    refine WC.seq ?_
    refine WC.region ?_
    refine WL.r 1 rfl ?_
    refine WL.nil ?_
    refine WC.ifF rfl rfl ?_
    refine WC.skip ?_
    refine WC.seq ?_
    refine WC.region ?_
    replace hS := St.exClose (f := txF x a rt xs q S) (L := cel b1 #[.bool false, .int .i64 0] 206 :: Arn a A :: L) ⟨xm, xu, xc⟩ ((hS.sel 4 [1, 1, 1, 0] rfl))
    replace hS : St g (Tx x a rt xs q S :: cel b1 #[.bool false, .int .i64 0] 206 :: Arn a A :: L) w := hS
    refine WL.r 3 rfl ?_
    refine WL.call rfl rfl (tx_read (x := x) (a := a) (rt := rt) (xs := xs) (q := q) (S := S) (lo := k) (hi := k) (hlo := hk) (hhi := hk) (hR := hR) (hSl := hSl) (hS := hS)) rfl ?_
    clear hS; rintro _ w ⟨rfl, hS⟩
    replace hS : St g (Tx x a rt xs q (rdF k k S) :: cel b1 #[.bool false, .int .i64 0] 206 :: Arn a A :: L) w := hS
    refine WL.nil ?_
    refine WC.seq ?_
    refine WC.plan [([0, 4, 8, 1, 5, 2, 6, 3, 7], some (9, [])), ([10, 11, 12, 13, 14], none)] (by kernel_rfl) (by kernel_rfl) ?_
    obtain ⟨⟨xm, xu, xc⟩, hS⟩ := St.exOpen (f := txF x a rt xs q (rdF k k S)) hS
    replace hS : St g (cel x #[.pointer (some ⟨a, 0, none⟩), .int .u32 rt, .bool false, .map (some xm), .slice xu (List.length (en2 (rdF k k S))) xc] 202 :: blk xm (.map (mE (List.map wK xs)) q) :: Own 113 2 (en2 (rdF k k S)) xu xc :: cel b1 #[.bool false, .int .i64 0] 206 :: Arn a A :: L) w := hS
    refine WQ.run 9 [.pointer (some ⟨a, 0, none⟩), .int .u32 rt] rfl (by exact ⟨hS.ld 0 rfl rfl, hS.ld 0 rfl rfl⟩) ?_
    refine WQ.nil ?_
    intro m1
    replace hS := hS.drewN m1; generalize hwm1 : World.drewN _ _ = w at *; clear hwm1
    refine WL.call rfl rfl (lk_get (a := a) (A := A) (R := R) (i := rt) (k := k) (t := t) (hA := hA) (hi := hi) (hS := (hS.sel 5 [4, 0, 0, 0, 0] rfl))) rfl ?_
    clear hS; rintro _ w ⟨rfl, hS⟩
    replace hS : St g (Arn a A :: cel x #[.pointer (some ⟨a, 0, none⟩), .int .u32 rt, .bool false, .map (some xm), .slice xu (List.length (en2 (rdF k k S))) xc] 202 :: blk xm (.map (mE (List.map wK xs)) q) :: Own 113 2 (en2 (rdF k k S)) xu xc :: cel b1 #[.bool false, .int .i64 0] 206 :: L) w := hS
    refine WL.nil ?_
    refine ⟨by exact trivial, ?_⟩
    refine WQ.r 5 rfl ?_
    refine WQ.nil ?_
    intro m2
    replace hS := hS.drewN m2; generalize hwm2 : World.drewN _ _ = w at *; clear hwm2
    as_aux_lemma =>
      refine WC.seq ?_
      refine WC.region ?_
      refine WL.r 5 rfl ?_
      refine WL.nil ?_
      refine WC.ret ?_
      replace hS := St.exClose (f := txF x a rt xs q (rdF k k S)) (L := Arn a A :: cel b1 #[.bool false, .int .i64 0] 206 :: L) ⟨xm, xu, xc⟩ ((hS.sel 4 [1, 1, 1, 0] rfl))
      replace hS : St g (Tx x a rt xs q (rdF k k S) :: Arn a A :: cel b1 #[.bool false, .int .i64 0] 206 :: L) w := hS
      refine ⟨[.int .i64 ((Tr.get k t).getD 0), .bool (Tr.get k t).isSome, .int .i64 0], ⟨rfl, rfl, rfl⟩, ?_⟩
      replace hS := (hS.sel 3 [0, 0] rfl)
      exact ⟨rfl, hS⟩
def vGet (k : Int) (M : Wrs) (t : Tr) : Int × Bool := match wget k M with
  | some y => (y.2, y.1)
  | none => ((Tr.get k t).getD 0, (Tr.get k t).isSome)
def gSp (k : Int) (M : Wrs) (S : Kvs) : Kvs := if (wget k M).isSome then S else rdF k k S
set_option maxRecDepth 8192 in
theorem tx_get {g w : World} {L : List HP} (x a : Nat) (rt : Int) (xs : List WE) (q : Nat) (S : Kvs) (M : Wrs) (A : AM) (R : List Int) (k : Int) (t : Tr) (hW : WOk xs q M) (hA : ARf A R) (hi : Is A t rt) (hk : i64R k) (hR : SpR S) (hSl : S.length ≤ 100000) (hS : St g (Tx x a rt xs q S :: Arn a A :: L) w) :
    Sp Tryz.prog 107 [.pointer (some ⟨x, 0, none⟩), .int .i64 k] w (fun v w' => v = .tuple #[.int .i64 (vGet k M t).1, .bool (vGet k M t).2, .int .i64 0] ∧ St g (Tx x a rt xs q (gSp k M S) :: Arn a A :: L) w') := by
  rcases ki_cases WE.k xs k with ⟨j, e, he, hek⟩ | hn
  · have h1 : wget k M = some (e.p, e.v) := hek ▸ hW.get he
    have h2 : vGet k M t = (e.v, e.p) := by unfold vGet; rw [h1]
    have h3 : gSp k M S = S := by unfold gSp; rw [h1]; rfl
    rw [h2, h3]
    exact tx_get1 x a rt xs q S M A j e k hW he hek hS
  · have h1 : wget k M = none := hW.no hn
    have h2 : vGet k M t = ((Tr.get k t).getD 0, (Tr.get k t).isSome) := by unfold vGet; rw [h1]
    have h3 : gSp k M S = rdF k k S := by unfold gSp; rw [h1]; rfl
    rw [h2, h3]
    exact tx_get2 x a rt xs q S M A R k t hW hn hA hi hk hR hSl hS
end Go.Proofs.YtlnlnebibgdjdaaGreat
/-! ## K1 -/
namespace Go.Proofs.YtlnlnebibgdjdaaGreat
open Go Go.V
set_option maxRecDepth 8192 in
theorem kb_bal {g w : World} {L : List HP} (x y : Int) (hx : 0 ≤ x ∧ x ≤ 2000000000) (hy : 0 ≤ y ∧ y ≤ 2000000000) (hS : St g (L) w) :
    Sp Tryz.prog 195 [.int .i64 x, .int .i64 y] w (fun v w' => v = .bool (decide (x + 1 ≤ 3 * (y + 1) ∧ y + 1 ≤ 3 * (x + 1))) ∧ St g (L) w') := by
  refine Sp.enter Tryz.func195 rfl (by kernel_rfl) (by kernel_rfl) ?_
  have _ := hy
  have _ := hx
  refine WC.seq ?_
  refine WC.region ?_
  refine WL.r 1 rfl ?_
  refine WL.nil ?_
  refine WC.seq ?_
  refine WC.seq ?_
  refine WC.region ?_
  refine WL.r 2 rfl ?_
  refine WL.rG 12 rfl (fun j => ?_)
  refine WL.prop 18 rfl (bor (bor (bor (dd _) (dd _)) (dd _)) (dd _)) ?_
  refine WL.nil ?_
  refine WC.ifF rfl (decide_eq_false ((by omega))) ?_
  refine WC.skip ?_
  refine WC.seq ?_
  refine WC.region ?_
  refine WL.r 2 rfl ?_
  refine WL.nw 20 rfl (w64 (by omega)) ?_
  refine WL.r 2 rfl ?_
  refine WL.nw 22 rfl (w64 (by omega)) ?_
  refine WL.r 1 rfl ?_
  refine WL.nw 23 rfl (w64 (by omega)) ?_
  refine WL.r 1 rfl ?_
  refine WL.rG 9 rfl (fun j => ?_)
  refine WL.prop 32 rfl (band (dd _) (dd _)) ?_
  refine WL.nil ?_
  as_aux_lemma =>
    refine WC.ret ?_
    refine ⟨[.bool (bif (decide ((x + 1) ≤ (3 * (y + 1)))) then (decide ((IntKind.i64.wrap (y + 1)) ≤ (IntKind.i64.wrap (3 * (IntKind.i64.wrap (x + 1)))))) else false)], rfl, ?_⟩
    exact ⟨congrArg Value.bool (by rw [w64 (z := y + 1) (by omega), w64 (z := x + 1) (by omega), w64 (z := 3 * (x + 1)) (by omega), bif_and]), hS⟩
set_option maxRecDepth 8192 in
theorem kt_least {g w : World} {L : List HP} (n : Nat) (hn : n ≤ 1000000) (hS : St g (L) w) :
    Sp Tryz.prog 199 [.int .i64 (n : Int)] w (fun v w' => v = .int .i64 ((n : Int) / 4) ∧ St g (L) w') := by
  refine Sp.enter Tryz.func199 rfl (by kernel_rfl) (by kernel_rfl) ?_
  have _ := hn
  refine WC.seq ?_
  refine WC.region ?_
  refine WL.r 1 rfl ?_
  refine WL.nil ?_
  refine WC.seq ?_
  refine WC.region ?_
  refine WL.r 3 rfl ?_
  refine WL.reb 5 (.int .i64 ((max 0 (n : Int)) / 4)) (congrArg (Value.int .i64) (quo_i64 (p := max 0 (n : Int)) (q := 4) (by omega))) ?_
  refine WL.r 1 rfl ?_
  refine WL.nil ?_
  refine WC.ret ?_
  refine ⟨[.int .i64 ((max 0 (n : Int)) / 4)], rfl, ?_⟩
  exact ⟨congrArg (Value.int .i64) (by omega), hS⟩
set_option maxRecDepth 8192 in
theorem kt_pivot {g w : World} {L : List HP} (n : Nat) (q : Int) (hn : 1 ≤ n ∧ n ≤ 1000000) (hq : 0 ≤ q ∧ q < 18446744073709551616) (hS : St g (L) w) :
    Sp Tryz.prog 160 [.int .i64 (n : Int), .int .u64 q] w (fun v w' => ∃ (p : Nat), v = .int .i64 (p : Int) ∧ St g (L) w' ∧ (p < n) ∧ (Bal p (n - 1 - p))) := by
  refine Sp.enter Tryz.func160 rfl (by kernel_rfl) (by kernel_rfl) ?_
  have _ := hq
  have _ := hn
  refine WC.seq ?_
  refine WC.region ?_
  refine WL.r 1 rfl ?_
  refine WL.nil ?_
  refine WC.seq ?_
  refine WC.region ?_
  refine WL.r 1 rfl ?_
  refine WL.call rfl rfl (kt_least (n := n) (hn := (by omega)) (hS := hS)) rfl ?_
  clear hS; rintro _ w ⟨rfl, hS⟩
  replace hS : St g (L) w := hS
  refine WL.r 1 rfl ?_
  refine WL.nil ?_
  refine WC.seq ?_
  refine WC.block ?_
  refine WC.loop [0, 1, 4, 5] (fun kM vs w => ∃ (j : Int), vs = [.int .i64 (n : Int), .int .u64 q, .int .i64 0, .int .i64 j] ∧ St g (L) w ∧ (0 ≤ j ∧ j < n) ∧ (j.toNat) = kM) (((n : Int) / 4).toNat) ⟨(n : Int) / 4, rfl, hS, (by omega), rfl⟩ ?_
  clear hS; rintro _ _ w j ⟨j, rfl, hS, hj, rfl⟩
  refine WC.seq ?_
  refine WC.seq ?_
  refine WC.region ?_
  refine WL.r 3 rfl ?_
  by_cases cg1 : 0 < j
  · refine WL.reb 11 (.bool true) (congrArg Value.bool (decide_eq_true cg1)) ?_
    refine WL.ung rfl rfl rfl ?_
    refine WL.r 1 rfl ?_
    refine WL.ung rfl rfl rfl ?_
    refine WL.r 1 rfl ?_
    refine WL.nw 13 rfl (w64 (by omega)) ?_
    refine WL.ung rfl rfl rfl ?_
    refine WL.r 1 rfl ?_
    refine WL.ung rfl rfl rfl ?_
    refine WL.r 1 rfl ?_
    refine WL.ung rfl rfl rfl ?_
    refine WL.r 1 rfl ?_
    refine WL.nw 16 rfl (w64 (by omega)) ?_
    refine WL.ung rfl rfl rfl ?_
    refine WL.call rfl rfl (kb_bal (x := j - 1) (y := (n : Int) - j) (hx := (by omega)) (hy := (by omega)) (hS := hS)) rfl ?_
    clear hS; rintro _ w ⟨rfl, hS⟩
    replace hS : St g (L) w := hS
    refine WL.r 1 rfl ?_
    refine WL.nil ?_
    as_aux_lemma =>
      refine WC.ifP rfl (fun cd1 => ?_) (fun cd1 => ?_)
      · refine WC.skip ?_
        refine WC.block ?_
        refine WC.region ?_
        refine WL.r 2 rfl ?_
        refine WL.nw 20 rfl (w64 (by omega)) ?_
        refine WL.r 1 rfl ?_
        refine WL.nil ?_
        exact ⟨_, by omega, j - 1, rfl, hS, (by omega), rfl⟩
      · refine WC.exit ?_
        refine WC.seq ?_
        refine WC.block ?_
        refine WC.loop [0, 1, 4, 5] (fun kM vs w => ∃ (k : Int), vs = [.int .i64 (n : Int), .int .u64 q, .int .i64 0, .int .i64 k] ∧ St g (L) w ∧ (0 ≤ k ∧ k < n) ∧ ((n - k).toNat) = kM) ((n - j).toNat) ⟨j, rfl, hS, (hj), rfl⟩ ?_
        clear hS; rintro _ _ w j ⟨k, rfl, hS, hk, rfl⟩
        refine WC.seq ?_
        refine WC.seq ?_
        refine WC.region ?_
        refine WL.r 3 rfl ?_
        refine WL.nw 23 rfl (w64 (by omega)) ?_
        refine WL.r 2 rfl ?_
        by_cases cg2 : k < ((n : Int) - 1)
        · refine WL.reb 25 (.bool true) (congrArg Value.bool (decide_eq_true cg2)) ?_
          refine WL.ung rfl rfl rfl ?_
          refine WL.r 1 rfl ?_
          refine WL.ung rfl rfl rfl ?_
          refine WL.r 1 rfl ?_
          refine WL.ung rfl rfl rfl ?_
          refine WL.r 1 rfl ?_
          refine WL.nw 28 rfl (w64 (by omega)) ?_
          refine WL.ung rfl rfl rfl ?_
          refine WL.r 1 rfl ?_
          refine WL.ung rfl rfl rfl ?_
          refine WL.r 1 rfl ?_
          refine WL.nw 30 rfl (w64 (by omega)) ?_
          refine WL.ung rfl rfl rfl ?_
          refine WL.call rfl rfl (kb_bal (x := k) (y := ((n : Int) - 1) - k) (hx := (by omega)) (hy := (by omega)) (hS := hS)) rfl ?_
          clear hS; rintro _ w ⟨rfl, hS⟩
          replace hS : St g (L) w := hS
          refine WL.ung rfl rfl rfl ?_
          refine WL.r 1 rfl ?_
          refine WL.prop 32 rfl (bnot (dd _)) ?_
          refine WL.r 1 rfl ?_
          refine WL.nil ?_
          as_aux_lemma =>
            refine WC.ifP rfl (fun cd2 => ?_) (fun cd2 => ?_)
            · refine WC.skip ?_
              refine WC.block ?_
              refine WC.region ?_
              refine WL.r 2 rfl ?_
              refine WL.nw 35 rfl (w64 (by omega)) ?_
              refine WL.r 1 rfl ?_
              refine WL.nil ?_
              exact ⟨_, by omega, k + 1, rfl, hS, (by omega), rfl⟩
            · refine WC.exit ?_
              refine WC.seq ?_
              refine WC.region ?_
              refine WL.r 2 rfl ?_
              refine WL.nw 37 rfl (w64 (by omega)) ?_
              refine WL.r 2 rfl ?_
              refine WL.nw 39 rfl (w64 (by omega)) ?_
              refine WL.r 1 rfl ?_
              refine WL.nil ?_
              refine WC.seq ?_
              refine WC.seq ?_
              refine WC.region ?_
              refine WL.r 3 rfl ?_
              refine WL.nil ?_
              refine WC.ifP rfl (fun cd3 => ?_) (fun cd3 => ?_)
              · refine WC.seq ?_
                refine WC.region ?_
                refine WL.r 2 rfl ?_
                refine WL.reb 44 (.int .i64 ((n : Int) / 2)) (congrArg (Value.int .i64) (quo_i64 (p := (n : Int)) (q := 2) (by omega))) ?_
                refine WL.r 1 rfl ?_
                refine WL.nil ?_
                refine WC.ret ?_
                refine ⟨[.int .i64 ((n : Int) / 2)], rfl, ?_⟩
                exact ⟨n / 2, congrArg (Value.int .i64) (by omega), hS, by omega, by constructor <;> omega⟩
              · refine WC.skip ?_
                refine WC.seq ?_
                refine WC.region ?_
                obtain ⟨m, hm⟩ : ∃ m : Nat, (n : Int) - 1 - k - k + 1 = Int.ofNat (m + 1) := ⟨((n : Int) - 1 - k - k).toNat, by simp; omega⟩; have hm1 := Int.emod_nonneg q (b := Int.ofNat (m + 1)) (by first | (simp; done) | (simp; omega)); have hm2 := Int.emod_lt_of_pos q (b := Int.ofNat (m + 1)) (by first | (simp; done) | (simp; omega))
                refine WL.r 5 rfl ?_
                refine WL.nw 49 rfl (w64 (by omega)) ?_
                refine WL.r 1 rfl ?_
                refine WL.nw 50 rfl (w64 (by omega)) ?_
                refine WL.r 1 rfl ?_
                refine WL.reb 51 (.int .u64 (Int.ofNat (m + 1))) (congrArg (Value.int .u64) (by rw [wu64 (by omega)]; exact hm)) ?_
                refine WL.r 1 rfl ?_
                refine WL.reb 52 (.int .u64 (q % (Int.ofNat (m + 1)))) (congrArg (Value.int .u64) (Int.tmod_eq_emod_of_nonneg (a := q) (by omega))) ?_
                refine WL.r 1 rfl ?_
                refine WL.nw 53 rfl (w64 (by omega)) ?_
                refine WL.r 1 rfl ?_
                refine WL.nw 54 rfl (w64 (by omega)) ?_
                refine WL.r 1 rfl ?_
                refine WL.nil ?_
                as_aux_lemma =>
                  refine WC.ret ?_
                  refine ⟨[.int .i64 (k + (q % (Int.ofNat (m + 1))))], rfl, ?_⟩
                  exact ⟨(k + q % Int.ofNat (m + 1)).toNat, congrArg (Value.int .i64) (by omega), hS, by omega, by constructor <;> omega⟩
        · refine WL.reb 25 (.bool false) (congrArg Value.bool (decide_eq_false cg2)) ?_
          refine WL.skp rfl rfl rfl rfl ?_
          refine WL.skp rfl rfl rfl rfl ?_
          refine WL.skp rfl rfl rfl rfl ?_
          refine WL.skp rfl rfl rfl rfl ?_
          refine WL.skp rfl rfl rfl rfl ?_
          refine WL.skp rfl rfl rfl rfl ?_
          refine WL.skp rfl rfl rfl rfl ?_
          refine WL.r 1 rfl ?_
          refine WL.nil ?_
          refine WC.ifF rfl rfl ?_
          refine WC.exit ?_
          as_aux_lemma =>
            refine WC.seq ?_
            refine WC.region ?_
            refine WL.r 2 rfl ?_
            refine WL.nw 37 rfl (w64 (by omega)) ?_
            refine WL.r 2 rfl ?_
            refine WL.nw 39 rfl (w64 (by omega)) ?_
            refine WL.r 1 rfl ?_
            refine WL.nil ?_
            refine WC.seq ?_
            refine WC.seq ?_
            refine WC.region ?_
            refine WL.r 3 rfl ?_
            refine WL.nil ?_
            refine WC.ifP rfl (fun cd2 => ?_) (fun cd2 => ?_)
            · refine WC.seq ?_
              refine WC.region ?_
              refine WL.r 2 rfl ?_
              refine WL.reb 44 (.int .i64 ((n : Int) / 2)) (congrArg (Value.int .i64) (quo_i64 (p := (n : Int)) (q := 2) (by omega))) ?_
              refine WL.r 1 rfl ?_
              refine WL.nil ?_
              refine WC.ret ?_
              refine ⟨[.int .i64 ((n : Int) / 2)], rfl, ?_⟩
              exact ⟨n / 2, congrArg (Value.int .i64) (by omega), hS, by omega, by constructor <;> omega⟩
            · refine WC.skip ?_
              refine WC.seq ?_
              refine WC.region ?_
              obtain ⟨m, hm⟩ : ∃ m : Nat, (n : Int) - 1 - k - k + 1 = Int.ofNat (m + 1) := ⟨((n : Int) - 1 - k - k).toNat, by simp; omega⟩; have hm1 := Int.emod_nonneg q (b := Int.ofNat (m + 1)) (by first | (simp; done) | (simp; omega)); have hm2 := Int.emod_lt_of_pos q (b := Int.ofNat (m + 1)) (by first | (simp; done) | (simp; omega))
              refine WL.r 5 rfl ?_
              refine WL.nw 49 rfl (w64 (by omega)) ?_
              refine WL.r 1 rfl ?_
              refine WL.nw 50 rfl (w64 (by omega)) ?_
              refine WL.r 1 rfl ?_
              refine WL.reb 51 (.int .u64 (Int.ofNat (m + 1))) (congrArg (Value.int .u64) (by rw [wu64 (by omega)]; exact hm)) ?_
              refine WL.r 1 rfl ?_
              refine WL.reb 52 (.int .u64 (q % (Int.ofNat (m + 1)))) (congrArg (Value.int .u64) (Int.tmod_eq_emod_of_nonneg (a := q) (by omega))) ?_
              refine WL.r 1 rfl ?_
              refine WL.nw 53 rfl (w64 (by omega)) ?_
              refine WL.r 1 rfl ?_
              refine WL.nw 54 rfl (w64 (by omega)) ?_
              refine WL.r 1 rfl ?_
              refine WL.nil ?_
              as_aux_lemma =>
                refine WC.ret ?_
                refine ⟨[.int .i64 (k + (q % (Int.ofNat (m + 1))))], rfl, ?_⟩
                exact ⟨(k + q % Int.ofNat (m + 1)).toNat, congrArg (Value.int .i64) (by omega), hS, by omega, by constructor <;> omega⟩
  · refine WL.reb 11 (.bool false) (congrArg Value.bool (decide_eq_false cg1)) ?_
    refine WL.skp rfl rfl rfl rfl ?_
    refine WL.skp rfl rfl rfl rfl ?_
    refine WL.skp rfl rfl rfl rfl ?_
    refine WL.skp rfl rfl rfl rfl ?_
    refine WL.skp rfl rfl rfl rfl ?_
    refine WL.skp rfl rfl rfl rfl ?_
    refine WL.r 1 rfl ?_
    refine WL.nil ?_
    as_aux_lemma =>
      refine WC.ifF rfl rfl ?_
      refine WC.exit ?_
      refine WC.seq ?_
      refine WC.block ?_
      refine WC.loop [0, 1, 4, 5] (fun kM vs w => ∃ (k : Int), vs = [.int .i64 (n : Int), .int .u64 q, .int .i64 0, .int .i64 k] ∧ St g (L) w ∧ (0 ≤ k ∧ k < n) ∧ ((n - k).toNat) = kM) ((n - j).toNat) ⟨j, rfl, hS, (hj), rfl⟩ ?_
      clear hS; rintro _ _ w j ⟨k, rfl, hS, hk, rfl⟩
      refine WC.seq ?_
      refine WC.seq ?_
      refine WC.region ?_
      refine WL.r 3 rfl ?_
      refine WL.nw 23 rfl (w64 (by omega)) ?_
      refine WL.r 2 rfl ?_
      by_cases cg2 : k < ((n : Int) - 1)
      · refine WL.reb 25 (.bool true) (congrArg Value.bool (decide_eq_true cg2)) ?_
        refine WL.ung rfl rfl rfl ?_
        refine WL.r 1 rfl ?_
        refine WL.ung rfl rfl rfl ?_
        refine WL.r 1 rfl ?_
        refine WL.ung rfl rfl rfl ?_
        refine WL.r 1 rfl ?_
        refine WL.nw 28 rfl (w64 (by omega)) ?_
        refine WL.ung rfl rfl rfl ?_
        refine WL.r 1 rfl ?_
        refine WL.ung rfl rfl rfl ?_
        refine WL.r 1 rfl ?_
        refine WL.nw 30 rfl (w64 (by omega)) ?_
        refine WL.ung rfl rfl rfl ?_
        refine WL.call rfl rfl (kb_bal (x := k) (y := ((n : Int) - 1) - k) (hx := (by omega)) (hy := (by omega)) (hS := hS)) rfl ?_
        clear hS; rintro _ w ⟨rfl, hS⟩
        replace hS : St g (L) w := hS
        refine WL.ung rfl rfl rfl ?_
        refine WL.r 1 rfl ?_
        refine WL.prop 32 rfl (bnot (dd _)) ?_
        refine WL.r 1 rfl ?_
        refine WL.nil ?_
        as_aux_lemma =>
          refine WC.ifP rfl (fun cd1 => ?_) (fun cd1 => ?_)
          · refine WC.skip ?_
            refine WC.block ?_
            refine WC.region ?_
            refine WL.r 2 rfl ?_
            refine WL.nw 35 rfl (w64 (by omega)) ?_
            refine WL.r 1 rfl ?_
            refine WL.nil ?_
            exact ⟨_, by omega, k + 1, rfl, hS, (by omega), rfl⟩
          · refine WC.exit ?_
            refine WC.seq ?_
            refine WC.region ?_
            refine WL.r 2 rfl ?_
            refine WL.nw 37 rfl (w64 (by omega)) ?_
            refine WL.r 2 rfl ?_
            refine WL.nw 39 rfl (w64 (by omega)) ?_
            refine WL.r 1 rfl ?_
            refine WL.nil ?_
            refine WC.seq ?_
            refine WC.seq ?_
            refine WC.region ?_
            refine WL.r 3 rfl ?_
            refine WL.nil ?_
            refine WC.ifP rfl (fun cd2 => ?_) (fun cd2 => ?_)
            · refine WC.seq ?_
              refine WC.region ?_
              refine WL.r 2 rfl ?_
              refine WL.reb 44 (.int .i64 ((n : Int) / 2)) (congrArg (Value.int .i64) (quo_i64 (p := (n : Int)) (q := 2) (by omega))) ?_
              refine WL.r 1 rfl ?_
              refine WL.nil ?_
              refine WC.ret ?_
              refine ⟨[.int .i64 ((n : Int) / 2)], rfl, ?_⟩
              exact ⟨n / 2, congrArg (Value.int .i64) (by omega), hS, by omega, by constructor <;> omega⟩
            · refine WC.skip ?_
              refine WC.seq ?_
              refine WC.region ?_
              obtain ⟨m, hm⟩ : ∃ m : Nat, (n : Int) - 1 - k - k + 1 = Int.ofNat (m + 1) := ⟨((n : Int) - 1 - k - k).toNat, by simp; omega⟩; have hm1 := Int.emod_nonneg q (b := Int.ofNat (m + 1)) (by first | (simp; done) | (simp; omega)); have hm2 := Int.emod_lt_of_pos q (b := Int.ofNat (m + 1)) (by first | (simp; done) | (simp; omega))
              refine WL.r 5 rfl ?_
              refine WL.nw 49 rfl (w64 (by omega)) ?_
              refine WL.r 1 rfl ?_
              refine WL.nw 50 rfl (w64 (by omega)) ?_
              refine WL.r 1 rfl ?_
              refine WL.reb 51 (.int .u64 (Int.ofNat (m + 1))) (congrArg (Value.int .u64) (by rw [wu64 (by omega)]; exact hm)) ?_
              refine WL.r 1 rfl ?_
              refine WL.reb 52 (.int .u64 (q % (Int.ofNat (m + 1)))) (congrArg (Value.int .u64) (Int.tmod_eq_emod_of_nonneg (a := q) (by omega))) ?_
              refine WL.r 1 rfl ?_
              refine WL.nw 53 rfl (w64 (by omega)) ?_
              refine WL.r 1 rfl ?_
              refine WL.nw 54 rfl (w64 (by omega)) ?_
              refine WL.r 1 rfl ?_
              refine WL.nil ?_
              as_aux_lemma =>
                refine WC.ret ?_
                refine ⟨[.int .i64 (k + (q % (Int.ofNat (m + 1))))], rfl, ?_⟩
                exact ⟨(k + q % Int.ofNat (m + 1)).toNat, congrArg (Value.int .i64) (by omega), hS, by omega, by constructor <;> omega⟩
      · refine WL.reb 25 (.bool false) (congrArg Value.bool (decide_eq_false cg2)) ?_
        refine WL.skp rfl rfl rfl rfl ?_
        refine WL.skp rfl rfl rfl rfl ?_
        refine WL.skp rfl rfl rfl rfl ?_
        refine WL.skp rfl rfl rfl rfl ?_
        refine WL.skp rfl rfl rfl rfl ?_
        refine WL.skp rfl rfl rfl rfl ?_
        refine WL.skp rfl rfl rfl rfl ?_
        refine WL.r 1 rfl ?_
        refine WL.nil ?_
        refine WC.ifF rfl rfl ?_
        refine WC.exit ?_
        as_aux_lemma =>
          refine WC.seq ?_
          refine WC.region ?_
          refine WL.r 2 rfl ?_
          refine WL.nw 37 rfl (w64 (by omega)) ?_
          refine WL.r 2 rfl ?_
          refine WL.nw 39 rfl (w64 (by omega)) ?_
          refine WL.r 1 rfl ?_
          refine WL.nil ?_
          refine WC.seq ?_
          refine WC.seq ?_
          refine WC.region ?_
          refine WL.r 3 rfl ?_
          refine WL.nil ?_
          refine WC.ifP rfl (fun cd1 => ?_) (fun cd1 => ?_)
          · refine WC.seq ?_
            refine WC.region ?_
            refine WL.r 2 rfl ?_
            refine WL.reb 44 (.int .i64 ((n : Int) / 2)) (congrArg (Value.int .i64) (quo_i64 (p := (n : Int)) (q := 2) (by omega))) ?_
            refine WL.r 1 rfl ?_
            refine WL.nil ?_
            refine WC.ret ?_
            refine ⟨[.int .i64 ((n : Int) / 2)], rfl, ?_⟩
            exact ⟨n / 2, congrArg (Value.int .i64) (by omega), hS, by omega, by constructor <;> omega⟩
          · refine WC.skip ?_
            refine WC.seq ?_
            refine WC.region ?_
            obtain ⟨m, hm⟩ : ∃ m : Nat, (n : Int) - 1 - k - k + 1 = Int.ofNat (m + 1) := ⟨((n : Int) - 1 - k - k).toNat, by simp; omega⟩; have hm1 := Int.emod_nonneg q (b := Int.ofNat (m + 1)) (by first | (simp; done) | (simp; omega)); have hm2 := Int.emod_lt_of_pos q (b := Int.ofNat (m + 1)) (by first | (simp; done) | (simp; omega))
            refine WL.r 5 rfl ?_
            refine WL.nw 49 rfl (w64 (by omega)) ?_
            refine WL.r 1 rfl ?_
            refine WL.nw 50 rfl (w64 (by omega)) ?_
            refine WL.r 1 rfl ?_
            refine WL.reb 51 (.int .u64 (Int.ofNat (m + 1))) (congrArg (Value.int .u64) (by rw [wu64 (by omega)]; exact hm)) ?_
            refine WL.r 1 rfl ?_
            refine WL.reb 52 (.int .u64 (q % (Int.ofNat (m + 1)))) (congrArg (Value.int .u64) (Int.tmod_eq_emod_of_nonneg (a := q) (by omega))) ?_
            refine WL.r 1 rfl ?_
            refine WL.nw 53 rfl (w64 (by omega)) ?_
            refine WL.r 1 rfl ?_
            refine WL.nw 54 rfl (w64 (by omega)) ?_
            refine WL.r 1 rfl ?_
            refine WL.nil ?_
            as_aux_lemma =>
              refine WC.ret ?_
              refine ⟨[.int .i64 (k + (q % (Int.ofNat (m + 1))))], rfl, ?_⟩
              exact ⟨(k + q % Int.ofNat (m + 1)).toNat, congrArg (Value.int .i64) (by omega), hS, by omega, by constructor <;> omega⟩
theorem u64_rng (z : Int) : 0 ≤ IntKind.u64.wrap z ∧ IntKind.u64.wrap z < 18446744073709551616 := by
  have h : IntKind.u64.wrap z = z % 18446744073709551616 := rfl
  rw [h]; omega
theorem split_at {l : Kvs} {p : Nat} {e : Int × Int} (he : l[p]? = some e) : l.take p ++ e :: l.drop (p + 1) = l := by
  obtain ⟨h, rfl⟩ := List.getElem?_eq_some_iff.1 he
  rw [← List.drop_eq_getElem_cons h, List.take_append_drop]
set_option maxHeartbeats 1000000 in
set_option maxRecDepth 8192 in
theorem kt_plant_step (nM : Nat) (ih : ∀ mM : Nat, mM < nM → ∀ (g w : World) (L : List HP) (a : Nat) (A : AM) (R : List Int) (l : Kvs) (u : Option Addr) (d : Nat) (q : Int), (ARf A R) → ((l.length : Int) ≤ A.s.free) → (l.length ≤ 100000) → (R.length + l.length ≤ 800000000) → (0 ≤ q ∧ q < 18446744073709551616) → l.length = mM → St g (Arn a A :: Sh 77 2 (en2 l) u d :: L) w → Sp Tryz.prog 94 [.pointer (some ⟨a, 0, none⟩), .slice u (List.length (en2 l)) d, .int .u64 q] w (fun v w' => ∃ (A2 : AM) (i : Int) (t : Tr), v = .tuple #[.int .u32 i, .bool true] ∧ St g (Arn a A2 :: Sh 77 2 (en2 l) u d :: L) w' ∧ (TOp A A2 R i t l.length) ∧ (t.ok) ∧ (t.ls = l))) {g w : World} {L : List HP} (a : Nat) (A : AM) (R : List Int) (l : Kvs) (u : Option Addr) (d : Nat) (q : Int) (hA : ARf A R) (hf : (l.length : Int) ≤ A.s.free) (hl : l.length ≤ 100000) (hz : R.length + l.length ≤ 800000000) (hq : 0 ≤ q ∧ q < 18446744073709551616) (hM : l.length = nM) (hS : St g (Arn a A :: Sh 77 2 (en2 l) u d :: L) w) :
    Sp Tryz.prog 94 [.pointer (some ⟨a, 0, none⟩), .slice u (List.length (en2 l)) d, .int .u64 q] w (fun v w' => ∃ (A2 : AM) (i : Int) (t : Tr), v = .tuple #[.int .u32 i, .bool true] ∧ St g (Arn a A2 :: Sh 77 2 (en2 l) u d :: L) w' ∧ (TOp A A2 R i t l.length) ∧ (t.ok) ∧ (t.ls = l)) := by
  refine Sp.enter Tryz.func94 rfl (by kernel_rfl) (by kernel_rfl) ?_
  have _ := hz
  have _ := hl
  have _ := hf
  refine WC.seq ?_
  refine WC.region ?_
  refine WL.r 2 rfl ?_
  refine WL.nil ?_
  refine WC.seq ?_
  refine WC.seq ?_
  refine WC.region ?_
  have hll := en2_len l
  refine WL.r 3 rfl ?_
  refine WL.nil ?_
  refine WC.ifP rfl (fun he => ?_) (fun he => ?_)
  · refine WC.seq ?_
    refine WC.region ?_
    refine WL.r 2 rfl ?_
    refine WL.nil ?_
    refine WC.ret ?_
    refine ⟨[.int .u32 0, .bool true], ⟨rfl, rfl⟩, ?_⟩
    have hn : l = [] := List.length_eq_zero_iff.1 (by omega); subst hn; exact ⟨A, 0, .nil, rfl, hS, ARf.refl (hA.cons0 (by omega)) rfl, trivial, rfl⟩
  · refine WC.skip ?_
    refine WC.seq ?_
    refine WC.region ?_
    refine WL.r 3 rfl ?_
    refine WL.call rfl rfl (kt_pivot (n := List.length (en2 l)) (q := q) (hn := (by omega)) (hq := hq) (hS := hS)) rfl ?_
    clear hS; rintro _ w ⟨p1, rfl, hS, f1, f2⟩
    replace hS : St g (Arn a A :: Sh 77 2 (en2 l) u d :: L) w := hS
    refine WL.r 1 rfl ?_
    refine WL.nil ?_
    refine WC.seq ?_
    refine WC.region ?_
    rw [hll] at f1 f2; obtain ⟨e, hee⟩ : ∃ e, l[p1]? = some e := ⟨_, List.getElem?_eq_getElem f1⟩; have hsp := split_at hee; have htl : (l.take p1).length = p1 := (by rw [List.length_take]; omega); have hdl : (l.drop (p1 + 1)).length = l.length - (p1 + 1) := List.length_drop
    refine WL.r 3 rfl ?_
    refine WL.slHi rfl rfl (v := (p1 : Int)) 1 (p1) (en2 (l.take p1)) el_49 hS rfl rfl rfl (by omega) (by omega) (en2_take _ _) (fun a1 hS => ?_)
    replace hS : St g (Sh 77 2 (en2 (l.take p1)) a1 d :: Arn a A :: Sh 77 2 (en2 l) u d :: L) w := hS
    refine WL.r 2 rfl ?_
    refine WL.reb 32 (.int .u64 (q / 5)) (congrArg (Value.int .u64) (quo_u64 (p := q) (q := 5) (by omega))) ?_
    refine WL.r 2 rfl ?_
    refine WL.r 1 rfl ?_
    refine WL.call rfl rfl (ih (List.length (l.take p1)) (by omega) _ _ _ a A R (l.take p1) a1 d (IntKind.u64.wrap ((q / 5) + (IntKind.u64.wrap (q * 3)))) (hA) ((by omega)) ((by omega)) ((by omega)) ((u64_rng _)) rfl (hS.sel 2 [1, 0] rfl)) rfl ?_
    clear hS; rintro _ w ⟨A1, i1, t1, rfl, hS, f3, f4, f5⟩
    replace hS : St g (Arn a A1 :: Sh 77 2 (en2 (l.take p1)) a1 d :: Sh 77 2 (en2 l) u d :: L) w := hS
    refine WL.r 5 rfl ?_
    refine WL.nil ?_
    as_aux_lemma =>
      refine WC.seq ?_
      refine WC.seq ?_
      refine WC.region ?_
      refine WL.r 2 rfl ?_
      refine WL.nil ?_
      refine WC.ifF rfl rfl ?_
      refine WC.skip ?_
      refine WC.seq ?_
      refine WC.region ?_
      have hfr1 := f3.fr
      refine WL.r 4 rfl ?_
      refine WL.reb 45 (.int .i64 ((p1 + 1 : Nat) : Int)) (congrArg (Value.int .i64) (by rw [w64 (by omega)]; omega)) ?_
      refine WL.slLo rfl rfl (v := ((p1 + 1 : Nat) : Int)) 2 (p1 + 1) (en2 (l.drop (p1 + 1))) el_49 hS rfl rfl rfl (by omega) (by omega) (en2_drop _ _) (fun a2 hS => ?_)
      replace hS : St g (Sh 77 2 (en2 (l.drop (p1 + 1))) a2 (d - (p1 + 1)) :: Arn a A1 :: Sh 77 2 (en2 (l.take p1)) a1 d :: Sh 77 2 (en2 l) u d :: L) w := hS
      refine WL.r 2 rfl ?_
      refine WL.reb 48 (.int .u64 (q / 7)) (congrArg (Value.int .u64) (quo_u64 (p := q) (q := 7) (by omega))) ?_
      refine WL.r 2 rfl ?_
      refine WL.r 1 rfl ?_
      refine WL.r 1 rfl ?_
      refine WL.call rfl rfl (ih (List.length (l.drop (p1 + 1))) (by omega) _ _ _ a A1 (i1 :: R) (l.drop (p1 + 1)) a2 (d - (p1 + 1)) (IntKind.u64.wrap ((IntKind.u64.wrap ((q / 7) + (IntKind.u64.wrap (q * 5)))) + 1)) (f3.ref) ((by omega)) ((by omega)) ((by simp only [List.length_cons]; omega)) ((u64_rng _)) rfl (hS.sel 2 [1, 0] rfl)) rfl ?_
      clear hS; rintro _ w ⟨A2, i2, t2, rfl, hS, f6, f7, f8⟩
      replace hS : St g (Arn a A2 :: Sh 77 2 (en2 (l.drop (p1 + 1))) a2 (d - (p1 + 1)) :: Sh 77 2 (en2 (l.take p1)) a1 d :: Sh 77 2 (en2 l) u d :: L) w := hS
      refine WL.r 5 rfl ?_
      refine WL.nil ?_
      refine WC.seq ?_
      refine WC.seq ?_
      refine WC.region ?_
      refine WL.r 2 rfl ?_
      refine WL.nil ?_
      as_aux_lemma =>
        refine WC.ifF rfl rfl ?_
        refine WC.skip ?_
        refine WC.seq ?_
        refine WC.plan [([0, 1, 2, 6, 7, 11, 12, 3, 8, 4, 9, 5, 10], some (13, [])), ([14, 15, 16, 17, 18], none)] (by kernel_rfl) (by kernel_rfl) ?_
        have hfr2 := f6.fr; have hn1 := Tr.ls_len t1; have hn2 := Tr.ls_len t2; rw [f5] at hn1; rw [f8] at hn2; have hM := Mk.of (k := e.1) (v := e.2) f6.ref.sw (f6.kp i1 (by simp) t1 f3.is) f6.is (by omega) (by omega) (by omega); have hrl := f6.ref.rng (r := i1) (by simp); have hrr := f6.ref.rng (r := i2) (by simp); have hnx := hM.is.1
        refine WQ.r 7 rfl ?_
        refine WQ.ix rfl rfl (i := (p1 : Int)) (p1) el_49 rfl rfl (by omega) (by omega) (hS.rdS 3 rfl (en2_at hee)).1 ?_
        refine WQ.ix rfl rfl (i := (p1 : Int)) (p1) el_49 rfl rfl (by omega) (by omega) (hS.rdS 3 rfl (en2_at hee)).1 ?_
        refine WQ.run 4 [.int .i64 e.1, .int .i64 e.2] rfl (by exact ⟨(hS.rdS 3 rfl (en2_at hee)).2 0 _ rfl, (hS.rdS 3 rfl (en2_at hee)).2 1 _ rfl⟩) ?_
        refine WQ.nil ?_
        intro m1
        replace hS := hS.drewN m1; generalize hwm1 : World.drewN _ _ = w at *; clear hwm1
        refine WL.call rfl rfl (ar_make (a := a) (A := A2) (key := e.1) (val := e.2) (l := i1) (r := i2) (hA := f6.ref.toAWf) (hK := hM.kd) (hf := (by omega)) (hS := hS)) rfl ?_
        clear hS; rintro _ w ⟨rfl, hS⟩
        replace hS : St g (Arn a (A2.make (A2.nodeOf e.1 e.2 i1 i2)) :: Sh 77 2 (en2 (l.drop (p1 + 1))) a2 (d - (p1 + 1)) :: Sh 77 2 (en2 (l.take p1)) a1 d :: Sh 77 2 (en2 l) u d :: L) w := hS
        refine WL.nil ?_
        refine ⟨by exact trivial, ?_⟩
        refine WQ.r 5 rfl ?_
        refine WQ.nil ?_
        intro m2
        replace hS := hS.drewN m2; generalize hwm2 : World.drewN _ _ = w at *; clear hwm2
        refine WC.seq ?_
        refine WC.region ?_
        refine WL.r 2 rfl ?_
        refine WL.call rfl rfl (tr_rel (a := a) (A := A2.make (A2.nodeOf e.1 e.2 i1 i2)) (R := A2.s.next :: i2 :: R) (i := i1) (hA := hM.p1) (hR := (by simp only [List.length_cons]; omega)) (hS := hS)) rfl ?_
        clear hS; rintro _ w ⟨A3, f9, rfl, hS, f10, f11⟩
        replace hS : St g (Arn a A3 :: Sh 77 2 (en2 (l.drop (p1 + 1))) a2 (d - (p1 + 1)) :: Sh 77 2 (en2 (l.take p1)) a1 d :: Sh 77 2 (en2 l) u d :: L) w := hS
        refine WL.r 5 rfl ?_
        refine WL.nil ?_
        as_aux_lemma =>
          refine WC.seq ?_
          refine WC.region ?_
          refine WL.r 2 rfl ?_
          refine WL.call rfl rfl (tr_rel (a := a) (A := A3) (R := A2.s.next :: R) (i := i2) (hA := f10.p1) (hR := (by simp only [List.length_cons]; omega)) (hS := hS)) rfl ?_
          clear hS; rintro _ w ⟨A4, f12, rfl, hS, f13, f14⟩
          replace hS : St g (Arn a A4 :: Sh 77 2 (en2 (l.drop (p1 + 1))) a2 (d - (p1 + 1)) :: Sh 77 2 (en2 (l.take p1)) a1 d :: Sh 77 2 (en2 l) u d :: L) w := hS
          refine WL.r 5 rfl ?_
          refine WL.nil ?_
          refine WC.seq ?_
          refine WC.region ?_
          refine WL.r 3 rfl ?_
          refine WL.rG 14 rfl (fun j => ?_)
          refine WL.prop 101 rfl (band (band (band (dd _) (dd _)) (dd _)) (dd _)) ?_
          refine WL.nil ?_
          refine WC.ret ?_
          refine ⟨[.int .u32 A2.s.next, .bool (bif (bif (bif (decide (0 = 0)) then (decide (0 = 0)) else false) then (decide (0 = 0)) else false) then (decide (A2.s.next ≠ 0)) else false)], ⟨rfl, rfl⟩, ?_⟩
          replace hS := (hS.sel 3 [0] rfl)
          exact ⟨A4, A2.s.next, .node t1 e.1 e.2 t2, by rw [decide_eq_true (show A2.s.next ≠ 0 by omega)]; rfl, hS, (hM.op f10 f13).after (f3.ch.trans f6.ch sb0 sb1) sb0 (by omega), ⟨by unfold Bal at f2 ⊢; omega, f4, f7⟩, by rw [Tr.ls, f5, f8]; exact hsp⟩
theorem kt_plant_all (nM : Nat) : ∀ (g w : World) (L : List HP) (a : Nat) (A : AM) (R : List Int) (l : Kvs) (u : Option Addr) (d : Nat) (q : Int), (ARf A R) → ((l.length : Int) ≤ A.s.free) → (l.length ≤ 100000) → (R.length + l.length ≤ 800000000) → (0 ≤ q ∧ q < 18446744073709551616) → l.length = nM → St g (Arn a A :: Sh 77 2 (en2 l) u d :: L) w → Sp Tryz.prog 94 [.pointer (some ⟨a, 0, none⟩), .slice u (List.length (en2 l)) d, .int .u64 q] w (fun v w' => ∃ (A2 : AM) (i : Int) (t : Tr), v = .tuple #[.int .u32 i, .bool true] ∧ St g (Arn a A2 :: Sh 77 2 (en2 l) u d :: L) w' ∧ (TOp A A2 R i t l.length) ∧ (t.ok) ∧ (t.ls = l)) := by
  induction nM using Nat.strongRecOn with
  | _ nM ih => intro g w L a A R l u d q hA hf hl hz hq hM hS; exact kt_plant_step nM ih a A R l u d q hA hf hl hz hq hM hS
theorem kt_plant {g w : World} {L : List HP} (a : Nat) (A : AM) (R : List Int) (l : Kvs) (u : Option Addr) (d : Nat) (q : Int) (hA : ARf A R) (hf : (l.length : Int) ≤ A.s.free) (hl : l.length ≤ 100000) (hz : R.length + l.length ≤ 800000000) (hq : 0 ≤ q ∧ q < 18446744073709551616) (hS : St g (Arn a A :: Sh 77 2 (en2 l) u d :: L) w) :
    Sp Tryz.prog 94 [.pointer (some ⟨a, 0, none⟩), .slice u (List.length (en2 l)) d, .int .u64 q] w (fun v w' => ∃ (A2 : AM) (i : Int) (t : Tr), v = .tuple #[.int .u32 i, .bool true] ∧ St g (Arn a A2 :: Sh 77 2 (en2 l) u d :: L) w' ∧ (TOp A A2 R i t l.length) ∧ (t.ok) ∧ (t.ls = l)) := kt_plant_all _ g w L a A R l u d q hA hf hl hz hq rfl hS
end Go.Proofs.YtlnlnebibgdjdaaGreat
/-! ## Li -/
namespace Go.Proofs.YtlnlnebibgdjdaaGreat
open Go Go.V
def lpart (k z : Int) (l : Kvs) (put : Bool) : Kvs := l.filter (fun x => decide (x.1 < k)) ++ (if put then (k, z) :: l.filter (fun x => decide (k < x.1)) else [])
structure LP (k z : Int) (l : Kvs) (j : Nat) (put : Bool) (out : Kvs) : Prop where
  eq : out = lpart k z (l.take j) put
  no : put = false → ∀ x ∈ l.take j, x.1 < k
  yes : put = true → ∃ x ∈ l.take j, k ≤ x.1
theorem LP.zero (k z : Int) (l : Kvs) : LP k z l 0 false [] := ⟨by simp [lpart], fun _ x hx => by simp at hx, fun h => by cases h⟩
theorem take_next {l : Kvs} {j : Nat} {e : Int × Int} (h : l[j]? = some e) : l.take (j + 1) = l.take j ++ [e] := by rw [List.take_add_one, h]; rfl
theorem LP.less {k z : Int} {l : Kvs} {j : Nat} {out : Kvs} {e : Int × Int} (h : LP k z l j false out) (he : l[j]? = some e) (hlt : e.1 < k) : LP k z l (j + 1) false (out ++ [e]) := by
  refine ⟨?_, fun _ x hx => ?_, fun h => by cases h⟩
  · rw [h.eq, take_next he]
    simp [lpart, List.filter_append, hlt]
  · rw [take_next he] at hx
    rcases List.mem_append.1 hx with hx | hx
    · exact h.no rfl x hx
    · rw [List.mem_singleton.1 hx]; exact hlt
theorem LP.gt {k z : Int} {l : Kvs} {j : Nat} {out : Kvs} {e : Int × Int} (h : LP k z l j true out) (hs : Srt l) (he : l[j]? = some e) : k < e.1 := by
  obtain ⟨x, hx, hxk⟩ := h.yes rfl
  obtain ⟨i, hi⟩ := List.mem_iff_getElem?.1 hx
  have hij : i < j := by
    have := (List.getElem?_eq_some_iff.1 hi).1
    rw [List.length_take] at this; omega
  rw [List.getElem?_take, if_pos hij] at hi
  have h1 := (List.getElem?_eq_some_iff.1 hi).1
  have h2 := (List.getElem?_eq_some_iff.1 he).1
  have := List.pairwise_iff_getElem.1 hs i j h1 h2 hij
  rw [(List.getElem?_eq_some_iff.1 hi).2, (List.getElem?_eq_some_iff.1 he).2] at this
  omega
theorem LP.rest {k z : Int} {l : Kvs} {j : Nat} {out : Kvs} {e : Int × Int} (h : LP k z l j true out) (hs : Srt l) (he : l[j]? = some e) : LP k z l (j + 1) true (out ++ [e]) := by
  have hgt := h.gt hs he
  refine ⟨?_, fun h => (by cases h), fun _ => ?_⟩
  · rw [h.eq, take_next he]
    simp [lpart, List.filter_append, hgt, show ¬ e.1 < k by omega]
  · obtain ⟨x, hx, hxk⟩ := h.yes rfl
    exact ⟨x, by rw [take_next he]; exact List.mem_append_left _ hx, hxk⟩
theorem LP.len {k z : Int} {l out : Kvs} {j : Nat} {put : Bool} (h : LP k z l j put out) : out.length ≤ 2 * l.length + 1 := by
  rw [h.eq]
  unfold lpart
  have h1 := List.length_filter_le (fun x : Int × Int => decide (x.1 < k)) (l.take j)
  have h2 := List.length_filter_le (fun x : Int × Int => decide (k < x.1)) (l.take j)
  have h3 : (l.take j).length ≤ l.length := by simp; omega
  rw [List.length_append]
  split <;> simp only [List.length_cons, List.length_nil] <;> omega
end Go.Proofs.YtlnlnebibgdjdaaGreat
/-! ## Vra -/
namespace Go.V
open Go Go.RowKit
structure RN where
  n : Int
  root : Int
  born : Nat
def rK (x : RN) : Value × Value × Nat := (.int .i64 x.n, .int .u32 x.root, x.born)
structure VM where
  T : TM
  xs : List VN
  q : Nat
  last : Int
  rs : List RN
  q2 : Nat
  cap : Int
structure VsA where
  t : Nat
  p : Nat
  m : Nat
  m2 : Nat
def TM.vl (T : TM) (i : Int) : Int := (T.vals[i.toNat]?).getD 0
structure VI (V : VM) (A : AM) (R : List Int) : Prop where
  t : TOk V.T
  g : GI V.xs V.q V.cap V.last
  k : KOk rK RN.n V.rs V.q2
  pre : ∀ z, (∃ r ∈ V.rs, r.n = z) ↔ preG V.xs z = true
  lv : ∀ i : Int, 0 ≤ i → V.T.s.ok i = true → liveG V.xs (V.T.vl i) = true
  inj : ∀ i j : Int, 0 ≤ i → 0 ≤ j → V.T.s.ok i = true → V.T.s.ok j = true → V.T.vl i = V.T.vl j → i = j
  all : ∀ z, liveG V.xs z = true → ∃ i : Int, 0 ≤ i ∧ V.T.s.ok i = true ∧ V.T.vl i = z
  ref : ARf A (V.rs.map RN.root ++ R)
  cp : V.T.s.cap = V.cap
def VM.new (cap : Nat) : VM := ⟨TM.new cap, [], 0, 0, [], 0, cap⟩
theorem SM.new_live (cap : Nat) (i : Int) : (SM.new cap).ok i = false := by
  unfold SM.ok SM.new
  simp only
  cases hx : (List.replicate (cap + 1) false)[i.toNat]? with
  | none => rfl
  | some b => rw [List.eq_of_mem_replicate (List.mem_of_getElem? hx)]; rfl
theorem AM.new_rf {cap : Nat} (h : 1 ≤ cap ∧ cap ≤ 65536) : ARf (AM.new cap) [] := by
  have hno := SM.new_live cap
  refine ⟨AM.new_wf h, fun i hi => ?_, fun i hi => ?_, fun i hi => ?_, fun _ hr => (by cases hr), fun i hi => ?_, fun i _ _ => ?_, by simp⟩
  · have := hno i; rw [show (AM.new cap).s = SM.new cap from rfl, this] at hi; cases hi
  · have := hno i; rw [show (AM.new cap).s = SM.new cap from rfl, this] at hi; cases hi
  · have := hno i; rw [show (AM.new cap).s = SM.new cap from rfl, this] at hi; cases hi
  · have := hno i; rw [show (AM.new cap).s = SM.new cap from rfl, this] at hi; cases hi
  · unfold AM.nd AM.new
    simp only
    cases hx : (List.replicate (cap + 1) Nd.zero)[i.toNat]? with
    | none => rfl
    | some b => rw [List.eq_of_mem_replicate (List.mem_of_getElem? hx)]; rfl
theorem VI.new {slots cap : Nat} (h1 : 1 ≤ slots ∧ slots ≤ 65536) (h2 : 1 ≤ cap ∧ cap ≤ 4096) : VI (VM.new cap) (AM.new slots) [] := by
  have hno := SM.new_live cap
  refine ⟨TM.new_ok (by omega), ⟨GOk.nil, fun _ h => (by cases h), Int.le_refl _, by show 1 ≤ (cap : Int) ∧ (cap : Int) ≤ 4096; omega⟩, KOk.nil, fun z => ?_, fun i _ hi => ?_, fun i j _ _ hi => ?_, fun z hz => (by cases hz), AM.new_rf h1, ?_⟩
  · exact ⟨fun ⟨_, h, _⟩ => (by cases h), fun h => (by cases h)⟩
  · rw [show (VM.new cap).T.s = SM.new cap from rfl, hno i] at hi; cases hi
  · rw [show (VM.new cap).T.s = SM.new cap from rfl, hno i] at hi; cases hi
  · show (((List.replicate (cap + 1) false).length : Nat) : Int) - 1 = cap
    simp
def VM.rootOf (V : VM) (z : Int) : Int := ((V.rs.find? fun r => decide (r.n = z)).map RN.root).getD 0
theorem VM.rootOf_at {V : VM} (hu : V.rs.Pairwise fun x y => RN.n x ≠ RN.n y) {k : Nat} {r : RN} (hr : V.rs[k]? = some r) : V.rootOf r.n = r.root := by
  unfold VM.rootOf
  have : V.rs.find? (fun x => decide (x.n = r.n)) = some r := by
    cases hf : V.rs.find? (fun x => decide (x.n = r.n)) with
    | none => exact absurd (decide_eq_true rfl) (List.find?_eq_none.1 hf r (List.mem_of_getElem? hr))
    | some y =>
      have hn : y.n = r.n := of_decide_eq_true (List.find?_some (p := fun q : RN => decide (q.n = r.n)) hf)
      obtain ⟨j, hj⟩ := List.mem_iff_getElem?.1 (List.mem_of_find?_eq_some hf)
      have h1 := (List.getElem?_eq_some_iff.1 hj).1
      have h2 := (List.getElem?_eq_some_iff.1 hr).1
      have e1 : V.rs[j] = y := (List.getElem?_eq_some_iff.1 hj).2
      have e2 : V.rs[k] = r := (List.getElem?_eq_some_iff.1 hr).2
      rcases Nat.lt_trichotomy j k with hl | hl | hl
      · exact absurd (by rw [e1, e2]; exact hn) (List.pairwise_iff_getElem.1 hu j k h1 h2 hl)
      · subst hl; rw [hj] at hr; exact hr
      · exact absurd (by rw [e1, e2]; exact hn.symm) (List.pairwise_iff_getElem.1 hu k j h2 h1 hl)
  rw [this]; rfl
end Go.V
namespace Go.V
open Go Go.RowKit
theorem TM.open_vl {T : TM} (h : TOk T) (hf : 0 < T.s.free) (v : Int) {i : Int} (hi : 0 ≤ i) : (T.open v).vl i = if i = T.s.next then v else T.vl i := by
  have hn := SM.next_rng h.s hf
  unfold TM.vl TM.open
  simp only
  rw [List.getElem?_set]
  by_cases e : i = T.s.next
  · subst e; rw [if_pos rfl, if_pos (by rw [h.vl]; exact hn.2.2.1), if_pos rfl]; rfl
  · rw [if_neg (by omega), if_neg e]
theorem TM.open_ok {T : TM} (h : TOk T) (hf : 0 < T.s.free) (v : Int) {i : Int} (hi : 0 ≤ i) : (T.open v).s.ok i = if i = T.s.next then true else T.s.ok i := SM.alloc_ok' h.s hf hi
theorem rs_len {V : VM} {A : AM} {R : List Int} (h : VI V A R) : V.rs.length ≤ V.xs.length := by
  have h1 := nd_le (l := V.rs.map RN.n) (m := V.xs.map VN.n) (List.pairwise_map.2 h.k.uniq) (fun z hz => by
    obtain ⟨r, hr, e⟩ := List.mem_map.1 hz
    obtain ⟨x, hx, e2⟩ := pre_iff.1 ((h.pre z).1 ⟨r, hr, e⟩)
    exact List.mem_map.2 ⟨x, hx, e2⟩)
  simpa using h1
def VM.add (V : VM) (xs2 : List VN) (q : Nat) (root : Int) : VM := ⟨V.T.open (V.last + 1), xs2, q, V.last + 1, V.rs ++ [⟨V.last + 1, root, V.q2⟩], V.q2 + 1, V.cap⟩
theorem VI.add {V : VM} {A : AM} {R : List Int} (h : VI V A R) {root : Int} (hr : root = 0 ∨ (1 ≤ root ∧ A.s.ok root = true)) {ps : List Int} {xs2 : List VN} {q : Nat} (h0 : addE V.xs V.cap ps = 0) (hA : AddP V.xs V.cap V.last ps xs2 (V.last + 1))
    (hG : GI xs2 q V.cap (V.last + 1)) (hf : 0 < V.T.s.free) (hla : V.last < 1000000000) (hlen : R.length ≤ 900000000) : VI (V.add xs2 q root) (A.ret root) R := by
  have hla0 := h.g.la
  have hle := rs_len h
  have hnum := hG.ok.num
  obtain ⟨_, _, hn, hlv, hpr, hxl⟩ := (AddP.facts h.g.le hA).resolve_left fun e => e.1 h0
  have hlast : ∀ z, preG V.xs z = true → z ≤ V.last := fun z hz => by
    obtain ⟨x, hx, e⟩ := pre_iff.1 hz
    have := h.g.le x hx; omega
  have hnx := SM.next_rng h.t.s hf
  have hlvl : ∀ i : Int, 0 ≤ i → V.T.s.ok i = true → V.T.vl i ≤ V.last := fun i h0 hi => hlast _ (live_pre (h.lv i h0 hi))
  refine ⟨h.t.open hf (by omega), hG, h.k.snoc rfl (fun y hy e => ?_) rfl (by show _ ≤ V.last + 1 ∧ V.last + 1 ≤ _; omega) (by omega), fun z => ?_, fun i hi ho => ?_, fun i j hi hj ho ho2 e => ?_, fun z hz => ?_, ?_, ?_⟩
  · have := hlast _ ((h.pre y.n).1 ⟨y, hy, rfl⟩)
    have e2 : y.n = V.last + 1 := e
    omega
  · show (∃ r ∈ V.rs ++ [_], r.n = z) ↔ preG xs2 z = true
    rw [hpr z, Bool.or_eq_true, ← h.pre z]
    constructor
    · rintro ⟨r, hr2, e⟩
      rcases List.mem_append.1 hr2 with hr2 | hr2
      · exact .inl ⟨r, hr2, e⟩
      · rw [List.mem_singleton.1 hr2] at e
        exact .inr (decide_eq_true e.symm)
    · rintro (⟨r, hr2, e⟩ | e)
      · exact ⟨r, List.mem_append_left _ hr2, e⟩
      · exact ⟨_, List.mem_append_right _ (List.mem_singleton.2 rfl), (of_decide_eq_true e).symm⟩
  · show liveG xs2 ((V.T.open (V.last + 1)).vl i) = true
    rw [TM.open_vl h.t hf _ hi, hlv]
    rw [show (V.add xs2 q root).T.s.ok i = _ from TM.open_ok h.t hf _ hi] at ho
    by_cases e : i = V.T.s.next
    · rw [if_pos e]; simp
    · rw [if_neg e] at ho ⊢
      rw [h.lv i hi ho, Bool.true_or]
  · rw [show (V.add xs2 q root).T.s.ok i = _ from TM.open_ok h.t hf _ hi] at ho
    rw [show (V.add xs2 q root).T.s.ok j = _ from TM.open_ok h.t hf _ hj] at ho2
    rw [show (V.add xs2 q root).T.vl i = _ from TM.open_vl h.t hf _ hi, show (V.add xs2 q root).T.vl j = _ from TM.open_vl h.t hf _ hj] at e
    by_cases e1 : i = V.T.s.next
    · by_cases e2 : j = V.T.s.next
      · rw [e1, e2]
      · rw [if_neg e2] at ho2
        rw [if_pos e1, if_neg e2] at e
        have := hlvl j hj ho2; omega
    · rw [if_neg e1] at ho
      by_cases e2 : j = V.T.s.next
      · rw [if_neg e1, if_pos e2] at e
        have := hlvl i hi ho; omega
      · rw [if_neg e2] at ho2
        rw [if_neg e1, if_neg e2] at e
        exact h.inj i j hi hj ho ho2 e
  · have hz2 : (liveG V.xs z || decide (z = V.last + 1)) = true := by rw [← hlv z]; exact hz
    rcases Bool.or_eq_true_iff.1 hz2 with hz2 | hz2
    · obtain ⟨i, h1, h2, h3⟩ := h.all z hz2
      have hne : i ≠ V.T.s.next := fun e => by rw [e, hnx.2.2.2] at h2; cases h2
      exact ⟨i, h1, by rw [show (V.add xs2 q root).T.s.ok i = _ from TM.open_ok h.t hf _ h1, if_neg hne]; exact h2, by rw [show (V.add xs2 q root).T.vl i = _ from TM.open_vl h.t hf _ h1, if_neg hne]; exact h3⟩
    · have h1 : 0 ≤ V.T.s.next := by omega
      exact ⟨V.T.s.next, h1, by rw [show (V.add xs2 q root).T.s.ok _ = _ from TM.open_ok h.t hf _ h1, if_pos rfl], by rw [show (V.add xs2 q root).T.vl _ = _ from TM.open_vl h.t hf _ h1, if_pos rfl]; exact (of_decide_eq_true hz2).symm⟩
  · have h1 := (AM.ret_eq h.ref hr (by rw [List.length_append, List.length_map]; omega)).1
    refine h1.perm ?_
    show (root :: (V.rs.map RN.root ++ R)).Perm ((V.rs ++ [(⟨V.last + 1, root, V.q2⟩ : RN)]).map RN.root ++ R)
    rw [List.map_append]
    simpa using (List.perm_middle (a := root) (l₁ := V.rs.map RN.root) (l₂ := R)).symm
  · show (V.T.s.alloc).cap = V.cap
    rw [← h.cp]
    unfold SM.cap SM.alloc; simp
end Go.V
namespace Go.V
open Go Go.RowKit
theorem len_single {xs : List VN} {m : Int} (hu : VUq xs) (h : ∀ z, preG xs z = true ↔ z = m) : xs.length = 1 := by
  match xs, hu, h with
  | [], _, h => exact absurd ((h m).2 rfl) (by simp [preG, vfind])
  | [_], _, _ => rfl
  | x :: y :: t, hu, h =>
    have h1 := (h x.n).1 (pre_iff.2 ⟨x, by simp, rfl⟩)
    have h2 := (h y.n).1 (pre_iff.2 ⟨y, by simp, rfl⟩)
    have := (List.pairwise_cons.1 hu).1 y (by simp)
    rw [h1, h2] at this; exact absurd rfl this
structure FvS (V : VM) (A : AM) (hd root : Int) (t : Tr) : Prop where
  vi : VI V A []
  opn : V.T.s.opn hd = true
  rng : 0 ≤ hd ∧ hd ≤ 18446744073709551615
  val : V.T.val hd = V.last
  pre : ∀ z, preG V.xs z = true ↔ z = V.last
  free : V.T.s.free = 49
  cap : V.cap = 50
  rs : ∃ b, V.rs = [⟨V.last, root, b⟩]
  is : Is A t root
  ok : t.ok
  srt : Srt t.ls
  acap : A.s.used.length = 601
theorem FvS.len {V : VM} {A : AM} {hd root : Int} {t : Tr} (h : FvS V A hd root t) : V.xs.length = 1 := len_single h.vi.g.ok.uniq h.pre
theorem FvS.root {V : VM} {A : AM} {hd root : Int} {t : Tr} (h : FvS V A hd root t) : V.rootOf (V.T.val hd) = root := by
  obtain ⟨b, hb⟩ := h.rs
  rw [h.val]
  exact VM.rootOf_at (V := V) h.vi.k.uniq (k := 0) (r := ⟨V.last, root, b⟩) (by rw [hb]; rfl)
theorem FvS.ref {V : VM} {A : AM} {hd root : Int} {t : Tr} (h : FvS V A hd root t) : ARf A [root] := by
  obtain ⟨b, hb⟩ := h.rs
  have := h.vi.ref
  rw [hb] at this; exact this
theorem FvS.used {V : VM} {A : AM} {hd root : Int} {t : Tr} (h : FvS V A hd root t) : A.s.cap = 600 ∧ A.s.cap - A.s.free = t.n := by
  have h1 := one_tree h.ref h.is h.srt
  have h2 : A.s.cap = (A.s.used.length : Int) - 1 := rfl
  have h3 := h.acap
  omega
end Go.V
/-! ## K2 -/
namespace Go.Proofs.YtlnlnebibgdjdaaGreat
open Go Go.V
set_option maxRecDepth 8192 in
theorem kt_grow {g w : World} {L : List HP} (l : Kvs) (u : Option Addr) (d : Nat) (q sp : Int) (hl : l.length ≤ 1000) (hs : 0 ≤ sp ∧ 1 ≤ l.length + sp ∧ sp ≤ 60000) (hq : 0 ≤ q ∧ q < 18446744073709551616) (hS : St g (Sh 77 2 (en2 l) u d :: L) w) :
    Sp Tryz.prog 41 [.slice u (List.length (en2 l)) d, .int .u64 q, .int .i64 sp] w (fun v w' => ∃ (a : Nat) (A : AM) (i : Int) (t : Tr), v = .tuple #[.pointer (some ⟨a, 0, none⟩), .int .u32 i, .bool true] ∧ St g (Arn a A :: Sh 77 2 (en2 l) u d :: L) w' ∧ (ARf A [i]) ∧ (Is A t i) ∧ (t.ok) ∧ (t.ls = l) ∧ (sp ≤ A.s.free)) := by
  refine Sp.enter Tryz.func41 rfl (by kernel_rfl) (by kernel_rfl) ?_
  have _ := hs
  have _ := hl
  refine WC.seq ?_
  refine WC.region ?_
  refine WL.r 3 rfl ?_
  refine WL.nil ?_
  refine WC.seq ?_
  refine WC.region ?_
  have hll := en2_len l; have hcp : 1 ≤ ((l.length : Int) + sp).toNat ∧ ((l.length : Int) + sp).toNat ≤ 65536 := (by omega); have hrf := AM.new_rf hcp; have hfr : (AM.new ((l.length : Int) + sp).toNat).s.free = (((l.length : Int) + sp).toNat : Int) := SM.new_free ((l.length : Int) + sp).toNat
  refine WL.r 4 rfl ?_
  refine WL.reb 17 (.int .i64 ((List.length l : Int) + sp)) (congrArg (Value.int .i64) (by rw [hll, w64 (by omega)])) ?_
  refine WL.call rfl rfl (ar_new_ok (cap := (List.length l : Int) + sp) (hc := (by omega)) (hS := hS)) rfl ?_
  clear hS; rintro _ w ⟨a1, rfl, hS⟩
  replace hS : St g (Arn a1 (AM.new ((List.length l : Int) + sp).toNat) :: Sh 77 2 (en2 l) u d :: L) w := hS
  refine WL.r 5 rfl ?_
  refine WL.nil ?_
  refine WC.seq ?_
  refine WC.seq ?_
  refine WC.region ?_
  refine WL.r 2 rfl ?_
  refine WL.rG 4 rfl (fun j => ?_)
  refine WL.nil ?_
  refine WC.ifF rfl (by simp) ?_
  refine WC.skip ?_
  refine WC.seq ?_
  refine WC.region ?_
  refine WL.r 3 rfl ?_
  refine WL.call rfl rfl (kt_plant (a := a1) (A := AM.new ((List.length l : Int) + sp).toNat) (R := []) (l := l) (u := u) (d := d) (q := q) (hA := hrf) (hf := (by omega)) (hl := (by omega)) (hz := (by simp; omega)) (hq := hq) (hS := hS)) rfl ?_
  clear hS; rintro _ w ⟨A1, i1, t1, rfl, hS, f1, f2, f3⟩
  replace hS : St g (Arn a1 A1 :: Sh 77 2 (en2 l) u d :: L) w := hS
  refine WL.r 5 rfl ?_
  refine WL.nil ?_
  as_aux_lemma =>
    refine WC.seq ?_
    refine WC.region ?_
    refine WL.r 6 rfl ?_
    refine WL.nil ?_
    refine WC.ret ?_
    refine ⟨[.pointer (some ⟨a1, 0, none⟩), .int .u32 i1, .bool true], ⟨rfl, rfl, rfl⟩, ?_⟩
    exact ⟨_, _, _, _, rfl, hS, f1.ref, f1.is, f2, f3, by have h := f1.fr; omega⟩
end Go.Proofs.YtlnlnebibgdjdaaGreat
/-! ## Tx6 -/
namespace Go.Proofs.YtlnlnebibgdjdaaGreat
open Go Go.V Go.RowKit Go.Maps
theorem work_one (t : Tr) (x : Int × Bool × Int) : wWork t [x] = if wNeed t x then [x] else [] := by
  unfold wWork; rw [List.filter_cons]; rfl
theorem put_cost {A : AM} {R : List Int} {t : Tr} {k v : Int} (hok : t.ok) (hn : t.n ≤ 60000) (hf : (t.n : Int) + 1 + 4 * ((Tr.mxH (t.n + 1) : Int) + 2) ≤ A.s.free) (j : Nat) (e : Int × Bool × Int) (B : AM) (o : Int) (he : (wWork t [(k, true, v)])[j]? = some e) (hT : TOp A B R o (wAll ((wWork t [(k, true, v)]).take j) t) (wSum ((wWork t [(k, true, v)]).take j) t)) : (wCost (wAll ((wWork t [(k, true, v)]).take j) t) e : Int) ≤ B.s.free := by
  rw [work_one] at he hT ⊢
  split at he
  · rename_i hnd
    rw [if_pos hnd] at hT ⊢
    cases j with
    | zero =>
      obtain rfl := Option.some.inj he
      have h1 : wCost t (k, true, v) = Tr.ic k v t := rfl
      have h2 : TOp A B R o t 0 := hT
      have h3 := Tr.ic_res k v t hok (by omega)
      have h4 := h2.fr
      show (wCost t (k, true, v) : Int) ≤ _
      rw [h1]; omega
    | succ j => cases he
  · cases he
theorem put_all {t : Tr} {k v : Int} (hok : t.ok) : wAll (wWork t [(k, true, v)]) t = Tr.ins k v t := by
  rw [work_one]
  split
  · rfl
  · rename_i h
    show t = _
    have h1 : (Tr.get k t).isSome = true ∧ (Tr.get k t).getD 0 = v := by
      unfold wNeed at h
      cases hg : Tr.get k t with
      | none => rw [hg] at h; exact absurd rfl h
      | some y => rw [hg] at h; simpa using h
    exact (Tr.ins_same k v t hok (get_of h1.1 h1.2)).symm
theorem wput_nil {k v : Int} {p : Bool} : wNew k (p, v) [] = [(k, p, v)] := by
  rw [wNew_f (fun h => by have := h.2; simp at this)]; rfl
theorem gSp_nil (k : Int) : gSp k [] [] = [(k, k)] := rfl
theorem vGet_nil (k : Int) (t : Tr) : vGet k [] t = ((Tr.get k t).getD 0, (Tr.get k t).isSome) := rfl
set_option maxRecDepth 8192 in
theorem awake26_spec {g w : World} {L : List HP} (hS : St g (L) w) :
    Sp Tryz.prog 42 [] w (fun v w' => v = .bool true ∧ St g (L) w') := by
  refine Sp.enter Tryz.func42 rfl (by kernel_rfl) (by kernel_rfl) ?_
  refine WC.seq ?_
  refine WC.region ?_
  refine WL.r 1 rfl ?_
  refine WL.nil ?_
  refine WC.seq ?_
  refine WC.region ?_
  refine WL.build rfl rfl (cs := [.int .i64 1, .int .i64 10]) zv_77 rfl rfl ?_
  refine WL.lit rfl rfl (en2 [(1, 10)]) el_49 hS (by exact ⟨rfl, rfl⟩) (en2_ok _) rfl (by decide) (fun b1 w hS => ?_)
  replace hS := (hS.at_ 0 rfl).share
  replace hS : St g (Sh 77 2 (en2 [(1, 10)]) (some ⟨b1, 0, none⟩) (List.length (en2 [(1, 10)])) :: L) w := hS
  refine WL.call rfl rfl (kt_grow (l := [(1, 10)]) (u := some ⟨b1, 0, none⟩) (d := List.length (en2 [(1, 10)])) (q := 0) (sp := 200) (hl := (by simp)) (hs := (by simp)) (hq := (by omega)) (hS := hS)) rfl ?_
  clear hS; rintro _ w ⟨a1, A1, i1, t1, rfl, hS, f1, f2, f3, f4, f5⟩
  replace hS : St g (Arn a1 A1 :: Sh 77 2 (en2 [(1, 10)]) (some ⟨b1, 0, none⟩) (List.length (en2 [(1, 10)])) :: L) w := hS
  refine WL.r 7 rfl ?_
  refine WL.nil ?_
  refine WC.seq ?_
  refine WC.seq ?_
  refine WC.region ?_
  refine WL.r 2 rfl ?_
  refine WL.nil ?_
  refine WC.ifF rfl rfl ?_
  refine WC.skip ?_
  refine WC.seq ?_
  refine WC.region ?_
  refine WL.r 2 rfl ?_
  refine WL.call rfl rfl (tx_begin (a := a1) (A := A1) (R := [i1]) (i := i1) (hA := f1) (hi := f2.ref) (hz := (by simp)) (hS := hS)) rfl ?_
  clear hS; rintro _ w ⟨x1, rfl, hS, f6⟩
  replace hS : St g (Tx x1 a1 i1 [] 0 [] :: Arn a1 (A1.ret i1) :: Sh 77 2 (en2 [(1, 10)]) (some ⟨b1, 0, none⟩) (List.length (en2 [(1, 10)])) :: L) w := hS
  refine WL.r 5 rfl ?_
  refine WL.nil ?_
  as_aux_lemma =>
    refine WC.seq ?_
    refine WC.region ?_
    refine WL.r 2 rfl ?_
    refine WL.call rfl rfl (tx_begin (a := a1) (A := A1.ret i1) (R := [i1, i1]) (i := i1) (hA := f6) (hi := (f2.ret i1).ref) (hz := (by simp)) (hS := (hS.sel 2 [1, 0] rfl))) rfl ?_
    clear hS; rintro _ w ⟨x2, rfl, hS, f7⟩
    replace hS : St g (Tx x2 a1 i1 [] 0 [] :: Arn a1 ((A1.ret i1).ret i1) :: Tx x1 a1 i1 [] 0 [] :: Sh 77 2 (en2 [(1, 10)]) (some ⟨b1, 0, none⟩) (List.length (en2 [(1, 10)])) :: L) w := hS
    refine WL.r 5 rfl ?_
    refine WL.nil ?_
    refine WC.seq ?_
    refine WC.seq ?_
    refine WC.region ?_
    refine WL.r 2 rfl ?_
    refine WL.rG 12 rfl (fun j => ?_)
    refine WL.nil ?_
    refine WC.ifF rfl (by rfl) ?_
    refine WC.skip ?_
    refine WC.seq ?_
    refine WC.region ?_
    have hn1 : t1.n = 1 := (by rw [← Tr.ls_len, f4]; rfl); have hs1 : Srt t1.ls := (by rw [f4]; exact List.pairwise_singleton _ _); have hg1 : Tr.get 1 t1 = some 10 := (by rw [Tr.get_ls 1 t1 hs1, f4]; rfl); have h2 := (f2.ret i1).ret i1; have hfr : ((A1.ret i1).ret i1).s.free = A1.s.free := (by rw [(AM.ret_same _ _).1, (AM.ret_same _ _).1]); have hm2 : Tr.mxH (1 + 1) ≤ 10 := (by decide); have hv : vGet 1 [] t1 = (10, true) := (by rw [vGet_nil, hg1]; rfl)
    refine WL.r 1 rfl ?_
    refine WL.call rfl rfl (tx_get (x := x1) (a := a1) (rt := i1) (xs := []) (q := 0) (S := []) (M := []) (A := (A1.ret i1).ret i1) (R := [i1, i1, i1]) (k := 1) (t := t1) (hW := WOk.nil) (hA := f7) (hi := h2) (hk := (by unfold i64R; omega)) (hR := (fun _ h => by cases h)) (hSl := (by simp)) (hS := (hS.sel 3 [2, 1, 0] rfl))) rfl ?_
    clear hS; rintro _ w ⟨rfl, hS⟩
    replace hS : St g (Tx x1 a1 i1 [] 0 (gSp 1 [] []) :: Arn a1 ((A1.ret i1).ret i1) :: Tx x2 a1 i1 [] 0 [] :: Sh 77 2 (en2 [(1, 10)]) (some ⟨b1, 0, none⟩) (List.length (en2 [(1, 10)])) :: L) w := hS
    refine WL.r 7 rfl ?_
    refine WL.nil ?_
    as_aux_lemma =>
      refine WC.seq ?_
      refine WC.region ?_
      refine WL.reb 8 (.int .i64 10) (congrArg (fun z : Int × Bool => Value.int .i64 z.1) hv) ?_
      refine WL.reb 9 (.bool true) (congrArg (fun z : Int × Bool => Value.bool z.2) hv) ?_
      refine WL.r 1 rfl ?_
      refine WL.call rfl rfl (tx_get (x := x2) (a := a1) (rt := i1) (xs := []) (q := 0) (S := []) (M := []) (A := (A1.ret i1).ret i1) (R := [i1, i1, i1]) (k := 1) (t := t1) (hW := WOk.nil) (hA := f7) (hi := h2) (hk := (by unfold i64R; omega)) (hR := (fun _ h => by cases h)) (hSl := (by simp)) (hS := (hS.sel 3 [2, 1, 0] rfl))) rfl ?_
      clear hS; rintro _ w ⟨rfl, hS⟩
      replace hS : St g (Tx x2 a1 i1 [] 0 (gSp 1 [] []) :: Arn a1 ((A1.ret i1).ret i1) :: Tx x1 a1 i1 [] 0 (gSp 1 [] []) :: Sh 77 2 (en2 [(1, 10)]) (some ⟨b1, 0, none⟩) (List.length (en2 [(1, 10)])) :: L) w := hS
      refine WL.nil ?_
      refine WC.seq ?_
      refine WC.region ?_
      refine WL.r 3 rfl ?_
      refine WL.reb 62 (.int .i64 11) (congrArg (Value.int .i64) (by decide)) ?_
      refine WL.call rfl rfl (tx_put (x := x1) (a := a1) (rt := i1) (xs := []) (q := 0) (S := gSp 1 [] []) (M := []) (k := 1) (z := 11) (hW := WOk.nil) (hr := (by unfold i64R; omega)) (hS := (hS.sel 3 [2, 0, 0] rfl))) rfl ?_
      clear hS; rintro _ w ⟨xs1, q1, rfl, hS, f8⟩
      replace hS : St g (Tx x1 a1 i1 xs1 q1 (gSp 1 [] []) :: Tx x2 a1 i1 [] 0 (gSp 1 [] []) :: Arn a1 ((A1.ret i1).ret i1) :: Sh 77 2 (en2 [(1, 10)]) (some ⟨b1, 0, none⟩) (List.length (en2 [(1, 10)])) :: L) w := hS
      refine WL.nil ?_
      refine WC.seq ?_
      refine WC.region ?_
      refine WL.r 3 rfl ?_
      refine WL.reb 66 (.int .i64 12) (congrArg (Value.int .i64) (by decide)) ?_
      refine WL.call rfl rfl (tx_put (x := x2) (a := a1) (rt := i1) (xs := []) (q := 0) (S := gSp 1 [] []) (M := []) (k := 1) (z := 12) (hW := WOk.nil) (hr := (by unfold i64R; omega)) (hS := (hS.sel 2 [1, 0] rfl))) rfl ?_
      clear hS; rintro _ w ⟨xs2, q2, rfl, hS, f9⟩
      replace hS : St g (Tx x2 a1 i1 xs2 q2 (gSp 1 [] []) :: Tx x1 a1 i1 xs1 q1 (gSp 1 [] []) :: Arn a1 ((A1.ret i1).ret i1) :: Sh 77 2 (en2 [(1, 10)]) (some ⟨b1, 0, none⟩) (List.length (en2 [(1, 10)])) :: L) w := hS
      refine WL.nil ?_
      as_aux_lemma =>
        refine WC.seq ?_
        refine WC.region ?_
        rw [wput_nil] at f8 f9
        refine WL.r 2 rfl ?_
        refine WL.call rfl rfl (tx_commit (x := x1) (a := a1) (rt := i1) (xs := xs1) (q := q1) (S := gSp 1 [] []) (M := [(1, true, 11)]) (A := (A1.ret i1).ret i1) (R := [i1, i1]) (hd := i1) (ts := t1) (th := t1) (hW := f8) (hA := f7) (hts := h2) (hth := h2) (hss := hs1) (hsh := hs1) (hn := (by omega)) (hSl := (by rw [gSp_nil]; simp)) (hR := (by simp)) (hno := (fun s _ => by rw [dif_self]; rfl)) (hrm := (.inr (by rw [hfr, hn1]; simp only [List.length_singleton]; omega))) (hcs := (put_cost f3 (by omega) (by rw [hfr, hn1]; omega))) (hS := (hS.sel 3 [1, 1, 0] rfl))) rfl ?_
        clear hS; rintro _ w ⟨A2, i2, xm1, xu1, xc1, rfl, hS, f10⟩
        replace hS : St g (cel x1 #[.pointer (some ⟨a1, 0, none⟩), .int .u32 i1, .bool true, .map (some xm1), .slice xu1 (List.length (en2 (gSp 1 [] []))) xc1] 202 :: Arn a1 A2 :: Tx x2 a1 i1 xs2 q2 (gSp 1 [] []) :: Sh 77 2 (en2 [(1, 10)]) (some ⟨b1, 0, none⟩) (List.length (en2 [(1, 10)])) :: L) w := hS
        refine WL.r 5 rfl ?_
        refine WL.nil ?_
        refine WC.seq ?_
        refine WC.region ?_
        rw [put_all f3] at f10; have hls : (Tr.ins 1 11 t1).ls = [(1, 11)] := (by rw [Tr.ins_ls _ _ _ hs1, f4]; rfl); have hs2 : Srt (Tr.ins 1 11 t1).ls := (by rw [hls]; exact List.pairwise_singleton _ _); have hg2 : Tr.get 1 (Tr.ins 1 11 t1) = some 11 := (by rw [Tr.get_ls 1 _ hs2, hls]; rfl); have hn2 : (Tr.ins 1 11 t1).n = 1 := (by rw [← Tr.ls_len, hls]; rfl)
        refine WL.r 2 rfl ?_
        refine WL.call rfl rfl (tx_conflict (x := x2) (a := a1) (rt := i1) (xs := xs2) (q := q2) (S := gSp 1 [] []) (A := A2) (R := [i2, i1, i1]) (hd := i2) (ts := t1) (th := Tr.ins 1 11 t1) (hA := f10.ref) (hts := (f10.kp i1 (by simp) t1 h2)) (hth := f10.is) (hss := hs1) (hsh := hs2) (hn := (by omega)) (hSl := (by rw [gSp_nil]; simp)) (hcf := (fun h => by have h9 := h (1, 1) (by rw [gSp_nil]; simp); rw [f4, hls] at h9; simp [dif, inR] at h9)) (hS := (hS.sel 3 [2, 1, 0] rfl))) rfl ?_
        clear hS; rintro _ w ⟨rfl, hS⟩
        replace hS : St g (Tx x2 a1 i1 xs2 q2 (gSp 1 [] []) :: Arn a1 A2 :: cel x1 #[.pointer (some ⟨a1, 0, none⟩), .int .u32 i1, .bool true, .map (some xm1), .slice xu1 (List.length (en2 (gSp 1 [] []))) xc1] 202 :: Sh 77 2 (en2 [(1, 10)]) (some ⟨b1, 0, none⟩) (List.length (en2 [(1, 10)])) :: L) w := hS
        refine WL.r 5 rfl ?_
        refine WL.nil ?_
        refine WC.seq ?_
        refine WC.region ?_
        refine WL.r 2 rfl ?_
        refine WL.call rfl rfl (lk_get (a := a1) (A := A2) (R := [i2, i1, i1]) (i := i2) (k := 1) (t := Tr.ins 1 11 t1) (hA := f10.ref) (hi := f10.is) (hS := (hS.sel 2 [1, 0] rfl))) rfl ?_
        clear hS; rintro _ w ⟨rfl, hS⟩
        replace hS : St g (Arn a1 A2 :: Tx x2 a1 i1 xs2 q2 (gSp 1 [] []) :: cel x1 #[.pointer (some ⟨a1, 0, none⟩), .int .u32 i1, .bool true, .map (some xm1), .slice xu1 (List.length (en2 (gSp 1 [] []))) xc1] 202 :: Sh 77 2 (en2 [(1, 10)]) (some ⟨b1, 0, none⟩) (List.length (en2 [(1, 10)])) :: L) w := hS
        refine WL.r 5 rfl ?_
        refine WL.nil ?_
        as_aux_lemma =>
          refine WC.seq ?_
          refine WC.region ?_
          refine WL.r 2 rfl ?_
          refine WL.ung rfl rfl rfl ?_
          refine WL.r 1 rfl ?_
          refine WL.ung rfl rfl rfl ?_
          refine WL.r 2 rfl ?_
          refine WL.rG 13 rfl (fun j => ?_)
          refine WL.prop 102 rfl (band (band (band (dd _) (dd _)) (dd _)) (dd _)) ?_
          refine WL.nil ?_
          refine WC.ret ?_
          refine ⟨[.bool (bif (bif (bif (decide (10 = 10)) then (decide (0 = 0)) else false) then (decide (((Tr.get 1 (Tr.ins 1 11 t1)).getD 0) = 11)) else false) then (decide (10 = 10)) else false)], rfl, ?_⟩
          replace hS := (hS.sel 4 [] rfl)
          exact ⟨by rw [hg2]; rfl, hS⟩
end Go.Proofs.YtlnlnebibgdjdaaGreat
/-! ## Mr -/
namespace Go.V
open Go Go.RowKit
section
variable {P : Program} {T : Tab} [hT : TabOk P T] {n : Nat} {os l : List Oper} {K : Kt} {F : Fm} {w g : World} {L : List HP} {t kt et : TypeId} {d : TypeDesc} {z : Value} {b b2 c c2 : Nat} {es : Array MapEntry}
theorem WL.rgM {o : Oper} {x : Operand} (hg : o.guard = none) (ho : o.op = .range t x) (hM : MapT P t kt d et z) (i : Nat) (hS : St g L w) (hi : L[i]? = some (blk b (.map es c))) (hx : ev F x = .map (some b))
    (hk : ∀ b' w', St g (blk b' (.mapIter (some b) c #[] c) :: L) w' → WL P n os l K (updo F o.dst (.pointer (some ⟨b', 0, none⟩))) w') : WL P n os (o :: l) K F w := by
  refine WL.val hg (fun hok => ?_) (hk w.heap.size (w.alloc (.mapIter (some b) c #[] c)) (hS.new _))
  have e1 := okX_at (F := F) hok (x := x) (by simp [ho, Op.operands])
  simp only [execOp, ho, e1, hx, Instr.range, newObj, Sem.run_bind, run_underlying hM.und, Result.andThen_ok, MapKept.run_getObj_map (hS.heap i hi), Sem.run_pure]
  rfl
theorem WL.nx0 {o : Oper} {x : Operand} (hg : o.guard = none) (ho : o.op = .next x false) (i j : Nat) (hS : St g L w) (hi : L[i]? = some (blk b2 (.mapIter (some b) c #[] c))) (hj : L[j]? = some (blk b (.map es c2))) (he : es = #[]) (hx : ev F x = .pointer (some ⟨b2, 0, none⟩))
    (hk : WL P n os l K (updo F o.dst (.tuple #[.bool false])) w) : WL P n os (o :: l) K F w := by
  subst he
  refine WL.val hg (fun hok => ?_) hk
  have e1 := okX_at (F := F) hok (x := x) (by simp [ho, Op.operands])
  have h1 := hS.heap i hi
  have h2 := hS.heap j hj
  have hr : (Instr.next (.pointer (some ⟨b2, 0, none⟩)) false o.type).run P w = .ok (.tuple #[.bool false]) w := by
    simp [Instr.next, getObj, Sem.run, h1, h2, choose, Question.forced, Result.andThen]
  simp only [execOp, ho, e1, hx, Sem.run_bind, hr, Result.andThen_ok, Sem.run_pure]
end
end Go.V
/-! ## Ws -/
namespace Go.V
open Go
def gapP (a b : Int × Int) : Prop := a.2 + 1 < b.1
def SpG (S : Kvs) : Prop := S.Pairwise gapP ∧ ∀ s ∈ S, s.1 ≤ s.2
def inS (x : Int) (S : Kvs) : Prop := ∃ s ∈ S, s.1 ≤ x ∧ x ≤ s.2
theorem inS_nil (x : Int) : ¬ inS x [] := fun ⟨_, h, _⟩ => by cases h
theorem inS_app {x : Int} {A B : Kvs} : inS x (A ++ B) ↔ inS x A ∨ inS x B := by
  constructor
  · rintro ⟨s, hs, h⟩
    rcases List.mem_append.1 hs with hs | hs
    · exact .inl ⟨s, hs, h⟩
    · exact .inr ⟨s, hs, h⟩
  · rintro (⟨s, hs, h⟩ | ⟨s, hs, h⟩)
    · exact ⟨s, List.mem_append_left _ hs, h⟩
    · exact ⟨s, List.mem_append_right _ hs, h⟩
theorem inS_cons {x : Int} {s : Int × Int} {B : Kvs} : inS x (s :: B) ↔ (s.1 ≤ x ∧ x ≤ s.2) ∨ inS x B := by
  constructor
  · rintro ⟨y, hy, h⟩
    rcases List.mem_cons.1 hy with rfl | hy
    · exact .inl h
    · exact .inr ⟨y, hy, h⟩
  · rintro (h | ⟨y, hy, h⟩)
    · exact ⟨s, List.mem_cons_self .., h⟩
    · exact ⟨y, List.mem_cons_of_mem _ hy, h⟩
structure RdI (r : RdS) (T : Kvs) : Prop where
  less : SpG r.less
  gr : SpG r.gr
  le : r.lo ≤ r.hi
  lb : ∀ y ∈ r.less, y.2 + 1 < r.lo
  gb : ∀ y ∈ r.gr, r.hi < y.1 - 1
  lt : ∀ y ∈ r.less, ∀ e ∈ T, gapP y e
  gt : ∀ y ∈ r.gr, ∀ e ∈ T, gapP y e
  rest : SpG T
theorem SpG.snoc {S : Kvs} {e : Int × Int} (h : SpG S) (he : e.1 ≤ e.2) (hg : ∀ y ∈ S, gapP y e) : SpG (S ++ [e]) := by
  refine ⟨List.pairwise_append.2 ⟨h.1, List.pairwise_singleton _ _, fun a ha b hb => ?_⟩, fun s hs => ?_⟩
  · rw [List.mem_singleton.1 hb]; exact hg a ha
  · rcases List.mem_append.1 hs with hs | hs
    · exact h.2 s hs
    · rw [List.mem_singleton.1 hs]; exact he
def rdOut (r : RdS) : Kvs := r.less ++ [(r.lo, r.hi)] ++ r.gr
theorem RdI.out {r : RdS} (h : RdI r []) : SpG (rdOut r) := by
  refine ⟨List.pairwise_append.2 ⟨List.pairwise_append.2 ⟨h.less.1, List.pairwise_singleton _ _, fun a ha b hb => ?_⟩, h.gr.1, fun a ha b hb => ?_⟩, fun s hs => ?_⟩
  · rw [List.mem_singleton.1 hb]; exact h.lb a ha
  · have hb' := h.gb b hb
    have hl := h.le
    rcases List.mem_append.1 ha with ha | ha
    · have := h.lb a ha; unfold gapP; omega
    · rw [List.mem_singleton.1 ha]; unfold gapP; show r.hi + 1 < b.1; omega
  · rcases List.mem_append.1 hs with hs | hs
    · rcases List.mem_append.1 hs with hs | hs
      · exact h.less.2 s hs
      · rw [List.mem_singleton.1 hs]; exact h.le
    · exact h.gr.2 s hs
theorem RdI.step {r : RdS} {e : Int × Int} {T : Kvs} (h : RdI r (e :: T)) : RdI (rdStep r e) T ∧ ∀ x, inS x (rdOut (rdStep r e)) ↔ inS x (rdOut r) ∨ (e.1 ≤ x ∧ x ≤ e.2) := by
  have hee := h.rest.2 e (List.mem_cons_self ..)
  obtain ⟨hp1, hp2⟩ := List.pairwise_cons.1 h.rest.1
  have hT : SpG T := ⟨hp2, fun s hs => h.rest.2 s (List.mem_cons_of_mem _ hs)⟩
  have hle := h.le
  have hlt : ∀ y ∈ r.less, ∀ z ∈ T, gapP y z := fun y hy z hz => h.lt y hy z (List.mem_cons_of_mem _ hz)
  have hgt : ∀ y ∈ r.gr, ∀ z ∈ T, gapP y z := fun y hy z hz => h.gt y hy z (List.mem_cons_of_mem _ hz)
  unfold rdStep
  by_cases c1 : e.2 + 1 < r.lo
  · rw [if_pos c1]
    refine ⟨⟨h.less.snoc hee fun y hy => h.lt y hy e (List.mem_cons_self ..), h.gr, hle, fun y hy => ?_, h.gb, fun y hy z hz => ?_, hgt, hT⟩, fun x => ?_⟩
    · rcases List.mem_append.1 hy with hy | hy
      · exact h.lb y hy
      · rw [List.mem_singleton.1 hy]; exact c1
    · rcases List.mem_append.1 hy with hy | hy
      · exact hlt y hy z hz
      · rw [List.mem_singleton.1 hy]; exact hp1 z hz
    · simp only [rdOut, inS_app, inS_cons, inS_nil, or_false]
      constructor
      · rintro (((h1 | h1) | h1) | h1)
        · exact .inl (.inl (.inl h1))
        · exact .inr h1
        · exact .inl (.inl (.inr h1))
        · exact .inl (.inr h1)
      · rintro (((h1 | h1) | h1) | h1)
        · exact .inl (.inl (.inl h1))
        · exact .inl (.inr h1)
        · exact .inr h1
        · exact .inl (.inl (.inr h1))
  · rw [if_neg c1]
    by_cases c2 : r.hi < e.1 - 1
    · rw [if_pos c2]
      refine ⟨⟨h.less, h.gr.snoc hee fun y hy => h.gt y hy e (List.mem_cons_self ..), hle, h.lb, fun y hy => ?_, hlt, fun y hy z hz => ?_, hT⟩, fun x => ?_⟩
      · rcases List.mem_append.1 hy with hy | hy
        · exact h.gb y hy
        · rw [List.mem_singleton.1 hy]; exact c2
      · rcases List.mem_append.1 hy with hy | hy
        · exact hgt y hy z hz
        · rw [List.mem_singleton.1 hy]; exact hp1 z hz
      · simp only [rdOut, inS_app, inS_cons, inS_nil, or_false, or_assoc]
    · rw [if_neg c2]
      have hgr : r.gr = [] := by
        cases hg : r.gr with
        | nil => rfl
        | cons y t =>
          have hy : y ∈ r.gr := by rw [hg]; exact List.mem_cons_self ..
          have h1 := h.gb y hy
          have h2 : y.2 + 1 < e.1 := h.gt y hy e (List.mem_cons_self ..)
          have h3 := h.gr.2 y hy
          omega
      refine ⟨⟨h.less, h.gr, ?_, fun y hy => ?_, fun y hy => ?_, hlt, hgt, hT⟩, fun x => ?_⟩
      · show min r.lo e.1 ≤ max r.hi e.2; omega
      · have h1 := h.lb y hy
        have h2 : y.2 + 1 < e.1 := h.lt y hy e (List.mem_cons_self ..)
        show y.2 + 1 < min r.lo e.1; omega
      · have hy' : y ∈ r.gr := hy
        rw [hgr] at hy'; cases hy'
      · have e1 : (min r.lo e.1 ≤ x ∧ x ≤ max r.hi e.2) ↔ ((r.lo ≤ x ∧ x ≤ r.hi) ∨ (e.1 ≤ x ∧ x ≤ e.2)) := by omega
        simp only [rdOut, inS_app, inS_cons, inS_nil, or_false, e1]
        constructor
        · rintro ((h1 | h1 | h1) | h1)
          · exact .inl (.inl (.inl h1))
          · exact .inl (.inl (.inr h1))
          · exact .inr h1
          · exact .inl (.inr h1)
        · rintro (((h1 | h1) | h1) | h1)
          · exact .inl (.inl h1)
          · exact .inl (.inr (.inl h1))
          · exact .inr h1
          · exact .inl (.inr (.inr h1))
theorem RdI.all : ∀ (T : Kvs) {r : RdS}, RdI r T → SpG (rdOut (T.foldl rdStep r)) ∧ ∀ x, inS x (rdOut (T.foldl rdStep r)) ↔ inS x (rdOut r) ∨ inS x T
  | [], r, h => ⟨h.out, fun x => ⟨.inl, fun h => h.elim id fun h => (inS_nil x h).elim⟩⟩
  | e :: T, r, h => by
    obtain ⟨h1, h2⟩ := h.step
    obtain ⟨h3, h4⟩ := RdI.all T h1
    refine ⟨h3, fun x => ?_⟩
    rw [List.foldl_cons, h4 x, h2 x, inS_cons, or_assoc]
def rdS (lo hi : Int) (S : Kvs) : Kvs := if lo ≤ hi then rdF lo hi S else S
theorem rdS_ok {lo hi : Int} {S : Kvs} (h : SpG S) : SpG (rdS lo hi S) ∧ ∀ x, inS x (rdS lo hi S) ↔ inS x S ∨ (lo ≤ x ∧ x ≤ hi) := by
  unfold rdS
  split
  · rename_i hl
    have h0 : RdI ⟨lo, hi, [], []⟩ S := ⟨⟨List.Pairwise.nil, fun _ h => (by cases h)⟩, ⟨List.Pairwise.nil, fun _ h => (by cases h)⟩, hl, fun _ h => (by cases h), fun _ h => (by cases h), fun _ h => (by cases h), fun _ h => (by cases h), h⟩
    obtain ⟨h1, h2⟩ := h0.all S
    refine ⟨h1, fun x => ?_⟩
    have h3 := h2 x
    have h4 : inS x (rdOut ⟨lo, hi, [], []⟩) ↔ (lo ≤ x ∧ x ≤ hi) := by simp only [rdOut, inS_app, inS_cons, inS_nil, or_false, false_or]
    rw [h4] at h3
    exact h3.trans or_comm
  · rename_i hl
    refine ⟨h, fun x => ⟨.inl, fun h => h.elim id fun h => ?_⟩⟩
    omega
theorem rdS_R {lo hi : Int} {S : Kvs} (hl : i64R lo ∧ i64R hi) (hS : SpR S) : SpR (rdS lo hi S) := by
  unfold rdS; split
  · exact rdF_R hl hS
  · exact hS
theorem rdS_len (lo hi : Int) (S : Kvs) : (rdS lo hi S).length ≤ S.length + 1 := by
  unfold rdS; split
  · exact rdF_len lo hi S
  · omega
def rdL (l : Kvs) : Kvs := l.foldl (fun S x => rdS x.1 x.2 S) []
theorem rdL_snoc {l : Kvs} {k : Nat} {e : Int × Int} (h : l[k]? = some e) : rdL (l.take (k + 1)) = rdS e.1 e.2 (rdL (l.take k)) := by
  unfold rdL
  rw [List.take_add_one, h, List.foldl_append]; rfl
theorem rdL_ok : ∀ (l : Kvs) (S : Kvs), SpG S → SpG (l.foldl (fun S x => rdS x.1 x.2 S) S) ∧ ∀ x, inS x (l.foldl (fun S x => rdS x.1 x.2 S) S) ↔ inS x S ∨ inS x l
  | [], S, h => ⟨h, fun x => ⟨.inl, fun h => h.elim id fun h => (inS_nil x h).elim⟩⟩
  | e :: l, S, h => by
    obtain ⟨h1, h2⟩ := rdS_ok (lo := e.1) (hi := e.2) h
    obtain ⟨h3, h4⟩ := rdL_ok l _ h1
    refine ⟨h3, fun x => ?_⟩
    rw [List.foldl_cons, h4 x, h2 x, inS_cons, or_assoc]
theorem rdL_is (l : Kvs) : SpG (rdL l) ∧ ∀ x, inS x (rdL l) ↔ inS x l := by
  obtain ⟨h1, h2⟩ := rdL_ok l [] ⟨List.Pairwise.nil, fun _ h => by cases h⟩
  exact ⟨h1, fun x => (h2 x).trans ⟨fun h => h.elim (fun h => (inS_nil x h).elim) id, .inr⟩⟩
theorem rdL_R {l : Kvs} (h : SpR l) : ∀ k, SpR (rdL (l.take k))
  | 0 => fun _ h => by cases h
  | k + 1 => by
    cases hk : l[k]? with
    | none => rw [List.take_add_one, hk]; simpa using rdL_R h k
    | some e => rw [rdL_snoc hk]; exact rdS_R (h e (List.mem_of_getElem? hk)) (rdL_R h k)
theorem rdL_len (l : Kvs) : ∀ k, (rdL (l.take k)).length ≤ k
  | 0 => Nat.le_refl _
  | k + 1 => by
    have ih := rdL_len l k
    cases hk : l[k]? with
    | none => rw [List.take_add_one, hk]; simp only [Option.toList_none, List.append_nil]; omega
    | some e =>
      rw [rdL_snoc hk]
      have := rdS_len e.1 e.2 (rdL (l.take k)); omega
def inB2 (x : Int) (S : Kvs) : Bool := S.foldl (fun b s => b || (decide (s.1 ≤ x) && decide (x ≤ s.2))) false
theorem inB2_snoc {x : Int} {S : Kvs} {k : Nat} {e : Int × Int} (h : S[k]? = some e) : inB2 x (S.take (k + 1)) = (inB2 x (S.take k) || (decide (e.1 ≤ x) && decide (x ≤ e.2))) := by
  unfold inB2
  rw [List.take_add_one, h, List.foldl_append]; rfl
theorem inB2_is {x : Int} : ∀ (S : Kvs) (b : Bool), S.foldl (fun b s => b || (decide (s.1 ≤ x) && decide (x ≤ s.2))) b = true ↔ b = true ∨ inS x S
  | [], b => ⟨.inl, fun h => h.elim id fun h => (inS_nil x h).elim⟩
  | e :: S, b => by
    rw [List.foldl_cons, inB2_is S, inS_cons, Bool.or_eq_true, Bool.and_eq_true, decide_eq_true_iff, decide_eq_true_iff, or_assoc]
theorem inB2_iff {x : Int} {S : Kvs} : inB2 x S = true ↔ inS x S := (inB2_is S false).trans ⟨fun h => h.elim (fun h => by cases h) id, .inr⟩
theorem inB2_rdL (x : Int) (l : Kvs) : inB2 x (rdL l) = inB2 x l := by
  rw [Bool.eq_iff_iff, inB2_iff, inB2_iff]; exact (rdL_is l).2 x
theorem SpG.gap {S : Kvs} (h : SpG S) {k : Nat} {a b : Int × Int} (ha : S[k]? = some a) (hb : S[k + 1]? = some b) : a.2 + 1 < b.1 := by
  obtain ⟨h1, h2⟩ := List.getElem?_eq_some_iff.1 ha
  obtain ⟨h3, h4⟩ := List.getElem?_eq_some_iff.1 hb
  have := List.pairwise_iff_getElem.1 h.1 k (k + 1) h1 h3 (by omega)
  rw [h2, h4] at this; exact this
end Go.V
/-! ## Tx9 -/
namespace Go.Proofs.YtlnlnebibgdjdaaGreat
open Go Go.V Go.RowKit Go.Maps
set_option maxRecDepth 8192 in
theorem bl_keys0 {g w : World} {L : List HP} (p : Nat) (lo hi : Int) (hS : St g (L) w) :
    Sp Tryz.prog 174 [.pointer (some ⟨p, 0, none⟩), .int .u32 0, .int .i64 lo, .int .i64 hi] w (fun v w' => v = .tuple #[] ∧ St g (L) w') := by
  refine Sp.enter Tryz.func174 rfl (by kernel_rfl) (by kernel_rfl) ?_
  refine WC.seq ?_
  refine WC.seq ?_
  refine WC.region ?_
  refine WL.r 3 rfl ?_
  refine WL.reb 12 (.bool true) (congrArg Value.bool (decide_eq_true (by decide))) ?_
  refine WL.skp rfl rfl rfl rfl ?_
  refine WL.skp rfl rfl rfl rfl ?_
  refine WL.r 1 rfl ?_
  refine WL.nil ?_
  refine WC.ifT rfl rfl ?_
  refine WC.ret ?_
  refine ⟨[], trivial, ?_⟩
  exact ⟨rfl, hS⟩
set_option maxRecDepth 8192 in
theorem bk_range0 {g w : World} {L : List HP} (a : Nat) (lo hi : Int) (hl : lo ≤ hi) (hS : St g (L) w) :
    Sp Tryz.prog 111 [.pointer (some ⟨a, 0, none⟩), .int .u32 0, .int .i64 lo, .int .i64 hi, .int .i64 2147483647] w (fun v w' => v = .slice none 0 0 ∧ St g (L) w') := by
  refine Sp.enter Tryz.func111 rfl (by kernel_rfl) (by kernel_rfl) ?_
  have _ := hl
  refine WC.seq ?_
  refine WC.region ?_
  refine WL.r 1 rfl ?_
  refine WL.nil ?_
  refine WC.seq ?_
  refine WC.seq ?_
  refine WC.region ?_
  refine WL.r 2 rfl ?_
  refine WL.rG 5 rfl (fun j => ?_)
  refine WL.prop 18 rfl (bor (dd _) (dd _)) ?_
  refine WL.nil ?_
  refine WC.ifF rfl (decide_eq_false ((by omega))) ?_
  refine WC.skip ?_
  refine WC.seq ?_
  refine WC.region ?_
  refine WL.r 2 rfl ?_
  refine WL.build rfl rfl (cs := [.pointer (some ⟨a, 0, none⟩), .slice none 0 0, .int .i64 2147483647]) zv_268 rfl rfl ?_
  refine WL.box rfl rfl #[.pointer (some ⟨a, 0, none⟩), .slice none 0 0, .int .i64 2147483647] hS rfl rfl (fun b1 w hS => ?_)
  refine WL.r 1 rfl ?_
  refine WL.nil ?_
  refine WC.seq ?_
  refine WC.region ?_
  refine WL.r 4 rfl ?_
  refine WL.call rfl rfl (bl_keys0 (p := b1) (lo := lo) (hi := hi)  (hS := hS)) rfl ?_
  clear hS; rintro _ w ⟨rfl, hS⟩
  replace hS : St g (cel b1 #[.pointer (some ⟨a, 0, none⟩), .slice none 0 0, .int .i64 2147483647] 268 :: L) w := hS
  refine WL.nil ?_
  as_aux_lemma =>
    refine WC.seq ?_
    refine WC.region ?_
    refine WL.run 5 [.slice none 0 0] rfl (by exact hS.ld 0 rfl rfl) ?_
    refine WL.nil ?_
    refine WC.ret ?_
    refine ⟨[.slice none 0 0], rfl, ?_⟩
    replace hS := (hS.sel 1 [] rfl)
    exact ⟨rfl, hS⟩
set_option maxRecDepth 8192 in
theorem len64_0 {g w : World} {L : List HP} (hS : St g (L) w) :
    Sp Tryz.prog 217 [.int .u64 0] w (fun v w' => v = .int .i64 0 ∧ St g (L) w') := by
  refine Sp.enter Tryz.func217 rfl (by kernel_rfl) (by kernel_rfl) ?_
  refine WC.seq ?_
  refine WC.region ?_
  refine WL.r 1 rfl ?_
  refine WL.nil ?_
  refine WC.seq ?_
  refine WC.seq ?_
  refine WC.region ?_
  refine WL.r 2 rfl ?_
  refine WL.nil ?_
  refine WC.ifF rfl (decide_eq_false ((by decide))) ?_
  refine WC.skip ?_
  refine WC.seq ?_
  refine WC.seq ?_
  refine WC.region ?_
  refine WL.r 2 rfl ?_
  refine WL.nil ?_
  refine WC.ifF rfl (decide_eq_false ((by decide))) ?_
  refine WC.skip ?_
  refine WC.seq ?_
  refine WC.seq ?_
  refine WC.region ?_
  refine WL.r 2 rfl ?_
  refine WL.nil ?_
  refine WC.ifF rfl (decide_eq_false ((by decide))) ?_
  refine WC.skip ?_
  as_aux_lemma =>
    refine WC.seq ?_
    refine WC.region ?_
    refine WL.r 3 rfl ?_
    refine WL.reb 21 (.int .u8 0) (congrArg (Value.int .u8) (by rfl)) ?_
    refine WL.ixs rfl rfl (v := 0) (0) rfl rfl rfl (by omega) (show (sb _)[0]? = some 0 from rfl) ?_
    refine WL.r 1 rfl ?_
    refine WL.reb 23 (.int .i64 0) (congrArg (Value.int .i64) (by rfl)) ?_
    refine WL.r 1 rfl ?_
    refine WL.reb 24 (.int .i64 0) (congrArg (Value.int .i64) (by decide)) ?_
    refine WL.r 1 rfl ?_
    refine WL.nil ?_
    refine WC.ret ?_
    refine ⟨[.int .i64 0], rfl, ?_⟩
    exact ⟨rfl, hS⟩
set_option maxRecDepth 8192 in
theorem len_0 {g w : World} {L : List HP} (hS : St g (L) w) :
    Sp Tryz.prog 176 [.int .u64 0] w (fun v w' => v = .int .i64 0 ∧ St g (L) w') := by
  refine Sp.enter Tryz.func176 rfl (by kernel_rfl) (by kernel_rfl) ?_
  refine WC.seq ?_
  refine WC.region ?_
  refine WL.r 1 rfl ?_
  refine WL.nil ?_
  refine WC.seq ?_
  refine WC.ifF rfl rfl ?_
  refine WC.skip ?_
  refine WC.seq ?_
  refine WC.region ?_
  refine WL.r 1 rfl ?_
  refine WL.call rfl rfl (len64_0   (hS := hS)) rfl ?_
  clear hS; rintro _ w ⟨rfl, hS⟩
  replace hS : St g (L) w := hS
  refine WL.r 1 rfl ?_
  refine WL.nil ?_
  refine WC.ret ?_
  refine ⟨[.int .i64 0], rfl, ?_⟩
  exact ⟨rfl, hS⟩
set_option maxRecDepth 8192 in
theorem ins_0 {g w : World} {L : List HP} (hS : St g (L) w) :
    Sp Tryz.prog 208 [.slice none 0 0, .int .i64 0, .int .i64 0, .func (.func 113) #[] #[]] w (fun v w' => v = .tuple #[] ∧ St g (L) w') := by
  refine Sp.enter Tryz.func208 rfl (by kernel_rfl) (by kernel_rfl) ?_
  refine WC.seq ?_
  refine WC.region ?_
  refine WL.r 2 rfl ?_
  refine WL.reb 11 (.int .i64 1) (congrArg (Value.int .i64) (by decide)) ?_
  refine WL.r 1 rfl ?_
  refine WL.nil ?_
  refine WC.block ?_
  refine WC.loop [0, 1, 2, 3, 8] (fun kM vs w => vs = [.slice none 0 0, .int .i64 0, .int .i64 0, .func (.func 113) #[] #[], .int .i64 1] ∧ St g (L) w ∧ (0) = kM) (0) ⟨rfl, hS, rfl⟩ ?_
  clear hS; rintro _ _ w j ⟨rfl, hS, rfl⟩
  refine WC.seq ?_
  refine WC.seq ?_
  refine WC.region ?_
  refine WL.r 3 rfl ?_
  refine WL.nil ?_
  refine WC.ifF rfl (decide_eq_false ((by decide))) ?_
  refine WC.exit ?_
  refine ⟨[], trivial, ?_⟩
  exact ⟨rfl, hS⟩
set_option maxRecDepth 8192 in
theorem pdq_0 {g w : World} {L : List HP} (hS : St g (L) w) :
    Sp Tryz.prog 175 [.slice none 0 0, .int .i64 0, .int .i64 0, .int .i64 0, .func (.func 113) #[] #[]] w (fun v w' => v = .tuple #[] ∧ St g (L) w') := by
  refine Sp.enter Tryz.func175 rfl (by kernel_rfl) (by kernel_rfl) ?_
  refine WC.seq ?_
  refine WC.region ?_
  refine WL.r 1 rfl ?_
  refine WL.nil ?_
  refine WC.seq ?_
  refine WC.region ?_
  refine WL.r 1 rfl ?_
  refine WL.nil ?_
  refine WC.block ?_
  refine WC.loop [0, 1, 2, 4] (fun kM vs w => vs = [.slice none 0 0, .int .i64 0, .int .i64 0, .func (.func 113) #[] #[]] ∧ St g (L) w ∧ (0) = kM) (0) ⟨rfl, hS, rfl⟩ ?_
  clear hS; rintro _ _ w j ⟨rfl, hS, rfl⟩
  refine WC.block ?_
  refine WC.seq ?_
  refine WC.region ?_
  refine WL.r 3 rfl ?_
  refine WL.reb 23 (.int .i64 0) (congrArg (Value.int .i64) (by decide)) ?_
  refine WL.r 1 rfl ?_
  refine WL.nil ?_
  refine WC.seq ?_
  refine WC.seq ?_
  refine WC.region ?_
  refine WL.r 2 rfl ?_
  refine WL.nil ?_
  refine WC.ifT rfl (decide_eq_true ((by decide))) ?_
  refine WC.seq ?_
  refine WC.region ?_
  refine WL.r 4 rfl ?_
  refine WL.call rfl rfl (ins_0   (hS := hS)) rfl ?_
  clear hS; rintro _ w ⟨rfl, hS⟩
  replace hS : St g (L) w := hS
  refine WL.nil ?_
  as_aux_lemma =>
    refine WC.ret ?_
    refine ⟨[], trivial, ?_⟩
    exact ⟨rfl, hS⟩
set_option maxRecDepth 8192 in
theorem sortF_0 {g w : World} {L : List HP} (hS : St g (L) w) :
    Sp Tryz.prog 112 [.slice none 0 0, .func (.func 113) #[] #[]] w (fun v w' => v = .tuple #[] ∧ St g (L) w') := by
  refine Sp.enter Tryz.func112 rfl (by kernel_rfl) (by kernel_rfl) ?_
  refine WC.seq ?_
  refine WC.region ?_
  refine WL.r 3 rfl ?_
  refine WL.nil ?_
  refine WC.region ?_
  refine WL.r 4 rfl ?_
  refine WL.nw 10 rfl (wu64 (by omega)) ?_
  refine WL.call rfl rfl (len_0   (hS := hS)) rfl ?_
  clear hS; rintro _ w ⟨rfl, hS⟩
  replace hS : St g (L) w := hS
  refine WL.r 1 rfl ?_
  refine WL.call rfl rfl (pdq_0   (hS := hS)) rfl ?_
  clear hS; rintro _ w ⟨rfl, hS⟩
  replace hS : St g (L) w := hS
  refine WL.nil ?_
  refine ⟨[], trivial, ?_⟩
  exact ⟨rfl, hS⟩
set_option maxRecDepth 8192 in
theorem tx_range0 {g w : World} {L : List HP} (x a : Nat) (q : Nat) (S : Kvs) (lo hi : Int) (hlo : i64R lo) (hhi : i64R hi) (hR : SpR S) (hSl : S.length ≤ 100000) (hS : St g (Tx x a 0 [] q S :: L) w) :
    Sp Tryz.prog 44 [.pointer (some ⟨x, 0, none⟩), .int .i64 lo, .int .i64 hi] w (fun v w' => v = .tuple #[.slice none 0 0, .int .i64 0] ∧ St g (Tx x a 0 [] q (rdS lo hi S) :: L) w') := by
  refine Sp.enter Tryz.func44 rfl (by kernel_rfl) (by kernel_rfl) ?_
  refine WC.seq ?_
  refine WC.region ?_
  refine WL.r 2 rfl ?_
  refine WL.nil ?_
  refine WC.seq ?_
  refine WC.seq ?_
  refine WC.region ?_
  obtain ⟨⟨xm, xu, xc⟩, hS⟩ := St.exOpen (f := txF x a 0 [] q S) hS
  replace hS : St g (cel x #[.pointer (some ⟨a, 0, none⟩), .int .u32 0, .bool false, .map (some xm), .slice xu (List.length (en2 S)) xc] 202 :: blk xm (.map (mE (List.map wK [])) q) :: Own 113 2 (en2 S) xu xc :: L) w := hS
  refine WL.run 4 [.bool false] rfl (by exact hS.ld 0 rfl rfl) ?_
  refine WL.nil ?_
  refine WC.ifF rfl rfl ?_
  refine WC.skip ?_
  refine WC.seq ?_
  refine WC.seq ?_
  refine WC.region ?_
  refine WL.r 3 rfl ?_
  refine WL.nil ?_
  refine WC.ifP rfl (fun hgt => ?_) (fun hgt => ?_)
  · refine WC.seq ?_
    refine WC.region ?_
    have e9 : rdS lo hi S = S := if_neg (by omega)
    refine WL.r 2 rfl ?_
    refine WL.nil ?_
    as_aux_lemma =>
      refine WC.ret ?_
      replace hS := St.exClose (f := txF x a 0 [] q (rdS lo hi S)) (L := L) ⟨xm, xu, xc⟩ (by
        rw [e9]
        exact hS)
      replace hS : St g (Tx x a 0 [] q (rdS lo hi S) :: L) w := hS
      refine ⟨[.slice none 0 0, .int .i64 0], ⟨rfl, rfl⟩, ?_⟩
      exact ⟨rfl, hS⟩
  · refine WC.skip ?_
    refine WC.seq ?_
    refine WC.region ?_
    replace hS := St.exClose (f := txF x a 0 [] q S) (L := L) ⟨xm, xu, xc⟩ (hS)
    replace hS : St g (Tx x a 0 [] q S :: L) w := hS
    refine WL.r 3 rfl ?_
    refine WL.call rfl rfl (tx_read (x := x) (a := a) (rt := 0) (xs := []) (q := q) (S := S) (lo := lo) (hi := hi) (hlo := hlo) (hhi := hhi) (hR := hR) (hSl := hSl) (hS := hS)) rfl ?_
    clear hS; rintro _ w ⟨rfl, hS⟩
    replace hS : St g (Tx x a 0 [] q (rdF lo hi S) :: L) w := hS
    refine WL.nil ?_
    as_aux_lemma =>
      refine WC.seq ?_
      refine WC.region ?_
      obtain ⟨⟨xm, xu, xc⟩, hS⟩ := St.exOpen (f := txF x a 0 [] q (rdF lo hi S)) hS
      replace hS : St g (cel x #[.pointer (some ⟨a, 0, none⟩), .int .u32 0, .bool false, .map (some xm), .slice xu (List.length (en2 (rdF lo hi S))) xc] 202 :: blk xm (.map (mE (List.map wK [])) q) :: Own 113 2 (en2 (rdF lo hi S)) xu xc :: L) w := hS
      refine WL.r 1 rfl ?_
      refine WL.nil ?_
      refine WC.seq ?_
      refine WC.seq ?_
      refine WC.plan [([0, 4, 8, 9, 12, 1, 5, 2, 6, 3, 7], some (10, [12])), ([11], none)] (by kernel_rfl) (by kernel_rfl) ?_
      refine WQ.run 11 [.pointer (some ⟨a, 0, none⟩), .int .u32 0] rfl (by exact ⟨hS.ld 0 rfl rfl, hS.ld 0 rfl rfl⟩) ?_
      refine WQ.nil ?_
      intro m1
      replace hS := hS.drewN m1; generalize hwm1 : World.drewN _ _ = w at *; clear hwm1
      refine WL.call rfl rfl (bk_range0 (a := a) (lo := lo) (hi := hi) (hl := (by omega)) (hS := hS)) rfl ?_
      clear hS; rintro _ w ⟨rfl, hS⟩
      replace hS : St g (cel x #[.pointer (some ⟨a, 0, none⟩), .int .u32 0, .bool false, .map (some xm), .slice xu (List.length (en2 (rdF lo hi S))) xc] 202 :: blk xm (.map (mE (List.map wK [])) q) :: Own 113 2 (en2 (rdF lo hi S)) xu xc :: L) w := hS
      refine WL.nil ?_
      refine ⟨by exact RQ.pure rfl rfl rfl rfl, ?_⟩
      refine WQ.r 1 rfl ?_
      refine WQ.nil ?_
      intro m2
      replace hS := hS.drewN m2; generalize hwm2 : World.drewN _ _ = w at *; clear hwm2
      refine WC.block ?_
      refine WC.loop [0, 1, 2, 6, 7, 8, 36, 37, 38] (fun kM vs w => vs = [.pointer (some ⟨x, 0, none⟩), .int .i64 lo, .int .i64 hi, .slice none 0 0, .int .i64 0, .slice none 0 0, .slice none 0 0, .int .i64 0, .int .i64 0] ∧ St g (cel x #[.pointer (some ⟨a, 0, none⟩), .int .u32 0, .bool false, .map (some xm), .slice xu (List.length (en2 (rdF lo hi S))) xc] 202 :: blk xm (.map (mE (List.map wK [])) q) :: Own 113 2 (en2 (rdF lo hi S)) xu xc :: L) w ∧ (0) = kM) (0) ⟨rfl, hS, rfl⟩ ?_
      clear hS; rintro _ _ w j ⟨rfl, hS, rfl⟩
      refine WC.seq ?_
      refine WC.region ?_
      refine WL.r 1 rfl ?_
      refine WL.nil ?_
      as_aux_lemma =>
        refine WC.seq ?_
        refine WC.ifF rfl (decide_eq_false ((by decide))) ?_
        refine WC.exit ?_
        refine WC.seq ?_
        refine WC.seq ?_
        refine WC.region ?_
        refine WL.run 4 [.map (some xm)] rfl (by exact hS.ld 0 rfl rfl) ?_
        refine WL.rgM rfl rfl mt_200 1 hS rfl rfl (fun b1 w hS => ?_)
        refine WL.nil ?_
        refine WC.block ?_
        refine WC.loop [1, 2, 6, 7, 8, 63] (fun kM vs w => vs = [.int .i64 lo, .int .i64 hi, .slice none 0 0, .int .i64 0, .slice none 0 0, .pointer (some ⟨b1, 0, none⟩)] ∧ St g (blk b1 (.mapIter (some xm) q #[] q) :: cel x #[.pointer (some ⟨a, 0, none⟩), .int .u32 0, .bool false, .map (some xm), .slice xu (List.length (en2 (rdF lo hi S))) xc] 202 :: blk xm (.map (mE (List.map wK [])) q) :: Own 113 2 (en2 (rdF lo hi S)) xu xc :: L) w ∧ (0) = kM) (0) ⟨rfl, hS, rfl⟩ ?_
        clear hS; rintro _ _ w j ⟨rfl, hS, rfl⟩
        refine WC.seq ?_
        refine WC.region ?_
        refine WL.nx0 rfl rfl 0 2 hS rfl rfl rfl rfl ?_
        refine WL.r 1 rfl ?_
        refine WL.nil ?_
        refine WC.seq ?_
        refine WC.ifF rfl rfl ?_
        refine WC.exit ?_
        refine WC.seq ?_
        refine WC.region ?_
        refine WL.r 1 rfl ?_
        refine WL.call rfl rfl (sortF_0   (hS := hS)) rfl ?_
        clear hS; rintro _ w ⟨rfl, hS⟩
        replace hS : St g (blk b1 (.mapIter (some xm) q #[] q) :: cel x #[.pointer (some ⟨a, 0, none⟩), .int .u32 0, .bool false, .map (some xm), .slice xu (List.length (en2 (rdF lo hi S))) xc] 202 :: blk xm (.map (mE (List.map wK [])) q) :: Own 113 2 (en2 (rdF lo hi S)) xu xc :: L) w := hS
        refine WL.nil ?_
        as_aux_lemma =>
          refine WC.seq ?_
          refine WC.region ?_
          have e9 : rdS lo hi S = rdF lo hi S := if_pos (by omega)
          refine WL.r 3 rfl ?_
          refine WL.nil ?_
          refine WC.ret ?_
          replace hS := St.exClose (f := txF x a 0 [] q (rdF lo hi S)) (L := blk b1 (.mapIter (some xm) q #[] q) :: L) ⟨xm, xu, xc⟩ ((hS.sel 4 [1, 1, 1, 0] rfl))
          replace hS : St g (Tx x a 0 [] q (rdF lo hi S) :: blk b1 (.mapIter (some xm) q #[] q) :: L) w := hS
          refine ⟨[.slice none 0 0, .int .i64 0], ⟨rfl, rfl⟩, ?_⟩
          replace hS := (hS.sel 2 [0] rfl)
          exact ⟨rfl, by rw [e9]; exact hS⟩
set_option maxRecDepth 8192 in
theorem clone_sp {g w : World} {L : List HP} (ls : Kvs) (a : Option Addr) (c : Nat) (hl : (en2 ls).length ≤ 1000000) (hS : St g (Own 113 2 (en2 ls) a c :: L) w) :
    Sp Tryz.prog 114 [.slice a (List.length (en2 ls)) c] w (fun v w' => ∃ (a2 : Option Addr) (c2 : Nat), v = .slice a2 (List.length (en2 ls)) c2 ∧ St g (Own 113 2 (en2 ls) a c :: Own 113 2 (en2 ls) a2 c2 :: L) w') := by
  refine Sp.enter Tryz.func114 rfl (by kernel_rfl) (by kernel_rfl) ?_
  have _ := hl
  refine WC.seq ?_
  refine WC.region ?_
  refine WL.r 1 rfl ?_
  refine WL.nil ?_
  refine WC.seq ?_
  refine WC.seq ?_
  refine WC.region ?_
  refine WL.r 1 rfl ?_
  refine WL.eqN rfl rfl el_103 rfl rfl ?_
  refine WL.nil ?_
  refine WC.if_ rfl (fun cd1 => ?_) (fun cd1 => ?_)
  · refine WC.seq ?_
    refine WC.region ?_
    refine WL.r 1 rfl ?_
    refine WL.nil ?_
    refine WC.ret ?_
    refine ⟨[.slice none 0 0], rfl, ?_⟩
    replace hS := hS.nil_ 113 2
    replace hS := (hS.sel 2 [1, 0] rfl)
    cases a with
    | some _ => cases cd1
    | none =>
      have h0 : ls = [] := by simpa [en2] using hS.nilLO 0 rfl
      subst h0; exact ⟨_, _, rfl, hS⟩
  · refine WC.skip ?_
    refine WC.seq ?_
    refine WC.region ?_
    refine WL.lit rfl rfl ([]) el_103 hS (by exact trivial) (by simp [OkE, Value.oneCell']) rfl (by decide) (fun b1 w hS => ?_)
    refine WL.r 1 rfl ?_
    refine WL.app rfl rfl 0 (en2 ls) el_103 hS rfl (hS.srcO 1 rfl) (List.nil_append _) (Rm.of (by first | omega | (simp <;> omega)) (by decide)) rfl rfl (fun a1 c1 w hS => ?_)
    replace hS : St g (Own 113 2 (en2 ls) a1 c1 :: Own 113 2 (en2 ls) a c :: L) w := hS
    refine WL.r 1 rfl ?_
    refine WL.nil ?_
    refine WC.ret ?_
    refine ⟨[.slice a1 (List.length (en2 ls)) c1], rfl, ?_⟩
    replace hS := (hS.sel 2 [1, 0] rfl)
    exact ⟨_, _, rfl, hS⟩
set_option maxRecDepth 8192 in
theorem tx_spans {g w : World} {L : List HP} (x a : Nat) (rt : Int) (xs : List WE) (q : Nat) (S : Kvs) (hSl : S.length ≤ 100000) (hS : St g (Tx x a rt xs q S :: L) w) :
    Sp Tryz.prog 45 [.pointer (some ⟨x, 0, none⟩)] w (fun v w' => ∃ (a2 : Option Addr) (c2 : Nat), v = .slice a2 (List.length (en2 S)) c2 ∧ St g (Own 113 2 (en2 S) a2 c2 :: Tx x a rt xs q S :: L) w') := by
  refine Sp.enter Tryz.func45 rfl (by kernel_rfl) (by kernel_rfl) ?_
  have _ := hSl
  refine WC.seq ?_
  refine WC.region ?_
  refine WL.r 1 rfl ?_
  refine WL.nil ?_
  refine WC.seq ?_
  refine WC.seq ?_
  refine WC.region ?_
  obtain ⟨⟨xm, xu, xc⟩, hS⟩ := St.exOpen (f := txF x a rt xs q S) hS
  replace hS : St g (cel x #[.pointer (some ⟨a, 0, none⟩), .int .u32 rt, .bool false, .map (some xm), .slice xu (List.length (en2 S)) xc] 202 :: blk xm (.map (mE (List.map wK xs)) q) :: Own 113 2 (en2 S) xu xc :: L) w := hS
  have hll := en2_len S
  refine WL.run 4 [.bool false] rfl (by exact hS.ld 0 rfl rfl) ?_
  refine WL.nil ?_
  refine WC.ifF rfl rfl ?_
  refine WC.skip ?_
  refine WC.seq ?_
  refine WC.region ?_
  refine WL.run 4 [.slice xu (List.length (en2 S)) xc] rfl (by exact hS.ld 0 rfl rfl) ?_
  refine WL.call rfl rfl (clone_sp (ls := S) (a := xu) (c := xc) (hl := (by omega)) (hS := (hS.sel 3 [2, 0, 0] rfl))) rfl ?_
  clear hS; rintro _ w ⟨a1, c1, rfl, hS⟩
  replace hS : St g (Own 113 2 (en2 S) xu xc :: Own 113 2 (en2 S) a1 c1 :: cel x #[.pointer (some ⟨a, 0, none⟩), .int .u32 rt, .bool false, .map (some xm), .slice xu (List.length (en2 S)) xc] 202 :: blk xm (.map (mE (List.map wK xs)) q) :: L) w := hS
  refine WL.r 1 rfl ?_
  refine WL.nil ?_
  refine WC.ret ?_
  replace hS := St.exClose (f := txF x a rt xs q S) (L := Own 113 2 (en2 S) a1 c1 :: L) ⟨xm, xu, xc⟩ ((hS.sel 4 [2, 2, 0, 0] rfl))
  replace hS : St g (Tx x a rt xs q S :: Own 113 2 (en2 S) a1 c1 :: L) w := hS
  refine ⟨[.slice a1 (List.length (en2 S)) c1], rfl, ?_⟩
  replace hS := (hS.sel 2 [1, 0] rfl)
  exact ⟨_, _, rfl, hS⟩
theorem t_nil {A : AM} {t : Tr} {i : Int} (h : Is A t i) (hl : t.ls = []) : i = 0 := by
  cases t with
  | nil => exact h
  | node l k v r => simp [Tr.ls] at hl
set_option maxHeartbeats 3000000 in
set_option maxRecDepth 8192 in
theorem law_tsp {g w : World} {L : List HP} (l : Kvs) (u : Option Addr) (d : Nat) (key : Int) (hlR : SpR l) (hS : St g (Sh 113 2 (en2 l) u d :: L) w) :
    Sp Tryz.prog 8 [.slice u (List.length (en2 l)) d, .int .i64 key] w (fun v w' => v = .bool true ∧ St g (L) w') := by
  refine Sp.enter Tryz.func8 rfl (by kernel_rfl) (by kernel_rfl) ?_
  refine WC.seq ?_
  refine WC.region ?_
  refine WL.r 1 rfl ?_
  refine WL.nil ?_
  refine WC.seq ?_
  refine WC.region ?_
  have hll := en2_len l
  replace hS : St g (Own 77 2 (en2 []) none 0 :: Sh 113 2 (en2 l) u d :: L) w := hS.nil_ 77 2
  replace hS := hS.nilS 77 2
  replace hS : St g (Sh 77 2 (en2 []) none 0 :: Own 77 2 (en2 []) none 0 :: Sh 113 2 (en2 l) u d :: L) w := hS
  refine WL.call rfl rfl (kt_grow (l := []) (u := none) (d := 0) (q := 0) (sp := 1) (hl := (by simp)) (hs := (by simp)) (hq := (by omega)) (hS := hS)) rfl ?_
  clear hS; rintro _ w ⟨a1, A1, i1, t1, rfl, hS, f1, f2, f3, f4, f5⟩
  replace hS : St g (Arn a1 A1 :: Sh 77 2 (en2 []) none 0 :: Own 77 2 (en2 []) none 0 :: Sh 113 2 (en2 l) u d :: L) w := hS
  refine WL.r 7 rfl ?_
  refine WL.nil ?_
  refine WC.seq ?_
  refine WC.seq ?_
  refine WC.region ?_
  have hi0 := t_nil f2 f4; subst hi0
  refine WL.call rfl rfl (awake26_spec   (hS := hS)) rfl ?_
  clear hS; rintro _ w ⟨rfl, hS⟩
  replace hS : St g (Arn a1 A1 :: Sh 77 2 (en2 []) none 0 :: Own 77 2 (en2 []) none 0 :: Sh 113 2 (en2 l) u d :: L) w := hS
  refine WL.r 2 rfl ?_
  refine WL.ung rfl rfl rfl ?_
  refine WL.r 1 rfl ?_
  refine WL.ung rfl rfl rfl ?_
  refine WL.r 3 rfl ?_
  refine WL.ung rfl rfl rfl ?_
  refine WL.r 1 rfl ?_
  refine WL.ung rfl rfl rfl ?_
  refine WL.r 1 rfl ?_
  refine WL.ung rfl rfl rfl ?_
  refine WL.r 2 rfl ?_
  refine WL.nil ?_
  as_aux_lemma =>
    refine WC.ifP rfl (fun hbig => ?_) (fun hbig => ?_)
    · refine WC.seq ?_
      refine WC.region ?_
      refine WL.call rfl rfl (awake26_spec   (hS := hS)) rfl ?_
      clear hS; rintro _ w ⟨rfl, hS⟩
      replace hS : St g (Arn a1 A1 :: Sh 77 2 (en2 []) none 0 :: Own 77 2 (en2 []) none 0 :: Sh 113 2 (en2 l) u d :: L) w := hS
      refine WL.r 1 rfl ?_
      refine WL.ung rfl rfl rfl ?_
      refine WL.r 3 rfl ?_
      refine WL.nil ?_
      refine WC.ret ?_
      refine ⟨[.bool true], rfl, ?_⟩
      replace hS := (hS.sel 4 [] rfl)
      exact ⟨rfl, hS⟩
    · refine WC.skip ?_
      refine WC.seq ?_
      refine WC.region ?_
      refine WL.r 2 rfl ?_
      refine WL.call rfl rfl (tx_begin (a := a1) (A := A1) (R := [0]) (i := 0) (hA := f1) (hi := (.inl rfl)) (hz := (by simp)) (hS := hS)) rfl ?_
      clear hS; rintro _ w ⟨x1, rfl, hS, f6⟩
      replace hS : St g (Tx x1 a1 0 [] 0 [] :: Arn a1 (A1.ret 0) :: Sh 77 2 (en2 []) none 0 :: Own 77 2 (en2 []) none 0 :: Sh 113 2 (en2 l) u d :: L) w := hS
      refine WL.r 5 rfl ?_
      refine WL.nil ?_
      refine WC.seq ?_
      refine WC.seq ?_
      refine WC.region ?_
      refine WL.r 2 rfl ?_
      refine WL.rG 4 rfl (fun j => ?_)
      refine WL.nil ?_
      refine WC.ifF rfl (by rfl) ?_
      refine WC.skip ?_
      refine WC.seq ?_
      refine WC.region ?_
      refine WL.r 1 rfl ?_
      refine WL.lit rfl rfl (i64s [key]) el_109 hS (by exact ⟨rfl, rfl⟩) (i64s_ok _) rfl (by decide) (fun b1 w hS => ?_)
      refine WL.r 1 rfl ?_
      refine WL.nil ?_
      refine WC.seq ?_
      refine WC.seq ?_
      refine WC.region ?_
      refine WL.r 1 rfl ?_
      refine WL.nil ?_
      as_aux_lemma =>
        refine WC.block ?_
        refine WC.loop [0, 8, 10, 11] (fun kM vs w => ∃ (k : Nat) (S : Kvs) (acc : List Int) (ku : Option Addr) (kd : Nat), vs = [.slice u (List.length (en2 l)) d, .pointer (some ⟨x1, 0, none⟩), .slice ku (List.length (i64s acc)) kd, .int .i64 (k : Int)] ∧ St g (Own 2 1 (i64s acc) ku kd :: Tx x1 a1 0 [] 0 S :: Arn a1 (A1.ret 0) :: Sh 77 2 (en2 []) none 0 :: Own 77 2 (en2 []) none 0 :: Sh 113 2 (en2 l) u d :: L) w ∧ (k ≤ l.length) ∧ (S = rdL (l.take k)) ∧ (acc.length = 1 + 3 * k) ∧ (l.length - k) = kM) ((List.length l) - 0) ⟨0, [], [key], _, _, rfl, hS, (Nat.zero_le _), (rfl), (rfl), rfl⟩ ?_
        clear hS; rintro _ _ w j ⟨k, S, acc, ku, kd, rfl, hS, hk, hSe, ha, rfl⟩
        refine WC.seq ?_
        refine WC.seq ?_
        refine WC.region ?_
        refine WL.r 4 rfl ?_
        refine WL.nil ?_
        refine WC.ifP rfl (fun cd1 => ?_) (fun cd1 => ?_)
        · refine WC.skip ?_
          refine WC.seq ?_
          refine WC.block ?_
          refine WC.seq ?_
          refine WC.seq ?_
          refine WC.plan [([0, 1, 2, 6, 7, 3, 8, 4, 9, 5, 10], some (11, [])), ([12, 13, 14, 15, 16], none)] (by kernel_rfl) (by kernel_rfl) ?_
          refine WQ.r 5 rfl ?_
          obtain ⟨e, he⟩ : ∃ e, l[k]? = some e := ⟨_, List.getElem?_eq_getElem (by omega)⟩; have hre := hlR e (List.mem_of_getElem? he); have hln := rdL_len l k; rw [← hSe] at hln; have hal := i64s_len acc
          refine WQ.ix rfl rfl (i := (k : Int)) (k) el_103 rfl rfl (by omega) (by omega) (hS.rdS 5 rfl (en2_at he)).1 ?_
          refine WQ.ix rfl rfl (i := (k : Int)) (k) el_103 rfl rfl (by omega) (by omega) (hS.rdS 5 rfl (en2_at he)).1 ?_
          refine WQ.run 4 [.int .i64 e.1, .int .i64 e.2] rfl (by exact ⟨(hS.rdS 5 rfl (en2_at he)).2 0 _ rfl, (hS.rdS 5 rfl (en2_at he)).2 1 _ rfl⟩) ?_
          refine WQ.nil ?_
          intro m1
          replace hS := hS.drewN m1; generalize hwm1 : World.drewN _ _ = w at *; clear hwm1
          refine WL.call rfl rfl (tx_range0 (x := x1) (a := a1) (q := 0) (S := S) (lo := e.1) (hi := e.2) (hlo := hre.1) (hhi := hre.2) (hR := (by rw [hSe]; exact rdL_R hlR k)) (hSl := (by omega)) (hS := (hS.sel 2 [1, 0] rfl))) rfl ?_
          clear hS; rintro _ w ⟨rfl, hS⟩
          replace hS : St g (Tx x1 a1 0 [] 0 (rdS e.1 e.2 S) :: Own 2 1 (i64s acc) ku kd :: Arn a1 (A1.ret 0) :: Sh 77 2 (en2 []) none 0 :: Own 77 2 (en2 []) none 0 :: Sh 113 2 (en2 l) u d :: L) w := hS
          refine WL.nil ?_
          refine ⟨by exact trivial, ?_⟩
          refine WQ.r 5 rfl ?_
          refine WQ.nil ?_
          intro m2
          replace hS := hS.drewN m2; generalize hwm2 : World.drewN _ _ = w at *; clear hwm2
          as_aux_lemma =>
            refine WC.seq ?_
            refine WC.region ?_
            refine WL.r 2 rfl ?_
            refine WL.nil ?_
            refine WC.ifF rfl (decide_eq_false ((by decide))) ?_
            refine WC.skip ?_
            refine WC.plan [([0, 1, 2, 6, 7, 11, 12, 17, 18, 3, 8, 13, 19, 4, 9, 14, 20, 5, 10, 15, 21, 16, 22, 23], some (24, [0])), ([], some (25, [])), ([], some (26, []))] (by kernel_rfl) (by kernel_rfl) ?_
            refine WQ.r 9 rfl ?_
            refine WQ.ix rfl rfl (i := (k : Int)) (k) el_103 rfl rfl (by omega) (by omega) (hS.rdS 5 rfl (en2_at he)).1 ?_
            refine WQ.ix rfl rfl (i := (k : Int)) (k) el_103 rfl rfl (by omega) (by omega) (hS.rdS 5 rfl (en2_at he)).1 ?_
            refine WQ.ix rfl rfl (i := (k : Int)) (k) el_103 rfl rfl (by omega) (by omega) (hS.rdS 5 rfl (en2_at he)).1 ?_
            refine WQ.ix rfl rfl (i := (k : Int)) (k) el_103 rfl rfl (by omega) (by omega) (hS.rdS 5 rfl (en2_at he)).1 ?_
            refine WQ.run 9 [.int .i64 e.1, .int .i64 e.2, .int .i64 e.1, .int .i64 e.2] rfl (by exact ⟨(hS.rdS 5 rfl (en2_at he)).2 0 _ rfl, (hS.rdS 5 rfl (en2_at he)).2 1 _ rfl, (hS.rdS 5 rfl (en2_at he)).2 0 _ rfl, (hS.rdS 5 rfl (en2_at he)).2 1 _ rfl⟩) ?_
            refine WQ.r 1 rfl ?_
            refine WQ.r 1 rfl ?_
            refine WQ.nil ?_
            intro m3
            replace hS := hS.drewN m3; generalize hwm3 : World.drewN _ _ = w at *; clear hwm3
            refine WL.lit rfl rfl (i64s [e.1, e.2, IntKind.i64.wrap ((IntKind.i64.wrap (Int.tdiv e.1 2)) + (IntKind.i64.wrap (Int.tdiv e.2 2)))]) el_109 hS (by exact ⟨rfl, rfl, rfl, rfl, rfl, rfl⟩) (i64s_ok _) rfl (by decide) (fun b2 w hS => ?_)
            refine WL.nil ?_
            refine ⟨by exact RQ.pure rfl rfl rfl rfl, ?_⟩
            refine WQ.nil ?_
            intro m4
            replace hS := hS.drewN m4; generalize hwm4 : World.drewN _ _ = w at *; clear hwm4
            refine WL.app rfl rfl 2 (i64s (acc ++ [e.1, e.2, IntKind.i64.wrap ((IntKind.i64.wrap (Int.tdiv e.1 2)) + (IntKind.i64.wrap (Int.tdiv e.2 2)))])) el_109 hS rfl (hS.srcO 0 rfl) (i64s_app _ _).symm (Rm.of (by first | omega | (simp <;> omega)) (by decide)) rfl rfl (fun a2 c1 w hS => ?_)
            replace hS : St g (Own 2 1 (i64s [e.1, e.2, IntKind.i64.wrap ((IntKind.i64.wrap (Int.tdiv e.1 2)) + (IntKind.i64.wrap (Int.tdiv e.2 2)))]) (some ⟨b2, 0, none⟩) (List.length (i64s [e.1, e.2, IntKind.i64.wrap ((IntKind.i64.wrap (Int.tdiv e.1 2)) + (IntKind.i64.wrap (Int.tdiv e.2 2)))])) :: Tx x1 a1 0 [] 0 (rdS e.1 e.2 S) :: Own 2 1 (i64s (acc ++ [e.1, e.2, IntKind.i64.wrap ((IntKind.i64.wrap (Int.tdiv e.1 2)) + (IntKind.i64.wrap (Int.tdiv e.2 2)))])) a2 c1 :: Arn a1 (A1.ret 0) :: Sh 77 2 (en2 []) none 0 :: Own 77 2 (en2 []) none 0 :: Sh 113 2 (en2 l) u d :: L) w := hS
            refine WL.nil ?_
            refine ⟨by exact trivial, ?_⟩
            refine WQ.nil ?_
            intro m5
            replace hS := hS.drewN m5; generalize hwm5 : World.drewN _ _ = w at *; clear hwm5
            refine WL.r 1 rfl ?_
            refine WL.nil ?_
            refine ⟨by exact trivial, ?_⟩
            intro m6
            replace hS := hS.drewN m6; generalize hwm6 : World.drewN _ _ = w at *; clear hwm6
            as_aux_lemma =>
              refine WC.region ?_
              refine WL.r 2 rfl ?_
              refine WL.nw 60 rfl (w64 (by omega)) ?_
              refine WL.r 1 rfl ?_
              refine WL.nil ?_
              exact ⟨_, by omega, k + 1, rdS e.1 e.2 S, acc ++ [e.1, e.2, IntKind.i64.wrap (IntKind.i64.wrap (Int.tdiv e.1 2) + IntKind.i64.wrap (Int.tdiv e.2 2))], _, _, rfl, (hS.sel 3 [2, 1] rfl), (by omega), (by rw [rdL_snoc he, hSe]), (by rw [List.length_append, ha]; rfl), rfl⟩
        · refine WC.exit ?_
          refine WC.seq ?_
          refine WC.region ?_
          have hln := rdL_len l k; have htk : l.take k = l := List.take_of_length_le (by omega); have hsp := rdL_is (l.take k); have hlS := rdL_R hlR k; have hib := fun y => inB2_rdL y (l.take k); rw [← hSe] at hln hsp hlS hib; have hel := en2_len S; have hal := i64s_len acc
          refine WL.r 1 rfl ?_
          refine WL.call rfl rfl (tx_spans (x := x1) (a := a1) (rt := 0) (xs := []) (q := 0) (S := S) (hSl := (by omega)) (hS := (hS.sel 2 [1, 0] rfl))) rfl ?_
          clear hS; rintro _ w ⟨a2, c1, rfl, hS⟩
          replace hS : St g (Own 113 2 (en2 S) a2 c1 :: Tx x1 a1 0 [] 0 S :: Own 2 1 (i64s acc) ku kd :: Arn a1 (A1.ret 0) :: Sh 77 2 (en2 []) none 0 :: Own 77 2 (en2 []) none 0 :: Sh 113 2 (en2 l) u d :: L) w := hS
          refine WL.r 1 rfl ?_
          refine WL.nil ?_
          refine WC.seq ?_
          refine WC.seq ?_
          refine WC.region ?_
          refine WL.r 1 rfl ?_
          refine WL.nil ?_
          refine WC.block ?_
          refine WC.loop [0, 10, 14, 15] (fun kM vs w => ∃ (n : Nat), vs = [.slice u (List.length (en2 l)) d, .slice ku (List.length (i64s acc)) kd, .slice a2 (List.length (en2 S)) c1, .int .i64 (n : Int)] ∧ St g (Own 113 2 (en2 S) a2 c1 :: Tx x1 a1 0 [] 0 S :: Own 2 1 (i64s acc) ku kd :: Arn a1 (A1.ret 0) :: Sh 77 2 (en2 []) none 0 :: Own 77 2 (en2 []) none 0 :: Sh 113 2 (en2 l) u d :: L) w ∧ (n ≤ S.length) ∧ (S.length - n) = kM) ((List.length S) - 0) ⟨0, rfl, hS, (Nat.zero_le _), rfl⟩ ?_
          clear hS; rintro _ _ w j ⟨n, rfl, hS, hn, rfl⟩
          refine WC.seq ?_
          refine WC.seq ?_
          refine WC.region ?_
          refine WL.r 4 rfl ?_
          refine WL.nil ?_
          as_aux_lemma =>
            refine WC.ifP rfl (fun cd2 => ?_) (fun cd2 => ?_)
            · refine WC.skip ?_
              refine WC.seq ?_
              refine WC.block ?_
              refine WC.seq ?_
              refine WC.plan [([0, 1, 5, 6, 2, 7, 3, 8, 4, 9, 10, 11, 12, 13, 14, 15, 16, 17, 18, 19, 20, 21, 22, 23, 24, 28, 29, 25, 30, 26, 31, 27, 32, 33, 34, 35, 36, 37, 38], none)] (by kernel_rfl) (by kernel_rfl) ?_
              refine WQ.r 4 rfl ?_
              obtain ⟨e, he⟩ : ∃ e, S[n]? = some e := ⟨_, List.getElem?_eq_getElem (by omega)⟩
              refine WQ.ix rfl rfl (i := (n : Int)) (n) el_103 rfl rfl (by omega) (by omega) (hS.rdO 0 rfl (en2_at he)).1 ?_
              refine WQ.ix rfl rfl (i := (n : Int)) (n) el_103 rfl rfl (by omega) (by omega) (hS.rdO 0 rfl (en2_at he)).1 ?_
              refine WQ.run 6 [.int .i64 e.1, .int .i64 e.2] rfl (by exact ⟨(hS.rdO 0 rfl (en2_at he)).2 0 _ rfl, (hS.rdO 0 rfl (en2_at he)).2 1 _ rfl⟩) ?_
              refine WQ.reb 123 (.bool false) (congrArg Value.bool (decide_eq_false ((by have := hsp.1.2 e (List.mem_of_getElem? he); omega)))) ?_
              refine WQ.ung rfl rfl rfl ?_
              refine WQ.r 1 rfl ?_
              refine WQ.ung rfl rfl rfl ?_
              refine WQ.r 1 rfl ?_
              refine WQ.ung rfl rfl rfl ?_
              refine WQ.r 1 rfl ?_
              by_cases cg1 : 0 < (n : Int)
              · refine WQ.reb 126 (.bool true) (congrArg Value.bool (decide_eq_true cg1)) ?_
                refine WQ.ung rfl rfl rfl ?_
                refine WQ.r 1 rfl ?_
                refine WQ.ung rfl rfl rfl ?_
                refine WQ.r 1 rfl ?_
                refine WQ.ung rfl rfl rfl ?_
                refine WQ.r 1 rfl ?_
                refine WQ.nw 129 rfl (w64 (by omega)) ?_
                refine WQ.ung rfl rfl rfl ?_
                obtain ⟨p, hp⟩ : ∃ p, S[n - 1]? = some p := ⟨_, List.getElem?_eq_getElem (by omega)⟩; have hgap := hsp.1.gap hp (by rw [Nat.sub_add_cancel (by omega)]; exact he); have hre := hlS e (List.mem_of_getElem? he); have hrp := hlS p (List.mem_of_getElem? hp); unfold i64R at hre hrp
                refine WQ.ix rfl rfl (i := (n : Int) - 1) (n - 1) el_103 rfl rfl (by omega) (by omega) (hS.rdO 0 rfl (en2_at hp)).1 ?_
                refine WQ.ung rfl rfl rfl ?_
                refine WQ.r 1 rfl ?_
                refine WQ.ung rfl rfl rfl ?_
                refine WQ.run 1 [.int .i64 p.2] rfl (by exact (hS.rdO 0 rfl (en2_at hp)).2 1 _ rfl) ?_
                refine WQ.ung rfl rfl rfl ?_
                refine WQ.r 1 rfl ?_
                refine WQ.ung rfl rfl rfl ?_
                refine WQ.r 1 rfl ?_
                refine WQ.reb 134 (.bool false) (congrArg Value.bool (decide_eq_false ((by omega)))) ?_
                refine WQ.ung rfl rfl rfl ?_
                refine WQ.r 1 rfl ?_
                refine WQ.ung rfl rfl rfl ?_
                refine WQ.r 1 rfl ?_
                refine WQ.ung rfl rfl rfl ?_
                refine WQ.r 1 rfl ?_
                refine WQ.ung rfl rfl rfl ?_
                refine WQ.r 1 rfl ?_
                refine WQ.ung rfl rfl rfl ?_
                refine WQ.ix rfl rfl (i := (n : Int)) (n) el_103 rfl rfl (by omega) (by omega) (hS.rdO 0 rfl (en2_at he)).1 ?_
                refine WQ.ung rfl rfl rfl ?_
                refine WQ.r 1 rfl ?_
                refine WQ.nw 142 rfl (w64 (by omega)) ?_
                refine WQ.ung rfl rfl rfl ?_
                refine WQ.r 1 rfl ?_
                refine WQ.ung rfl rfl rfl ?_
                refine WQ.ix rfl rfl (i := (n : Int) - 1) (n - 1) el_103 rfl rfl (by omega) (by omega) (hS.rdO 0 rfl (en2_at hp)).1 ?_
                refine WQ.ung rfl rfl rfl ?_
                refine WQ.run 1 [.int .i64 e.1] rfl (by exact (hS.rdO 0 rfl (en2_at he)).2 0 _ rfl) ?_
                refine WQ.ung rfl rfl rfl ?_
                refine WQ.r 1 rfl ?_
                refine WQ.ung rfl rfl rfl ?_
                refine WQ.run 1 [.int .i64 p.2] rfl (by exact (hS.rdO 0 rfl (en2_at hp)).2 1 _ rfl) ?_
                refine WQ.ung rfl rfl rfl ?_
                refine WQ.r 1 rfl ?_
                refine WQ.nw 146 rfl (w64 (by omega)) ?_
                refine WQ.ung rfl rfl rfl ?_
                refine WQ.r 1 rfl ?_
                refine WQ.ung rfl rfl rfl ?_
                refine WQ.r 1 rfl ?_
                refine WQ.ung rfl rfl rfl ?_
                refine WQ.r 2 rfl ?_
                refine WQ.nil ?_
                intro m1
                replace hS := hS.drewN m1; generalize hwm1 : World.drewN _ _ = w at *; clear hwm1
                as_aux_lemma =>
                  refine WC.ifF rfl (decide_eq_false ((by omega))) ?_
                  refine WC.skip ?_
                  refine WC.region ?_
                  refine WL.r 2 rfl ?_
                  refine WL.nw 111 rfl (w64 (by omega)) ?_
                  refine WL.r 1 rfl ?_
                  refine WL.nil ?_
                  exact ⟨_, by omega, n + 1, rfl, hS, (by omega), rfl⟩
              · refine WQ.reb 126 (.bool false) (congrArg Value.bool (decide_eq_false cg1)) ?_
                refine WQ.skp rfl rfl rfl rfl ?_
                refine WQ.skp rfl rfl rfl rfl ?_
                refine WQ.skp rfl rfl rfl rfl ?_
                refine WQ.skp rfl rfl rfl rfl ?_
                refine WQ.skp rfl rfl rfl rfl ?_
                refine WQ.skp rfl rfl rfl rfl ?_
                refine WQ.skp rfl rfl rfl rfl ?_
                refine WQ.skp rfl rfl rfl rfl ?_
                refine WQ.skU rfl rfl rfl ?_
                refine WQ.skU rfl rfl rfl ?_
                refine WQ.skU rfl rfl rfl ?_
                refine WQ.skU rfl rfl rfl ?_
                refine WQ.skU rfl rfl rfl ?_
                refine WQ.skU rfl rfl rfl ?_
                refine WQ.skU rfl rfl rfl ?_
                refine WQ.skU rfl rfl rfl ?_
                refine WQ.skU rfl rfl rfl ?_
                refine WQ.skU rfl rfl rfl ?_
                refine WQ.skU rfl rfl rfl ?_
                refine WQ.skU rfl rfl rfl ?_
                refine WQ.skU rfl rfl rfl ?_
                refine WQ.skp rfl rfl rfl rfl ?_
                refine WQ.ung rfl rfl rfl ?_
                refine WQ.r 2 rfl ?_
                refine WQ.nil ?_
                intro m1
                replace hS := hS.drewN m1; generalize hwm1 : World.drewN _ _ = w at *; clear hwm1
                as_aux_lemma =>
                  refine WC.ifF rfl rfl ?_
                  refine WC.skip ?_
                  refine WC.region ?_
                  refine WL.r 2 rfl ?_
                  refine WL.nw 111 rfl (w64 (by omega)) ?_
                  refine WL.r 1 rfl ?_
                  refine WL.nil ?_
                  exact ⟨_, by omega, n + 1, rfl, hS, (by omega), rfl⟩
            · refine WC.exit ?_
              refine WC.seq ?_
              refine WC.seq ?_
              refine WC.region ?_
              refine WL.r 1 rfl ?_
              refine WL.nil ?_
              refine WC.block ?_
              refine WC.loop [0, 10, 14, 16] (fun kM vs w => ∃ (i : Nat), vs = [.slice u (List.length (en2 l)) d, .slice ku (List.length (i64s acc)) kd, .slice a2 (List.length (en2 S)) c1, .int .i64 (i : Int)] ∧ St g (Own 113 2 (en2 S) a2 c1 :: Tx x1 a1 0 [] 0 S :: Own 2 1 (i64s acc) ku kd :: Arn a1 (A1.ret 0) :: Sh 77 2 (en2 []) none 0 :: Own 77 2 (en2 []) none 0 :: Sh 113 2 (en2 l) u d :: L) w ∧ (i ≤ acc.length) ∧ (acc.length - i) = kM) ((List.length acc) - 0) ⟨0, rfl, hS, (Nat.zero_le _), rfl⟩ ?_
              clear hS; rintro _ _ w j ⟨i, rfl, hS, hi, rfl⟩
              refine WC.seq ?_
              refine WC.seq ?_
              refine WC.region ?_
              refine WL.r 4 rfl ?_
              refine WL.nil ?_
              refine WC.ifP rfl (fun cd3 => ?_) (fun cd3 => ?_)
              · refine WC.skip ?_
                refine WC.seq ?_
                refine WC.block ?_
                refine WC.seq ?_
                refine WC.region ?_
                obtain ⟨y, hy⟩ : ∃ y, acc[i]? = some y := ⟨_, List.getElem?_eq_getElem (by omega)⟩
                refine WL.r 2 rfl ?_
                refine WL.nil ?_
                refine WC.seq ?_
                refine WC.seq ?_
                refine WC.region ?_
                refine WL.r 1 rfl ?_
                refine WL.nil ?_
                as_aux_lemma =>
                  refine WC.block ?_
                  refine WC.loop [0, 10, 14, 16, 17, 18, 19, 151, 152, 153, 154] (fun kM vs w => ∃ (j : Nat) (rd : Bool), vs = [.slice u (List.length (en2 l)) d, .slice ku (List.length (i64s acc)) kd, .slice a2 (List.length (en2 S)) c1, .int .i64 (i : Int), .bool rd, .bool false, .int .i64 (j : Int), .int .i64 (i : Int), .slice ku (List.length (i64s acc)) kd, .int .i64 (List.length (i64s acc) : Int), .bool (decide ((i : Int) < (List.length (i64s acc) : Int)))] ∧ St g (Own 113 2 (en2 S) a2 c1 :: Tx x1 a1 0 [] 0 S :: Own 2 1 (i64s acc) ku kd :: Arn a1 (A1.ret 0) :: Sh 77 2 (en2 []) none 0 :: Own 77 2 (en2 []) none 0 :: Sh 113 2 (en2 l) u d :: L) w ∧ (j ≤ l.length) ∧ (rd = inB2 y (l.take j)) ∧ (l.length - j) = kM) ((List.length l) - 0) ⟨0, false, rfl, hS, (Nat.zero_le _), (rfl), rfl⟩ ?_
                  clear hS; rintro _ _ w j ⟨j, rd, rfl, hS, hj, hrd, rfl⟩
                  refine WC.seq ?_
                  refine WC.seq ?_
                  refine WC.region ?_
                  refine WL.r 4 rfl ?_
                  refine WL.nil ?_
                  refine WC.ifP rfl (fun cd4 => ?_) (fun cd4 => ?_)
                  · refine WC.skip ?_
                    refine WC.seq ?_
                    refine WC.block ?_
                    refine WC.plan [([0, 1, 2, 3, 7, 8, 4, 9, 5, 10, 6, 11, 12, 13, 14, 17, 18, 15, 19, 16, 20, 21, 22, 23, 24, 25], none)] (by kernel_rfl) (by kernel_rfl) ?_
                    refine WQ.r 2 rfl ?_
                    by_cases cg1 : rd = true
                    · refine WQ.reb 164 (.bool true) (congrArg Value.bool cg1) ?_
                      refine WQ.skp rfl rfl rfl rfl ?_
                      refine WQ.skp rfl rfl rfl rfl ?_
                      refine WQ.skp rfl rfl rfl rfl ?_
                      refine WQ.skp rfl rfl rfl rfl ?_
                      refine WQ.skp rfl rfl rfl rfl ?_
                      refine WQ.skp rfl rfl rfl rfl ?_
                      refine WQ.skp rfl rfl rfl rfl ?_
                      refine WQ.skp rfl rfl rfl rfl ?_
                      refine WQ.skp rfl rfl rfl rfl ?_
                      refine WQ.skp rfl rfl rfl rfl ?_
                      refine WQ.skp rfl rfl rfl rfl ?_
                      refine WQ.skU rfl rfl rfl ?_
                      refine WQ.skU rfl rfl rfl ?_
                      refine WQ.skU rfl rfl rfl ?_
                      refine WQ.skU rfl rfl rfl ?_
                      refine WQ.skU rfl rfl rfl ?_
                      refine WQ.skU rfl rfl rfl ?_
                      refine WQ.skU rfl rfl rfl ?_
                      refine WQ.skU rfl rfl rfl ?_
                      refine WQ.skU rfl rfl rfl ?_
                      refine WQ.skU rfl rfl rfl ?_
                      refine WQ.skp rfl rfl rfl rfl ?_
                      refine WQ.r 2 rfl ?_
                      refine WQ.nil ?_
                      intro m1
                      replace hS := hS.drewN m1; generalize hwm1 : World.drewN _ _ = w at *; clear hwm1
                      as_aux_lemma =>
                        refine WC.region ?_
                        refine WL.r 2 rfl ?_
                        refine WL.nw 162 rfl (w64 (by omega)) ?_
                        refine WL.r 1 rfl ?_
                        refine WL.nil ?_
                        exact ⟨_, by omega, j + 1, true, rfl, hS, (by omega), (by obtain ⟨z, hz⟩ : ∃ z, l[j]? = some z := ⟨_, List.getElem?_eq_getElem (by omega)⟩; rw [inB2_snoc hz, ← hrd, cg1]; rfl), rfl⟩
                    · refine WQ.reb 164 (.bool false) (congrArg Value.bool (Bool.eq_false_iff.2 cg1)) ?_
                      refine WQ.ung rfl rfl rfl ?_
                      refine WQ.r 1 rfl ?_
                      refine WQ.ung rfl rfl rfl ?_
                      refine WQ.r 1 rfl ?_
                      refine WQ.ung rfl rfl rfl ?_
                      refine WQ.r 1 rfl ?_
                      refine WQ.ung rfl rfl rfl ?_
                      refine WQ.r 1 rfl ?_
                      refine WQ.ung rfl rfl rfl ?_
                      obtain ⟨z, hz⟩ : ∃ z, l[j]? = some z := ⟨_, List.getElem?_eq_getElem (by omega)⟩
                      refine WQ.ix rfl rfl (i := (j : Int)) (j) el_103 rfl rfl (by omega) (by omega) (hS.rdS 6 rfl (en2_at hz)).1 ?_
                      refine WQ.ung rfl rfl rfl ?_
                      refine WQ.ix rfl rfl (i := (i : Int)) (i) el_109 rfl rfl (by omega) (by omega) (hS.rdO 2 rfl (i64s_at hy)).1 ?_
                      refine WQ.ung rfl rfl rfl ?_
                      refine WQ.r 1 rfl ?_
                      refine WQ.ung rfl rfl rfl ?_
                      refine WQ.run 1 [.int .i64 y] rfl (by exact (hS.rdO 2 rfl (i64s_at hy)).2 0 _ rfl) ?_
                      refine WQ.ung rfl rfl rfl ?_
                      refine WQ.run 1 [.int .i64 z.1] rfl (by exact (hS.rdS 6 rfl (en2_at hz)).2 0 _ rfl) ?_
                      refine WQ.ung rfl rfl rfl ?_
                      refine WQ.r 1 rfl ?_
                      refine WQ.ung rfl rfl rfl ?_
                      refine WQ.r 1 rfl ?_
                      by_cases cg2 : z.1 ≤ y
                      · refine WQ.reb 175 (.bool true) (congrArg Value.bool (decide_eq_true cg2)) ?_
                        refine WQ.ung rfl rfl rfl ?_
                        refine WQ.r 1 rfl ?_
                        refine WQ.ung rfl rfl rfl ?_
                        refine WQ.r 1 rfl ?_
                        refine WQ.ung rfl rfl rfl ?_
                        refine WQ.r 1 rfl ?_
                        refine WQ.ung rfl rfl rfl ?_
                        refine WQ.r 1 rfl ?_
                        refine WQ.ung rfl rfl rfl ?_
                        refine WQ.ix rfl rfl (i := (i : Int)) (i) el_109 rfl rfl (by omega) (by omega) (hS.rdO 2 rfl (i64s_at hy)).1 ?_
                        refine WQ.ung rfl rfl rfl ?_
                        refine WQ.ix rfl rfl (i := (j : Int)) (j) el_103 rfl rfl (by omega) (by omega) (hS.rdS 6 rfl (en2_at hz)).1 ?_
                        refine WQ.ung rfl rfl rfl ?_
                        refine WQ.run 1 [.int .i64 y] rfl (by exact (hS.rdO 2 rfl (i64s_at hy)).2 0 _ rfl) ?_
                        refine WQ.ung rfl rfl rfl ?_
                        refine WQ.r 1 rfl ?_
                        refine WQ.ung rfl rfl rfl ?_
                        refine WQ.run 1 [.int .i64 z.2] rfl (by exact (hS.rdS 6 rfl (en2_at hz)).2 1 _ rfl) ?_
                        refine WQ.ung rfl rfl rfl ?_
                        refine WQ.r 1 rfl ?_
                        refine WQ.ung rfl rfl rfl ?_
                        refine WQ.r 3 rfl ?_
                        refine WQ.nil ?_
                        intro m1
                        replace hS := hS.drewN m1; generalize hwm1 : World.drewN _ _ = w at *; clear hwm1
                        as_aux_lemma =>
                          refine WC.region ?_
                          refine WL.r 2 rfl ?_
                          refine WL.nw 162 rfl (w64 (by omega)) ?_
                          refine WL.r 1 rfl ?_
                          refine WL.nil ?_
                          exact ⟨_, by omega, j + 1, decide (y ≤ z.2), rfl, hS, (by omega), (by rw [inB2_snoc hz, ← hrd, Bool.eq_false_iff.2 cg1, decide_eq_true cg2]; rfl), rfl⟩
                      · refine WQ.reb 175 (.bool false) (congrArg Value.bool (decide_eq_false cg2)) ?_
                        refine WQ.skp rfl rfl rfl rfl ?_
                        refine WQ.skp rfl rfl rfl rfl ?_
                        refine WQ.skp rfl rfl rfl rfl ?_
                        refine WQ.skp rfl rfl rfl rfl ?_
                        refine WQ.skp rfl rfl rfl rfl ?_
                        refine WQ.skp rfl rfl rfl rfl ?_
                        refine WQ.skp rfl rfl rfl rfl ?_
                        refine WQ.skp rfl rfl rfl rfl ?_
                        refine WQ.skp rfl rfl rfl rfl ?_
                        refine WQ.skp rfl rfl rfl rfl ?_
                        refine WQ.ung rfl rfl rfl ?_
                        refine WQ.r 3 rfl ?_
                        refine WQ.nil ?_
                        intro m1
                        replace hS := hS.drewN m1; generalize hwm1 : World.drewN _ _ = w at *; clear hwm1
                        as_aux_lemma =>
                          refine WC.region ?_
                          refine WL.r 2 rfl ?_
                          refine WL.nw 162 rfl (w64 (by omega)) ?_
                          refine WL.r 1 rfl ?_
                          refine WL.nil ?_
                          exact ⟨_, by omega, j + 1, false, rfl, hS, (by omega), (by rw [inB2_snoc hz, ← hrd, Bool.eq_false_iff.2 cg1, decide_eq_false cg2]; rfl), rfl⟩
                  · refine WC.exit ?_
                    refine WC.seq ?_
                    refine WC.seq ?_
                    refine WC.region ?_
                    refine WL.r 1 rfl ?_
                    refine WL.nil ?_
                    refine WC.block ?_
                    refine WC.loop [0, 10, 14, 16, 17, 18, 19, 20, 151, 152, 153, 154, 157, 158, 159, 160] (fun kM vs w => ∃ (m : Nat) (rn : Bool), vs = [.slice u (List.length (en2 l)) d, .slice ku (List.length (i64s acc)) kd, .slice a2 (List.length (en2 S)) c1, .int .i64 (i : Int), .bool rd, .bool rn, .int .i64 (j : Int), .int .i64 (m : Int), .int .i64 (i : Int), .slice ku (List.length (i64s acc)) kd, .int .i64 (List.length (i64s acc) : Int), .bool (decide ((i : Int) < (List.length (i64s acc) : Int))), .int .i64 (j : Int), .slice u (List.length (en2 l)) d, .int .i64 (List.length (en2 l) : Int), .bool (decide ((j : Int) < (List.length (en2 l) : Int)))] ∧ St g (Own 113 2 (en2 S) a2 c1 :: Tx x1 a1 0 [] 0 S :: Own 2 1 (i64s acc) ku kd :: Arn a1 (A1.ret 0) :: Sh 77 2 (en2 []) none 0 :: Own 77 2 (en2 []) none 0 :: Sh 113 2 (en2 l) u d :: L) w ∧ (m ≤ S.length) ∧ (rn = inB2 y (S.take m)) ∧ (S.length - m) = kM) ((List.length S) - 0) ⟨0, false, rfl, hS, (Nat.zero_le _), (rfl), rfl⟩ ?_
                    clear hS; rintro _ _ w j ⟨m, rn, rfl, hS, hm, hrn, rfl⟩
                    refine WC.seq ?_
                    refine WC.seq ?_
                    refine WC.region ?_
                    refine WL.r 4 rfl ?_
                    refine WL.nil ?_
                    refine WC.ifP rfl (fun cd5 => ?_) (fun cd5 => ?_)
                    · refine WC.skip ?_
                      as_aux_lemma =>
                        refine WC.seq ?_
                        refine WC.block ?_
                        refine WC.plan [([0, 1, 2, 3, 7, 8, 4, 9, 5, 10, 6, 11, 12, 13, 14, 17, 18, 15, 19, 16, 20, 21, 22, 23, 24, 25], none)] (by kernel_rfl) (by kernel_rfl) ?_
                        refine WQ.r 2 rfl ?_
                        by_cases cg1 : rn = true
                        · refine WQ.reb 195 (.bool true) (congrArg Value.bool cg1) ?_
                          refine WQ.skp rfl rfl rfl rfl ?_
                          refine WQ.skp rfl rfl rfl rfl ?_
                          refine WQ.skp rfl rfl rfl rfl ?_
                          refine WQ.skp rfl rfl rfl rfl ?_
                          refine WQ.skp rfl rfl rfl rfl ?_
                          refine WQ.skp rfl rfl rfl rfl ?_
                          refine WQ.skp rfl rfl rfl rfl ?_
                          refine WQ.skp rfl rfl rfl rfl ?_
                          refine WQ.skp rfl rfl rfl rfl ?_
                          refine WQ.skp rfl rfl rfl rfl ?_
                          refine WQ.skp rfl rfl rfl rfl ?_
                          refine WQ.skU rfl rfl rfl ?_
                          refine WQ.skU rfl rfl rfl ?_
                          refine WQ.skU rfl rfl rfl ?_
                          refine WQ.skU rfl rfl rfl ?_
                          refine WQ.skU rfl rfl rfl ?_
                          refine WQ.skU rfl rfl rfl ?_
                          refine WQ.skU rfl rfl rfl ?_
                          refine WQ.skU rfl rfl rfl ?_
                          refine WQ.skU rfl rfl rfl ?_
                          refine WQ.skU rfl rfl rfl ?_
                          refine WQ.skp rfl rfl rfl rfl ?_
                          refine WQ.r 2 rfl ?_
                          refine WQ.nil ?_
                          intro m1
                          replace hS := hS.drewN m1; generalize hwm1 : World.drewN _ _ = w at *; clear hwm1
                          as_aux_lemma =>
                            refine WC.region ?_
                            refine WL.r 2 rfl ?_
                            refine WL.nw 193 rfl (w64 (by omega)) ?_
                            refine WL.r 1 rfl ?_
                            refine WL.nil ?_
                            exact ⟨_, by omega, m + 1, true, rfl, hS, (by omega), (by obtain ⟨z, hz⟩ : ∃ z, S[m]? = some z := ⟨_, List.getElem?_eq_getElem (by omega)⟩; rw [inB2_snoc hz, ← hrn, cg1]; rfl), rfl⟩
                        · refine WQ.reb 195 (.bool false) (congrArg Value.bool (Bool.eq_false_iff.2 cg1)) ?_
                          refine WQ.ung rfl rfl rfl ?_
                          refine WQ.r 1 rfl ?_
                          refine WQ.ung rfl rfl rfl ?_
                          refine WQ.r 1 rfl ?_
                          refine WQ.ung rfl rfl rfl ?_
                          refine WQ.r 1 rfl ?_
                          refine WQ.ung rfl rfl rfl ?_
                          refine WQ.r 1 rfl ?_
                          refine WQ.ung rfl rfl rfl ?_
                          obtain ⟨z, hz⟩ : ∃ z, S[m]? = some z := ⟨_, List.getElem?_eq_getElem (by omega)⟩
                          refine WQ.ix rfl rfl (i := (m : Int)) (m) el_103 rfl rfl (by omega) (by omega) (hS.rdO 0 rfl (en2_at hz)).1 ?_
                          refine WQ.ung rfl rfl rfl ?_
                          refine WQ.ix rfl rfl (i := (i : Int)) (i) el_109 rfl rfl (by omega) (by omega) (hS.rdO 2 rfl (i64s_at hy)).1 ?_
                          refine WQ.ung rfl rfl rfl ?_
                          refine WQ.r 1 rfl ?_
                          refine WQ.ung rfl rfl rfl ?_
                          refine WQ.run 1 [.int .i64 y] rfl (by exact (hS.rdO 2 rfl (i64s_at hy)).2 0 _ rfl) ?_
                          refine WQ.ung rfl rfl rfl ?_
                          refine WQ.run 1 [.int .i64 z.1] rfl (by exact (hS.rdO 0 rfl (en2_at hz)).2 0 _ rfl) ?_
                          refine WQ.ung rfl rfl rfl ?_
                          refine WQ.r 1 rfl ?_
                          refine WQ.ung rfl rfl rfl ?_
                          refine WQ.r 1 rfl ?_
                          by_cases cg2 : z.1 ≤ y
                          · refine WQ.reb 206 (.bool true) (congrArg Value.bool (decide_eq_true cg2)) ?_
                            refine WQ.ung rfl rfl rfl ?_
                            refine WQ.r 1 rfl ?_
                            refine WQ.ung rfl rfl rfl ?_
                            refine WQ.r 1 rfl ?_
                            refine WQ.ung rfl rfl rfl ?_
                            refine WQ.r 1 rfl ?_
                            refine WQ.ung rfl rfl rfl ?_
                            refine WQ.r 1 rfl ?_
                            refine WQ.ung rfl rfl rfl ?_
                            refine WQ.ix rfl rfl (i := (i : Int)) (i) el_109 rfl rfl (by omega) (by omega) (hS.rdO 2 rfl (i64s_at hy)).1 ?_
                            refine WQ.ung rfl rfl rfl ?_
                            refine WQ.ix rfl rfl (i := (m : Int)) (m) el_103 rfl rfl (by omega) (by omega) (hS.rdO 0 rfl (en2_at hz)).1 ?_
                            refine WQ.ung rfl rfl rfl ?_
                            refine WQ.run 1 [.int .i64 y] rfl (by exact (hS.rdO 2 rfl (i64s_at hy)).2 0 _ rfl) ?_
                            refine WQ.ung rfl rfl rfl ?_
                            refine WQ.r 1 rfl ?_
                            refine WQ.ung rfl rfl rfl ?_
                            refine WQ.run 1 [.int .i64 z.2] rfl (by exact (hS.rdO 0 rfl (en2_at hz)).2 1 _ rfl) ?_
                            refine WQ.ung rfl rfl rfl ?_
                            refine WQ.r 1 rfl ?_
                            refine WQ.ung rfl rfl rfl ?_
                            refine WQ.r 3 rfl ?_
                            refine WQ.nil ?_
                            intro m1
                            replace hS := hS.drewN m1; generalize hwm1 : World.drewN _ _ = w at *; clear hwm1
                            as_aux_lemma =>
                              refine WC.region ?_
                              refine WL.r 2 rfl ?_
                              refine WL.nw 193 rfl (w64 (by omega)) ?_
                              refine WL.r 1 rfl ?_
                              refine WL.nil ?_
                              exact ⟨_, by omega, m + 1, decide (y ≤ z.2), rfl, hS, (by omega), (by rw [inB2_snoc hz, ← hrn, Bool.eq_false_iff.2 cg1, decide_eq_true cg2]; rfl), rfl⟩
                          · refine WQ.reb 206 (.bool false) (congrArg Value.bool (decide_eq_false cg2)) ?_
                            refine WQ.skp rfl rfl rfl rfl ?_
                            refine WQ.skp rfl rfl rfl rfl ?_
                            refine WQ.skp rfl rfl rfl rfl ?_
                            refine WQ.skp rfl rfl rfl rfl ?_
                            refine WQ.skp rfl rfl rfl rfl ?_
                            refine WQ.skp rfl rfl rfl rfl ?_
                            refine WQ.skp rfl rfl rfl rfl ?_
                            refine WQ.skp rfl rfl rfl rfl ?_
                            refine WQ.skp rfl rfl rfl rfl ?_
                            refine WQ.skp rfl rfl rfl rfl ?_
                            refine WQ.ung rfl rfl rfl ?_
                            refine WQ.r 3 rfl ?_
                            refine WQ.nil ?_
                            intro m1
                            replace hS := hS.drewN m1; generalize hwm1 : World.drewN _ _ = w at *; clear hwm1
                            as_aux_lemma =>
                              refine WC.region ?_
                              refine WL.r 2 rfl ?_
                              refine WL.nw 193 rfl (w64 (by omega)) ?_
                              refine WL.r 1 rfl ?_
                              refine WL.nil ?_
                              exact ⟨_, by omega, m + 1, false, rfl, hS, (by omega), (by rw [inB2_snoc hz, ← hrn, Bool.eq_false_iff.2 cg1, decide_eq_false cg2]; rfl), rfl⟩
                    · refine WC.exit ?_
                      as_aux_lemma =>
                        refine WC.seq ?_
                        refine WC.region ?_
                        refine WL.r 3 rfl ?_
                        refine WL.nil ?_
                        refine WC.ifF rfl (by rw [hrd, hrn, List.take_of_length_le (by omega), List.take_of_length_le (by omega), hib, htk]; simp) ?_
                        refine WC.skip ?_
                        refine WC.region ?_
                        refine WL.r 2 rfl ?_
                        refine WL.nw 156 rfl (w64 (by omega)) ?_
                        refine WL.r 1 rfl ?_
                        refine WL.nil ?_
                        exact ⟨_, by omega, i + 1, rfl, hS, (by omega), rfl⟩
              · refine WC.exit ?_
                refine WC.seq ?_
                refine WC.region ?_
                refine WL.r 1 rfl ?_
                refine WL.nil ?_
                refine WC.ret ?_
                refine ⟨[.bool true], rfl, ?_⟩
                replace hS := (hS.sel 7 [] rfl)
                exact ⟨rfl, hS⟩
end Go.Proofs.YtlnlnebibgdjdaaGreat
/-! ## Argv -/
namespace Go.Proofs.YtlnlnebibgdjdaaGreat
open Go Go.V Go.RowKit
set_option maxRecDepth 100000
section
variable {H : Type} {enc : TypeId × Value → H} {w : World} {cs : List Value}
theorem rd_i64 (h : Rdc enc Tryz.prog w 2 cs) : ∃ n, cs = [.int .i64 n] ∧ Ir n := by
  obtain ⟨n, h1, h2, h3⟩ := h.int (k := .i64) (by kernel_rfl)
  exact ⟨n, h1, h2, h3⟩
end
end Go.Proofs.YtlnlnebibgdjdaaGreat
/-! ## Args -/
namespace Go.Proofs.YtlnlnebibgdjdaaGreat
open Go Go.V Go.RowKit
set_option maxRecDepth 100000
theorem rdf_113 {H : Type} {enc : TypeId × Value → H} {w : World} {cs : List Value} (h : Rdc enc Tryz.prog w 113 cs) : ∃ c0 c1 : Value, cs = [c0, c1] ∧ Rdc enc Tryz.prog w 2 [c0] ∧ Rdc enc Tryz.prog w 2 [c1] := by
  obtain ⟨hl, hf⟩ := Rdc.struct h Tryz.underlying113
  rw [show Tryz.prog.cellsOf 113 = 2 by kernel_rfl] at hl
  match cs, hl with
  | [c0, c1], _ =>
    have f0 : Rdc enc Tryz.prog w 2 (([c0, c1].drop 0).take (Tryz.prog.cellsOf 2)) := hf 0 _ rfl
    rw [show Tryz.prog.cellsOf 2 = 1 by kernel_rfl] at f0
    have f1 : Rdc enc Tryz.prog w 2 (([c0, c1].drop 1).take (Tryz.prog.cellsOf 2)) := hf 1 _ rfl
    rw [show Tryz.prog.cellsOf 2 = 1 by kernel_rfl] at f1
    exact ⟨c0, c1, rfl, f0, f1⟩
section
variable {H : Type} {enc : TypeId × Value → H} {w : World} {cs : List Value}
theorem rd_span (h : Rdc enc Tryz.prog w 113 cs) : ∃ x : Int × Int, cs = [.int .i64 x.1, .int .i64 x.2] ∧ Ir x.1 ∧ Ir x.2 := by
  obtain ⟨c0, c1, rfl, h0, h1⟩ := rdf_113 h
  obtain ⟨a, e0, w0⟩ := rd_i64 h0
  obtain ⟨b, e1, w1⟩ := rd_i64 h1
  cases e0; cases e1
  exact ⟨(a, b), rfl, w0, w1⟩
theorem rd_spans (h : Rdc enc Tryz.prog w 103 cs) : ∃ (l : List (Int × Int)) (a : Option Addr) (c : Nat), cs = [.slice a (en2 l).length c] ∧ (∀ x ∈ l, Ir x.1 ∧ Ir x.2) ∧ l.length ≤ maxLen ∧ ∀ e, Hw w (Sh e 2 (en2 l) a c) := by
  obtain ⟨a, c, ls, h1, h2, h3, h4⟩ := Rdc.slice (e := 113) (size := 2) h (by kernel_rfl) (by kernel_rfl) (by decide) (fun x hx => by
    obtain ⟨n, hn, _⟩ := rd_span hx
    subst hn; exact ⟨rfl, fun u hu => by simp at hu; rcases hu with rfl | rfl <;> rfl⟩)
  obtain ⟨m, rfl, hm⟩ := map_of (fun x : Int × Int => [Value.int .i64 x.1, Value.int .i64 x.2]) (fun x => Ir x.1 ∧ Ir x.2) ls (fun x hx => by
    obtain ⟨n, hn, hb⟩ := rd_span (h3 x hx)
    exact ⟨n, hn, hb⟩)
  exact ⟨m, a, c, h1, hm, by simpa using h2, h4⟩
end
end Go.Proofs.YtlnlnebibgdjdaaGreat
/-! ## Jts -/
namespace Go.Proofs.YtlnlnebibgdjdaaGreat
open Go Go.V Go.RowKit Go.ChangeShapes Go.WideShapes
set_option maxRecDepth 100000
theorem tsp_calls {H : Type} {enc : TypeId × Value → H} {W : World} {base : Nat} {args : List Value} (h : AOk enc Tryz.prog W base [103, 2] args) :
    Calls Tryz.prog 8 args.toArray W fun e W' => e = .returned (.bool true) ∧ Below W.heap.size W W' := by
  obtain ⟨v0, vs0, rfl, k0, r0, h⟩ := h.cons
  obtain ⟨v1, vs1, rfl, k1, r1, h⟩ := h.cons
  obtain rfl := h.nil
  obtain ⟨l0, a0, c0, e0, h0, _, s0⟩ := rd_spans r0
  obtain ⟨n1, e1, _⟩ := rd_i64 r1
  obtain rfl := okv_one (okv_slice k0 Tryz.underlying103) e0
  obtain rfl := okv_one (okv_int k1 Tryz.underlying2) e1
  have hS := St.start W
  have hS := (s0 113).add hS
  exact law_calls (law_tsp l0 a0 c0 n1 h0 hS)
theorem tsp_lifted (os : Os) (started : os.Started) (H : Type) (enc : TypeId × Value → H) :
    ReturnsInHanded {} Tryz.checked os 8 .any (Rows.txnSpansAreMinimalSpec.pre6 enc Tryz.prog Tryz.f8 Rows.txnSpansAreMinimalRow.domain false) (Rows.txnSpansAreMinimalSpec.post enc Tryz.prog Tryz.f8 false true false false) := by
  refine returnsInHanded_of_change (C := Tryz.checked) (by kernel_rfl) started (by kernel_rfl) Tryz.func8
    (ChangeSpec.witness6 (enc := enc) (C := Tryz.checked) false ⟨#[], #[.slice none 0 0, .int .i64 0], []⟩ 8 (by kernel_rfl) (by kernel_rfl) (by kernel_rfl) (by kernel_rfl)) ?_
  intro W base args ds gs before hval0 hW _ _
  have hval : ∀ (j : Nat) t v, Tryz.f8.params[j]? = some t → args[j]? = some v → Value.okWide Tryz.prog W .any base t v := hval0
  have hW0 := hW
  obtain ⟨p, q, hA0, _⟩ := hW
  have hA : DataW.TrodAll enc Tryz.prog W 0 (fun _ => true) true Tryz.f8.params.toList args.toList ds p := hA0
  rw [Tryz.params8] at hA hval
  clear hA0 hval0
  have hc := tsp_calls (AOk.args hA hval)
  rw [Array.toArray_toList] at hc
  refine hc.mono fun e W' ⟨he, hb⟩ => ⟨_, he, ?_⟩
  refine law_post rfl hW0 (by kernel_rfl) ?_ (by kernel_rfl) Tryz.underlying4 ?_ hb
  · exact fun t ht => by
      simp only [Tryz.params8, List.mem_cons, List.not_mem_nil, or_false] at ht
      rcases ht with rfl | rfl <;> exact ⟨by kernel_rfl, of_decide_eq_true (by kernel_rfl)⟩
  · intro hd
    match ds, hd with
    | [d1, d2], _ => exact ⟨rfl, rfl, rfl⟩
theorem tsp_holds : Rows.TxnSpansAreMinimalSaid :=
  OpenClaim.holds_of_wide 8 Tryz.f8 rfl rfl rfl rfl rfl rfl rfl ⟨rfl, rfl, rfl, rfl, rfl⟩ rfl rfl rfl rfl rfl (by kernel_rfl) Tryz.func8 tsp_closed
    (of_decide_eq_true (by kernel_rfl)) (by unfold Func.isWrapper; first | (rw [if_pos (by decide +kernel)]; kernel_rfl) | (rw [if_neg (by decide +kernel)]; exact ⟨rfl, rfl⟩))
    (fun os started H enc _ => tsp_lifted os started H enc)
end Go.Proofs.YtlnlnebibgdjdaaGreat
