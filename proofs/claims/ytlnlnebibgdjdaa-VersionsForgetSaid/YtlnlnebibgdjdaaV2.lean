/-
  Stores of versions: Room, Retained, Handles.
  Conditions: the store is one.
-/
import Derived.Test.YtlnlnebibgdjdaaV1
namespace Go.Proofs.Ytlnlnebibgdjdaa
open Go Go.V Go.RowKit Go.Maps Go.Sort Go.Shelf

def hup (T : TM) (k : Nat) : List Int := ((List.range k).filter fun i : Nat => T.s.ok (i : Int)).map fun i : Nat => T.s.hd (i : Int)
theorem hup_in {T : TM} {k : Nat} (h : T.s.ok (k : Int) = true) : hup T (k + 1) = hup T k ++ [T.s.hd k] := by
  unfold hup; rw [List.range_succ, List.filter_append, List.map_append]; simp [h]
theorem hup_out {T : TM} {k : Nat} (h : T.s.ok (k : Int) = false) : hup T (k + 1) = hup T k := by
  unfold hup; rw [List.range_succ, List.filter_append, List.map_append]; simp [h]
theorem hup_le (T : TM) (k : Nat) : (hup T k).length ≤ k := by
  unfold hup; rw [List.length_map]
  exact Nat.le_trans (List.length_filter_le _ _) (by simp)
theorem hup_1 {T : TM} (h : T.s.ok 0 = false) : hup T 1 = [] := by
  rw [hup_out (by exact h)]; rfl
theorem tb_handles {g w : World} {L : List HP} (t : Nat) (T : TM) (hT : TOk T) (hS : St g (Tbl t T :: L) w) :
    Sp Try.prog 51 [.pointer (some ⟨t, 0, none⟩)] w (fun v w' => ∃ (a : Option Addr) (c : Nat), v = .slice a (List.length (u64s T.handles)) c ∧ St g (Own 37 1 (u64s T.handles) a c :: Tbl t T :: L) w') := by
  refine Sp.enter Try.func51 rfl (by kernel_rfl) (by kernel_rfl) ?_
  refine WC.seq ?_
  refine WC.region ?_
  obtain ⟨⟨p, va, vc⟩, hS⟩ := St.exOpen (f := tblF t T) hS
  replace hS : St g (cel t #[.pointer (some ⟨p, 0, none⟩), .slice va (List.length (u32s T.vals)) vc] 158 :: Slt p T.s :: Own 40 1 (u32s T.vals) va vc :: L) w := hS
  have hTs := hT.s; have hcp := hTs.cap; have hce : T.s.cap = (T.s.used.length : Int) - 1 := rfl
  refine WL.r 1 rfl ?_
  refine WL.nil ?_
  refine WC.seq ?_
  refine WC.region ?_
  refine WL.r 1 rfl ?_
  refine WL.nil ?_
  refine WC.seq ?_
  refine WC.seq ?_
  refine WC.region ?_
  refine WL.r 1 rfl ?_
  refine WL.nil ?_
  refine WC.block ?_
  replace hS := hS.nil_ 37 1
  refine WC.loop [0, 2, 3, 4] (fun kM vs w => ∃ (k : Nat) (acc : List Int) (u : Option Addr) (d : Nat), vs = [.pointer (some ⟨t, 0, none⟩), .slice none 0 0, .slice u (List.length (u64s acc)) d, .int .i64 (k : Int)] ∧ St g (Own 37 1 (u64s acc) u d :: cel t #[.pointer (some ⟨p, 0, none⟩), .slice va (List.length (u32s T.vals)) vc] 158 :: Slt p T.s :: Own 40 1 (u32s T.vals) va vc :: L) w ∧ (1 ≤ k ∧ k ≤ T.s.used.length) ∧ (acc = hup T k) ∧ (T.s.used.length - k) = kM) ((List.length T.s.used) - 1) ⟨1, [], none, 0, rfl, hS, (by omega), (hup_1 hTs.u0).symm, rfl⟩ ?_
  clear hS; rintro _ _ w j ⟨k, acc, u, d, rfl, hS, hk, ha, rfl⟩
  refine WC.seq ?_
  refine WC.seq ?_
  refine WC.region ?_
  refine WL.run 5 [.pointer (some ⟨p, 0, none⟩)] rfl (by exact hS.ld 1 rfl rfl) ?_
  refine WL.call rfl rfl (sl_cap (s := p) (S := T.s) (hl := (by first | assumption | exact SOk.le (by assumption))) (hS := (hS.sel 3 [2, 0, 0] rfl))) rfl ?_
  clear hS; rintro _ w ⟨rfl, hS⟩
  replace hS : St g (Slt p T.s :: Own 37 1 (u64s acc) u d :: cel t #[.pointer (some ⟨p, 0, none⟩), .slice va (List.length (u32s T.vals)) vc] 158 :: Own 40 1 (u32s T.vals) va vc :: L) w := hS
  refine WL.r 1 rfl ?_
  refine WL.nil ?_
  as_aux_lemma =>
    refine WC.ifP rfl (fun cd1 => ?_) (fun cd1 => ?_)
    · refine WC.skip ?_
      refine WC.seq ?_
      refine WC.block ?_
      refine WC.seq ?_
      refine WC.region ?_
      have hule := hup_le T k; rw [← ha] at hule; have hul2 := u64s_len acc
      refine WL.run 6 [.pointer (some ⟨p, 0, none⟩)] rfl (by exact hS.ld 2 rfl rfl) ?_
      refine WL.nw 19 rfl (wu32 (by omega)) ?_
      refine WL.call rfl rfl (sl_ok (s := p) (S := T.s) (i := (k : Int)) (hl := (by first | assumption | exact SOk.le (by assumption))) (hi := (by omega)) (hS := hS)) rfl ?_
      clear hS; rintro _ w ⟨rfl, hS⟩
      replace hS : St g (Slt p T.s :: Own 37 1 (u64s acc) u d :: cel t #[.pointer (some ⟨p, 0, none⟩), .slice va (List.length (u32s T.vals)) vc] 158 :: Own 40 1 (u32s T.vals) va vc :: L) w := hS
      refine WL.nil ?_
      refine WC.if_ rfl (fun cd2 => ?_) (fun cd2 => ?_)
      · refine WC.region ?_
        refine WL.r 4 rfl ?_
        refine WL.nw 24 rfl (wu32 (by omega)) ?_
        refine WL.call rfl rfl (hd0 (t := t) (p := p) (S := T.s) (va := va) (n := List.length (u32s T.vals)) (vc := vc) (i := (k : Int)) (hO := (by assumption)) (hi := (by omega)) (hS := (hS.sel 3 [2, 0, 0] rfl))) rfl ?_
        clear hS; rintro _ w ⟨rfl, hS⟩
        replace hS : St g (cel t #[.pointer (some ⟨p, 0, none⟩), .slice va (List.length (u32s T.vals)) vc] 158 :: Slt p T.s :: Own 37 1 (u64s acc) u d :: Own 40 1 (u32s T.vals) va vc :: L) w := hS
        refine WL.lit rfl rfl (u64s [T.s.hd (k : Int)]) el_31 hS (by exact ⟨rfl, rfl⟩) (u64s_ok _) rfl (by decide) (fun b1 w hS => ?_)
        refine WL.app rfl rfl 3 (u64s (acc ++ [T.s.hd (k : Int)])) el_31 hS rfl (hS.srcO 0 rfl) (u64s_app _ _).symm (Rm.of (by first | omega | (simp <;> omega)) (by decide)) rfl rfl (fun a1 c1 w hS => ?_)
        replace hS : St g (Own 37 1 (u64s [T.s.hd (k : Int)]) (some ⟨b1, 0, none⟩) (List.length (u64s [T.s.hd (k : Int)])) :: cel t #[.pointer (some ⟨p, 0, none⟩), .slice va (List.length (u32s T.vals)) vc] 158 :: Slt p T.s :: Own 37 1 (u64s (acc ++ [T.s.hd (k : Int)])) a1 c1 :: Own 40 1 (u32s T.vals) va vc :: L) w := hS
        refine WL.r 1 rfl ?_
        refine WL.nil ?_
        as_aux_lemma =>
          refine WC.region ?_
          refine WL.r 2 rfl ?_
          refine WL.nw 13 rfl (w64 (by omega)) ?_
          refine WL.r 1 rfl ?_
          refine WL.nil ?_
          exact ⟨_, by omega, k + 1, acc ++ [T.s.hd k], a1, c1, rfl, (hS.sel 4 [3, 1, 1] rfl), (by omega), (by rw [hup_in cd2, ha]), rfl⟩
      · refine WC.skip ?_
        refine WC.region ?_
        refine WL.r 2 rfl ?_
        refine WL.nw 13 rfl (w64 (by omega)) ?_
        refine WL.r 1 rfl ?_
        refine WL.nil ?_
        exact ⟨_, by omega, k + 1, acc, u, d, rfl, (hS.sel 3 [1, 1, 0] rfl), (by omega), (by rw [hup_out (by simpa using cd2), ha]), rfl⟩
    · refine WC.exit ?_
      refine WC.seq ?_
      refine WC.region ?_
      have hke : k = T.s.used.length := by omega
      refine WL.r 2 rfl ?_
      refine WL.nil ?_
      refine WC.ret ?_
      replace hS := St.exClose (f := tblF t T) (L := Own 37 1 (u64s acc) u d :: L) ⟨p, va, vc⟩ ((hS.sel 4 [2, 0, 1, 0] rfl))
      replace hS : St g (Tbl t T :: Own 37 1 (u64s acc) u d :: L) w := hS
      refine ⟨[.slice u (List.length (u64s acc)) d], rfl, ?_⟩
      replace hS := (hS.sel 2 [1, 0] rfl)
      subst hke; subst ha; exact ⟨_, _, rfl, hS⟩
theorem keysR_spec {g w : World} {L : List HP} (m : Nat) (hS : St g (L) w) :
    Sp Try.prog 53 [.map (some m)] w (fun v w' => ∃ (c : Nat), v = .func (.func 90) #[] #[.pointer (some ⟨c, 0, none⟩)] ∧ St g (cel c #[.map (some m)] 96 :: L) w') := by
  have h := callsIn_wide.1 (AnyZI.keys_in Try.keysB Fence.wide 5 trivial rfl (some m) w)
  refine ⟨⟨_, _, Try.func53, by kernel_rfl, rfl⟩, h.mono fun e w' ⟨he, hw⟩ => ⟨_, he, ?_⟩⟩
  subst hw
  exact ⟨_, rfl, hS.new _⟩
theorem sortedR_spec {g w : World} {L : List HP} (m c q : Nat) (rs : List RN) (ss : List Int) (ht : KOk rK RN.n rs q) (hp : ss.Perm (rs.map RN.n)) (hs : ss.Pairwise (· ≤ ·)) (hS : St g (cel c #[.map (some m)] 96 :: blk m (.map (mE (List.map rK rs)) q) :: L) w) :
    Sp Try.prog 52 [.func (.func 90) #[] #[.pointer (some ⟨c, 0, none⟩)]] w (fun v w' => ∃ (a2 : Option Addr) (c2 : Nat), v = .slice a2 (List.length (i64s ss)) c2 ∧ St g (Own 3 1 (i64s ss) a2 c2 :: cel c #[.map (some m)] 96 :: blk m (.map (mE (List.map rK rs)) q) :: L) w') := by
  have hc : w.cell? ⟨c, 0, none⟩ = some (.map (some m)) := hS.ld 0 rfl rfl
  have hcl : c < w.heap.size := by
    have h1 := hS.heap 0 rfl
    exact (Array.getElem?_eq_some_iff.1 h1).1
  have hm := hS.heap 1 rfl
  obtain ⟨D, hD, hsz, hk⟩ := keys_of (P := Try.prog) (k := 3) rs q ht Try.underlying3 hm
  have hseq := AnyZI.keys_gives (ρ := Try.keysB_ren) { Try.keysB with } Fence.wide 2 trivial rfl (by omega) c m 4096 D w hcl hc hD
  have h := callsIn_wide.1 (AnyZI.sorted_in Try.sortedA Fence.wide 5 trivial trivial trivial trivial rfl (by omega) (Try.sortsA _) (enters_of Try.func89 (by kernel_rfl) rfl) 90 #[.pointer (some ⟨c, 0, none⟩)] trivial (enters_of Try.func90 (by kernel_rfl) rfl) _ _ (by rw [hsz]; exact Nat.le_trans ht.num (by decide)) (by rw [hsz]; have := ht.num; omega) w hseq)
  refine ⟨⟨_, _, Try.func52, by kernel_rfl, rfl⟩, h.mono fun e w' ⟨v, ys, he, hys, hrow, _, hb⟩ => ⟨v, he, ?_⟩⟩
  have hpp : ss.Perm ys := hp.trans (hys.trans hk).symm
  obtain ⟨a, c2, rfl, hS2⟩ := St.of_row (i64s ss) hS hb hrow (by rw [sort_eqI hpp hs, i64s_flat]) (by simpa using hpp.length_eq) (i64s_ok ss)
  exact ⟨a, c2, rfl, hS2⟩
theorem vs_ret {g w : World} {L : List HP} (s a : Nat) (V : VM) (ss : List Int) (hk : KOk rK RN.n V.rs V.q2) (hp : ss.Perm (V.rs.map RN.n)) (hs : ss.Pairwise (· ≤ ·)) (hS : St g (Vst s a V :: L) w) :
    Sp Try.prog 16 [.pointer (some ⟨s, 0, none⟩)] w (fun v w' => ∃ (a2 : Option Addr) (c2 : Nat), v = .slice a2 (List.length (i64s ss)) c2 ∧ St g (Own 3 1 (i64s ss) a2 c2 :: Vst s a V :: L) w') := by
  refine Sp.enter Try.func16 rfl (by kernel_rfl) (by kernel_rfl) ?_
  refine WC.seq ?_
  refine WC.region ?_
  obtain ⟨⟨vt, vp, vm, vr⟩, hS⟩ := St.exOpen (f := vstF s a V) hS
  replace hS : St g (cel s #[.pointer (some ⟨a, 0, none⟩), .pointer (some ⟨vt, 0, none⟩), .pointer (some ⟨vp, 0, none⟩), .map (some vr), .int .i64 V.cap] 100 :: Tbl vt V.T :: cel vp #[.int .i64 V.cap, .int .i64 V.last, .map (some vm)] 161 :: blk vm (.map (mE (List.map vK V.xs)) V.q) :: Shs vF V.xs :: blk vr (.map (mE (List.map rK V.rs)) V.q2) :: L) w := hS
  refine WL.r 1 rfl ?_
  refine WL.nil ?_
  refine WC.seq ?_
  refine WC.region ?_
  refine WL.run 5 [.map (some vr)] rfl (by exact hS.ld 0 rfl rfl) ?_
  refine WL.call rfl rfl (keysR_spec (m := vr)  (hS := hS)) rfl ?_
  clear hS; rintro _ w ⟨c1, rfl, hS⟩
  replace hS : St g (cel c1 #[.map (some vr)] 96 :: cel s #[.pointer (some ⟨a, 0, none⟩), .pointer (some ⟨vt, 0, none⟩), .pointer (some ⟨vp, 0, none⟩), .map (some vr), .int .i64 V.cap] 100 :: Tbl vt V.T :: cel vp #[.int .i64 V.cap, .int .i64 V.last, .map (some vm)] 161 :: blk vm (.map (mE (List.map vK V.xs)) V.q) :: Shs vF V.xs :: blk vr (.map (mE (List.map rK V.rs)) V.q2) :: L) w := hS
  refine WL.call rfl rfl (sortedR_spec (m := vr) (c := c1) (q := V.q2) (rs := V.rs) (ss := ss) (ht := hk) (hp := hp) (hs := hs) (hS := (hS.sel 7 [0, 5, 0, 0, 0, 0, 0] rfl))) rfl ?_
  clear hS; rintro _ w ⟨a1, c2, rfl, hS⟩
  replace hS : St g (Own 3 1 (i64s ss) a1 c2 :: cel c1 #[.map (some vr)] 96 :: blk vr (.map (mE (List.map rK V.rs)) V.q2) :: cel s #[.pointer (some ⟨a, 0, none⟩), .pointer (some ⟨vt, 0, none⟩), .pointer (some ⟨vp, 0, none⟩), .map (some vr), .int .i64 V.cap] 100 :: Tbl vt V.T :: cel vp #[.int .i64 V.cap, .int .i64 V.last, .map (some vm)] 161 :: blk vm (.map (mE (List.map vK V.xs)) V.q) :: Shs vF V.xs :: L) w := hS
  refine WL.r 1 rfl ?_
  refine WL.nil ?_
  refine WC.ret ?_
  replace hS := St.exClose (f := vstF s a V) (L := Own 3 1 (i64s ss) a1 c2 :: cel c1 #[.map (some vr)] 96 :: L) ⟨vt, vp, vm, vr⟩ ((hS.sel 8 [3, 3, 3, 3, 3, 2, 0, 0] rfl))
  replace hS : St g (Vst s a V :: Own 3 1 (i64s ss) a1 c2 :: cel c1 #[.map (some vr)] 96 :: L) w := hS
  refine ⟨[.slice a1 (List.length (i64s ss)) c2], rfl, ?_⟩
  replace hS := (hS.sel 3 [1, 0] rfl)
  exact ⟨_, _, rfl, hS⟩
theorem vs_room {g w : World} {L : List HP} (s a : Nat) (V : VM) (ss : List Int) (hT : TOk V.T) (hG : GI V.xs V.q V.cap V.last) (hp : ss.Perm (V.xs.map VN.n)) (hs : ss.Pairwise (· ≤ ·)) (hS : St g (Vst s a V :: L) w) :
    Sp Try.prog 14 [.pointer (some ⟨s, 0, none⟩)] w (fun v w' => v = .int .i64 V.room ∧ St g (Vst s a V :: L) w') := by
  refine Sp.enter Try.func14 rfl (by kernel_rfl) (by kernel_rfl) ?_
  refine WC.seq ?_
  refine WC.region ?_
  refine WL.r 1 rfl ?_
  refine WL.nil ?_
  refine WC.seq ?_
  refine WC.plan [([0, 4, 12, 16, 1, 5, 13, 17, 2, 6, 14, 18, 3, 7, 15, 19, 8], some (9, [0, 1, 2, 3, 12, 13, 14, 15, 16, 17, 18, 19])), ([10, 11], some (20, [0, 1, 2, 3, 10, 11, 12, 13, 14, 15])), ([21, 22, 23], none)] (by kernel_rfl) (by kernel_rfl) ?_
  obtain ⟨⟨vt, vp, vm, vr⟩, hS⟩ := St.exOpen (f := vstF s a V) hS
  replace hS : St g (cel s #[.pointer (some ⟨a, 0, none⟩), .pointer (some ⟨vt, 0, none⟩), .pointer (some ⟨vp, 0, none⟩), .map (some vr), .int .i64 V.cap] 100 :: Tbl vt V.T :: cel vp #[.int .i64 V.cap, .int .i64 V.last, .map (some vm)] 161 :: blk vm (.map (mE (List.map vK V.xs)) V.q) :: Shs vF V.xs :: blk vr (.map (mE (List.map rK V.rs)) V.q2) :: L) w := hS
  have hsl := i64s_len ss; have hpl := hp.length_eq; rw [List.length_map] at hpl; have hnum := hG.ok.num; have hcp := hG.cp; have hfr := hT.s.free_rng; have hcc := hT.s.cap; have hce : V.T.s.cap = (V.T.s.used.length : Int) - 1 := rfl
  refine WQ.run 17 [.int .i64 V.cap, .int .i64 V.cap, .pointer (some ⟨vt, 0, none⟩), .pointer (some ⟨vp, 0, none⟩)] rfl (by exact ⟨hS.ld 0 rfl rfl, hS.ld 0 rfl rfl, hS.ld 0 rfl rfl, hS.ld 0 rfl rfl⟩) ?_
  refine WQ.nil ?_
  intro m1
  replace hS := hS.drewN m1; generalize hwm1 : World.drewN _ _ = w at *; clear hwm1
  refine WL.call rfl rfl (vers_spec (p := vp) (m := vm) (cap := V.cap) (last := V.last) (xs := V.xs) (q := V.q) (ss := ss) (ht := hG.ok.toVOk) (hp := hp) (hs := hs) (hS := (hS.sel 5 [2, 2, 2, 0, 0] rfl))) rfl ?_
  clear hS; rintro _ w ⟨a1, c1, rfl, hS⟩
  replace hS : St g (Own 3 1 (i64s ss) a1 c1 :: cel vp #[.int .i64 V.cap, .int .i64 V.last, .map (some vm)] 161 :: blk vm (.map (mE (List.map vK V.xs)) V.q) :: Shs vF V.xs :: cel s #[.pointer (some ⟨a, 0, none⟩), .pointer (some ⟨vt, 0, none⟩), .pointer (some ⟨vp, 0, none⟩), .map (some vr), .int .i64 V.cap] 100 :: Tbl vt V.T :: blk vr (.map (mE (List.map rK V.rs)) V.q2) :: L) w := hS
  refine WL.nil ?_
  refine ⟨by exact ⟨RQ.pure rfl rfl rfl rfl, RQ.pure rfl rfl rfl rfl, RQ.pure rfl rfl rfl rfl, RQ.load rfl rfl rfl rfl (hS.ld 4 rfl rfl), RQ.pure rfl rfl rfl rfl, RQ.pure rfl rfl rfl rfl, RQ.pure rfl rfl rfl rfl, RQ.load rfl rfl rfl rfl (hS.ld 4 rfl rfl), RQ.pure rfl rfl rfl rfl, RQ.pure rfl rfl rfl rfl, RQ.pure rfl rfl rfl rfl, RQ.load rfl rfl rfl rfl (hS.ld 4 rfl rfl)⟩, ?_⟩
  refine WQ.r 2 rfl ?_
  refine WQ.nw 14 rfl (w64 (by omega)) ?_
  refine WQ.nil ?_
  intro m2
  replace hS := hS.drewN m2; generalize hwm2 : World.drewN _ _ = w at *; clear hwm2
  refine WL.call rfl rfl (tb_len (t := vt) (T := V.T) (hT := hT) (hS := (hS.sel 6 [5, 0, 0, 0, 0, 0] rfl))) rfl ?_
  clear hS; rintro _ w ⟨rfl, hS⟩
  replace hS : St g (Tbl vt V.T :: Own 3 1 (i64s ss) a1 c1 :: cel vp #[.int .i64 V.cap, .int .i64 V.last, .map (some vm)] 161 :: blk vm (.map (mE (List.map vK V.xs)) V.q) :: Shs vF V.xs :: cel s #[.pointer (some ⟨a, 0, none⟩), .pointer (some ⟨vt, 0, none⟩), .pointer (some ⟨vp, 0, none⟩), .map (some vr), .int .i64 V.cap] 100 :: blk vr (.map (mE (List.map rK V.rs)) V.q2) :: L) w := hS
  refine WL.nil ?_
  refine ⟨by exact ⟨RQ.pure rfl rfl rfl rfl, RQ.pure rfl rfl rfl rfl, RQ.pure rfl rfl rfl rfl, RQ.load rfl rfl rfl rfl (hS.ld 5 rfl rfl), RQ.pure rfl rfl rfl rfl, RQ.pure rfl rfl rfl (congrArg (Value.int .i64) (Eq.symm (w64 (by omega)))), RQ.pure rfl rfl rfl rfl, RQ.pure rfl rfl rfl rfl, RQ.pure rfl rfl rfl rfl, RQ.load rfl rfl rfl rfl (hS.ld 5 rfl rfl)⟩, ?_⟩
  refine WQ.r 1 rfl ?_
  refine WQ.nw 24 rfl (w64 (by omega)) ?_
  refine WQ.r 2 rfl ?_
  refine WQ.nil ?_
  intro m3
  replace hS := hS.drewN m3; generalize hwm3 : World.drewN _ _ = w at *; clear hwm3
  as_aux_lemma =>
    refine WC.ret ?_
    replace hS := St.exClose (f := vstF s a V) (L := Own 3 1 (i64s ss) a1 c1 :: L) ⟨vt, vp, vm, vr⟩ ((hS.sel 7 [5, 0, 1, 1, 1, 1, 0] rfl))
    replace hS : St g (Vst s a V :: Own 3 1 (i64s ss) a1 c1 :: L) w := hS
    refine ⟨[.int .i64 (min (V.cap - (List.length (i64s ss) : Int)) (V.cap - (V.T.s.cap - V.T.s.free)))], rfl, ?_⟩
    replace hS := (hS.sel 2 [0] rfl)
    exact ⟨by unfold VM.room; rw [hsl, hpl]; rfl, hS⟩
theorem vs_handles {g w : World} {L : List HP} (s a : Nat) (V : VM) (hT : TOk V.T) (hS : St g (Vst s a V :: L) w) :
    Sp Try.prog 15 [.pointer (some ⟨s, 0, none⟩)] w (fun v w' => ∃ (a2 : Option Addr) (c2 : Nat), v = .slice a2 (List.length (u64s V.T.handles)) c2 ∧ St g (Own 37 1 (u64s V.T.handles) a2 c2 :: Vst s a V :: L) w') := by
  refine Sp.enter Try.func15 rfl (by kernel_rfl) (by kernel_rfl) ?_
  refine WC.seq ?_
  refine WC.region ?_
  obtain ⟨⟨vt, vp, vm, vr⟩, hS⟩ := St.exOpen (f := vstF s a V) hS
  replace hS : St g (cel s #[.pointer (some ⟨a, 0, none⟩), .pointer (some ⟨vt, 0, none⟩), .pointer (some ⟨vp, 0, none⟩), .map (some vr), .int .i64 V.cap] 100 :: Tbl vt V.T :: cel vp #[.int .i64 V.cap, .int .i64 V.last, .map (some vm)] 161 :: blk vm (.map (mE (List.map vK V.xs)) V.q) :: Shs vF V.xs :: blk vr (.map (mE (List.map rK V.rs)) V.q2) :: L) w := hS
  refine WL.r 1 rfl ?_
  refine WL.nil ?_
  refine WC.seq ?_
  refine WC.region ?_
  refine WL.run 4 [.pointer (some ⟨vt, 0, none⟩)] rfl (by exact hS.ld 0 rfl rfl) ?_
  refine WL.call rfl rfl (tb_handles (t := vt) (T := V.T) (hT := hT) (hS := (hS.sel 2 [1, 0] rfl))) rfl ?_
  clear hS; rintro _ w ⟨a1, c1, rfl, hS⟩
  replace hS : St g (Own 37 1 (u64s V.T.handles) a1 c1 :: Tbl vt V.T :: cel s #[.pointer (some ⟨a, 0, none⟩), .pointer (some ⟨vt, 0, none⟩), .pointer (some ⟨vp, 0, none⟩), .map (some vr), .int .i64 V.cap] 100 :: cel vp #[.int .i64 V.cap, .int .i64 V.last, .map (some vm)] 161 :: blk vm (.map (mE (List.map vK V.xs)) V.q) :: Shs vF V.xs :: blk vr (.map (mE (List.map rK V.rs)) V.q2) :: L) w := hS
  refine WL.r 1 rfl ?_
  refine WL.nil ?_
  refine WC.ret ?_
  replace hS := St.exClose (f := vstF s a V) (L := Own 37 1 (u64s V.T.handles) a1 c1 :: L) ⟨vt, vp, vm, vr⟩ ((hS.sel 7 [2, 1, 1, 1, 1, 1, 0] rfl))
  replace hS : St g (Vst s a V :: Own 37 1 (u64s V.T.handles) a1 c1 :: L) w := hS
  refine ⟨[.slice a1 (List.length (u64s V.T.handles)) c1], rfl, ?_⟩
  replace hS := (hS.sel 2 [1, 0] rfl)
  exact ⟨_, _, rfl, hS⟩
end Go.Proofs.Ytlnlnebibgdjdaa
