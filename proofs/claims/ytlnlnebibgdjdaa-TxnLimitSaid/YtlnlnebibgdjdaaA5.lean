/-
  The graph: Release.
  Conditions: the graph is one.
-/
import Derived.Test.YtlnlnebibgdjdaaA4
import Derived.Test.YtlnlnebibgdjdaaAga
namespace Go.Proofs.Ytlnlnebibgdjdaa
open Go Go.V Go.RowKit

theorem rel_nf {g w : World} {L : List HP} (p m : Nat) (cap last : Int) (xs : List VN) (q : Nat) (n : Int) (hu : VUq xs) (hl : liveG xs n = false) (hS : St g (cel p #[.int .i64 cap, .int .i64 last, .map (some m)] 161 :: blk m (.map (mE (List.map vK xs)) q) :: Shs vF xs :: L) w) :
    Sp Try.prog 66 [.pointer (some ⟨p, 0, none⟩), .int .i64 n] w (fun v w' => v = .int .i64 4 ∧ St g (cel p #[.int .i64 cap, .int .i64 last, .map (some m)] 161 :: blk m (.map (mE (List.map vK xs)) q) :: Shs vF xs :: L) w') := by
  refine Sp.enter Try.func66 rfl (by kernel_rfl) (by kernel_rfl) ?_
  have _ := hu
  refine WC.seq ?_
  refine WC.region ?_
  refine WL.r 1 rfl ?_
  refine WL.nil ?_
  refine WC.seq ?_
  refine WC.seq ?_
  refine WC.region ?_
  refine WL.r 2 rfl ?_
  refine WL.call rfl rfl (live_spec (p := p) (m := m) (cap := cap) (last := last) (xs := xs) (q := q) (n := n) (hu := (by first | assumption | exact (GI.ok (by assumption)).uniq)) (hS := hS)) rfl ?_
  clear hS; rintro _ w ⟨rfl, hS⟩
  replace hS : St g (cel p #[.int .i64 cap, .int .i64 last, .map (some m)] 161 :: blk m (.map (mE (List.map vK xs)) q) :: Shs vF xs :: L) w := hS
  refine WL.r 1 rfl ?_
  refine WL.nil ?_
  refine WC.ifT rfl (by rw [hl]; rfl) ?_
  refine WC.seq ?_
  refine WC.region ?_
  refine WL.r 1 rfl ?_
  refine WL.nil ?_
  refine WC.ret ?_
  refine ⟨[.int .i64 4], rfl, ?_⟩
  exact ⟨rfl, hS⟩
set_option maxHeartbeats 2000000 in
set_option maxRecDepth 8192 in
theorem rel_ok {g w : World} {L : List HP} (p m : Nat) (cap last : Int) (xs : List VN) (q : Nat) (k : Nat) (x : VN) (hG : GOk xs q) (hx : xs[k]? = some x) (hl : x.live = true) (hS : St g (cel p #[.int .i64 cap, .int .i64 last, .map (some m)] 161 :: blk m (.map (mE (List.map vK xs)) q) :: Shs vF xs :: L) w) :
    Sp Try.prog 66 [.pointer (some ⟨p, 0, none⟩), .int .i64 x.n] w (fun v w' => ∃ (xs2 : List VN), v = .int .i64 0 ∧ St g (cel p #[.int .i64 cap, .int .i64 last, .map (some m)] 161 :: blk m (.map (mE (List.map vK xs2)) q) :: Shs vF xs2 :: L) w' ∧ (GOk xs2 q) ∧ (RelP xs x.n xs2)) := by
  refine Sp.enter Try.func66 rfl (by kernel_rfl) (by kernel_rfl) ?_
  refine WC.seq ?_
  refine WC.region ?_
  refine WL.r 1 rfl ?_
  refine WL.nil ?_
  refine WC.seq ?_
  refine WC.seq ?_
  refine WC.region ?_
  have hu := hG.uniq
  refine WL.r 2 rfl ?_
  refine WL.call rfl rfl (live_in (p := p) (m := m) (cap := cap) (last := last) (xs := xs) (q := q) (k := k) (x := x) (hx := hx) (hu := hu) (hS := hS)) rfl ?_
  clear hS; rintro _ w ⟨rfl, hS⟩
  replace hS : St g (cel p #[.int .i64 cap, .int .i64 last, .map (some m)] 161 :: blk m (.map (mE (List.map vK xs)) q) :: Shs vF xs :: L) w := hS
  refine WL.r 1 rfl ?_
  refine WL.nil ?_
  refine WC.ifF rfl (by rw [hl]; rfl) ?_
  refine WC.skip ?_
  refine WC.seq ?_
  refine WC.plan [([0, 4, 5, 9, 1, 6, 2, 7, 3, 8, 10, 11], some (12, [0, 1, 2, 3, 4])), ([], some (13, []))] (by kernel_rfl) (by kernel_rfl) ?_
  refine WQ.run 10 [.map (some m), .map (some m)] rfl (by exact ⟨hS.ld 0 rfl rfl, hS.ld 0 rfl rfl⟩) ?_
  refine WQ.lk rfl rfl mt_159 1 hS rfl rfl rfl (by first | trivial | rfl) (r := some (k, .agg #[.bool x.live, .slice x.a (i64s x.ab).length x.c])) (v_in hx hu) rfl ?_
  refine WQ.r 1 rfl ?_
  refine WQ.nil ?_
  intro m1
  replace hS := hS.drewN m1; generalize hwm1 : World.drewN _ _ = w at *; clear hwm1
  refine WL.build rfl rfl (cs := [.bool false, .slice x.a (List.length (i64s x.ab)) x.c]) zv_167 rfl rfl ?_
  refine WL.nil ?_
  refine ⟨by exact ⟨RQ.pure rfl rfl rfl rfl, RQ.pure rfl rfl rfl rfl, RQ.pure rfl rfl rfl rfl, RQ.load rfl rfl rfl rfl (hS.ld 0 rfl rfl), RQ.pure rfl rfl rfl rfl⟩, ?_⟩
  refine WQ.nil ?_
  intro m2
  replace hS := hS.drewN m2; generalize hwm2 : World.drewN _ _ = w at *; clear hwm2
  refine WL.muR (List.map vK (List.set xs k (VN.mk x.n false x.ab x.a x.c x.born))) rfl rfl rfl mt_159 1 hS rfl (k := .int .i64 x.n) (v := .agg #[.bool false, .slice x.a (List.length (i64s x.ab)) x.c]) rfl rfl rfl (by first | trivial | rfl) (j := k) (u := (vV x)) (v_in hx hu) (by rw [List.getElem?_map, hx]; rfl) (List.map_set (f := vK) (l := xs) (i := k) (a := (VN.mk x.n false x.ab x.a x.c x.born))).symm (fun w hS => ?_)
  replace hS : St g (cel p #[.int .i64 cap, .int .i64 last, .map (some m)] 161 :: blk m (.map (mE (List.map vK (List.set xs k (VN.mk x.n false x.ab x.a x.c x.born)))) q) :: Shs vF xs :: L) w := hS
  refine WL.nil ?_
  refine ⟨by exact trivial, ?_⟩
  intro m3
  replace hS := hS.drewN m3; generalize hwm3 : World.drewN _ _ = w at *; clear hwm3
  as_aux_lemma =>
    refine WC.seq ?_
    refine WC.region ?_
    replace hS := (St.shsMap (zs' := xs.set k (VN.mk x.n false x.ab x.a x.c x.born)) (hS.sel 3 [2, 0, 0] rfl) (fun z hz => by
      rcases (set_mem hu hx z).1 hz with rfl | h
      · exact ⟨x, List.mem_of_getElem? hx, rfl⟩
      · exact ⟨z, h.1, rfl⟩)).sel 3 [1, 1, 0] rfl
    obtain ⟨xs1, hxs1⟩ : ∃ xs1, xs1 = xs.set k (VN.mk x.n false x.ab x.a x.c x.born) := ⟨_, rfl⟩
    rw [← hxs1] at hS
    have hv1 : ∀ z, vw xs1 z = dead (vw xs) x.n z := by rw [hxs1]; exact dead_set hu hx
    have hV1 : VOk xs1 q := by rw [hxs1]; exact hG.toVOk.set hx rfl rfl
    have hG1 : GOk xs1 q := GF.gok (by rw [funext hv1]; exact hG.gf.dead _) hV1
    obtain ⟨ss, hK⟩ := keys_ex hV1.uniq
    replace hS : St g (cel p #[.int .i64 cap, .int .i64 last, .map (some m)] 161 :: blk m (.map (mE (List.map vK xs1)) q) :: Shs vF xs1 :: L) w := hS
    refine WL.r 1 rfl ?_
    refine WL.call rfl rfl (needed_spec (p := p) (m := m) (cap := cap) (last := last) (xs := xs1) (q := q) (ss := ss) (hG := (by first | assumption | exact GI.ok (by assumption))) (hK := hK) (hS := hS)) rfl ?_
    clear hS; rintro _ w ⟨m4, q1, ns1, rfl, hS, f1, f2⟩
    replace hS : St g (blk m4 (.map (mE (List.map bK ns1)) q1) :: cel p #[.int .i64 cap, .int .i64 last, .map (some m)] 161 :: blk m (.map (mE (List.map vK xs1)) q) :: Shs vF xs1 :: L) w := hS
    refine WL.new rfl rfl zv_179 hS (fun b1 w hS => ?_)
    refine WL.st rfl rfl rfl 0 hS rfl rfl rfl rfl rfl rfl (fun w hS => ?_)
    replace hS : St g (cel b1 #[.map (some m4)] 179 :: blk m4 (.map (mE (List.map bK ns1)) q1) :: cel p #[.int .i64 cap, .int .i64 last, .map (some m)] 161 :: blk m (.map (mE (List.map vK xs1)) q) :: Shs vF xs1 :: L) w := hS
    refine WL.nil ?_
    refine WC.seq ?_
    refine WC.region ?_
    refine WL.mkF rfl rfl (vs := [.pointer (some ⟨b1, 0, none⟩)]) rfl ?_
    refine WL.r 1 rfl ?_
    refine WL.nil ?_
    refine WC.seq ?_
    refine WC.seq ?_
    refine WC.region ?_
    have hsl := i64s_len ss; have hssl : ss.length ≤ 4096 := by rw [hK.perm.length_eq, List.length_map]; exact hV1.num
    refine WL.r 1 rfl ?_
    refine WL.call rfl rfl (vers_spec (p := p) (m := m) (cap := cap) (last := last) (xs := xs1) (q := q) (ss := ss) (ht := (by first | assumption | exact (GI.ok (by assumption)).toVOk)) (hp := hK.perm) (hs := hK.le) (hS := (hS.sel 5 [2, 2, 2, 0, 0] rfl))) rfl ?_
    clear hS; rintro _ w ⟨a1, c1, rfl, hS⟩
    replace hS : St g (Own 3 1 (i64s ss) a1 c1 :: cel p #[.int .i64 cap, .int .i64 last, .map (some m)] 161 :: blk m (.map (mE (List.map vK xs1)) q) :: Shs vF xs1 :: cel b1 #[.map (some m4)] 179 :: blk m4 (.map (mE (List.map bK ns1)) q1) :: L) w := hS
    refine WL.r 2 rfl ?_
    refine WL.nil ?_
    as_aux_lemma =>
      refine WC.block ?_
      refine WC.loop [0, 4, 6, 31, 32, 33] (fun kM vs w => ∃ (k2 : Nat) (cur : List VN), vs = [.pointer (some ⟨p, 0, none⟩), .int .i64 0, .func (.func 102) #[] #[.pointer (some ⟨b1, 0, none⟩)], .slice a1 (List.length (i64s ss)) c1, .int .i64 (List.length (i64s ss) : Int), .int .i64 (k2 : Int)] ∧ St g (Own 3 1 (i64s ss) a1 c1 :: cel p #[.int .i64 cap, .int .i64 last, .map (some m)] 161 :: blk m (.map (mE (List.map vK cur)) q) :: Shs vF cur :: cel b1 #[.map (some m4)] 179 :: blk m4 (.map (mE (List.map bK ns1)) q1) :: L) w ∧ (k2 ≤ ss.length) ∧ (VOk cur q) ∧ (∀ z, vw cur z = half (inB ns1) (vw xs1) (List.take k2 ss) z) ∧ (ss.length - k2) = kM) ((List.length ss) - 0) ⟨0, xs1, rfl, hS, (Nat.zero_le _), (hV1), (fun z => by simp [half]), rfl⟩ ?_
      clear hS; rintro _ _ w j ⟨k2, cur, rfl, hS, hk2, hV, hD, rfl⟩
      refine WC.seq ?_
      refine WC.region ?_
      have hsl := i64s_len ss; have hssl : ss.length ≤ 4096 := by rw [hK.perm.length_eq, List.length_map]; exact hV1.num
      refine WL.r 1 rfl ?_
      refine WL.nil ?_
      refine WC.seq ?_
      refine WC.ifP rfl (fun cd1 => ?_) (fun cd1 => ?_)
      · refine WC.skip ?_
        refine WC.seq ?_
        refine WC.block ?_
        refine WC.seq ?_
        refine WC.region ?_
        obtain ⟨n, hn⟩ : ∃ u, ss[k2]? = some u := ⟨_, List.getElem?_eq_getElem (by omega)⟩; obtain ⟨hnk, j, y, hj, hyn, hy1⟩ := half_at hK hn hD; have huc := hV.uniq
        refine WL.ix rfl rfl (i := (k2 : Int)) (k2) el_33 rfl rfl (by omega) (by omega) (hS.rdO 0 rfl (i64s_at hn)).1 ?_
        refine WL.run 2 [.int .i64 n] rfl (by exact (hS.rdO 0 rfl (i64s_at hn)).2 0 _ rfl) ?_
        refine WL.nil ?_
        refine WC.seq ?_
        refine WC.region ?_
        refine WL.run 5 [.map (some m)] rfl (by exact hS.ld 1 rfl rfl) ?_
        refine WL.lk rfl rfl mt_159 2 hS rfl rfl rfl (by first | trivial | rfl) (r := some (j, .agg #[.bool y.live, .slice y.a (i64s y.ab).length y.c])) (hyn ▸ v_in hj huc) rfl ?_
        refine WL.new rfl rfl zv_167 hS (fun b2 w hS => ?_)
        refine WL.stF rfl rfl rfl 0 hS rfl rfl rfl rfl rfl ag_167 (fun w hS => ?_)
        replace hS : St g (cel b2 #[.bool y.live, .slice y.a (List.length (i64s y.ab)) y.c] 167 :: Own 3 1 (i64s ss) a1 c1 :: cel p #[.int .i64 cap, .int .i64 last, .map (some m)] 161 :: blk m (.map (mE (List.map vK cur)) q) :: Shs vF cur :: cel b1 #[.map (some m4)] 179 :: blk m4 (.map (mE (List.map bK ns1)) q1) :: L) w := hS
        refine WL.nil ?_
        as_aux_lemma =>
          refine WC.seq ?_
          refine WC.seq ?_
          refine WC.region ?_
          refine WL.r 2 rfl ?_
          refine WL.callV (bs := [.pointer (some ⟨b1, 0, none⟩)]) rfl rfl rfl (forgot_spec (k := n) (b := b1) (m2 := m4) (q2 := q1) (ns := ns1) (hu := (by assumption)) (hS := (hS.sel 7 [5, 5, 0, 0, 0, 0, 0] rfl))) rfl ?_
          clear hS; rintro _ w ⟨rfl, hS, f3⟩
          replace hS : St g (cel b1 #[.map (some m4)] 179 :: blk m4 (.map (mE (List.map bK ns1)) q1) :: cel b2 #[.bool y.live, .slice y.a (List.length (i64s y.ab)) y.c] 167 :: Own 3 1 (i64s ss) a1 c1 :: cel p #[.int .i64 cap, .int .i64 last, .map (some m)] 161 :: blk m (.map (mE (List.map vK cur)) q) :: Shs vF cur :: L) w := hS
          refine WL.nil ?_
          refine WC.if_ rfl (fun cd2 => ?_) (fun cd2 => ?_)
          · refine WC.seq ?_
            refine WC.region ?_
            refine WL.run 5 [.map (some m)] rfl (by exact hS.ld 4 rfl rfl) ?_
            refine WL.del rfl rfl mt_159 5 hS rfl rfl rfl (by first | trivial | rfl) (j := j) (v := (vV y)) (hyn ▸ v_in hj huc) (by rw [List.length_map]; exact (List.getElem?_eq_some_iff.1 hj).1) (fun w hS => ?_)
            replace hS : St g (cel b1 #[.map (some m4)] 179 :: blk m4 (.map (mE (List.map bK ns1)) q1) :: cel b2 #[.bool y.live, .slice y.a (List.length (i64s y.ab)) y.c] 167 :: Own 3 1 (i64s ss) a1 c1 :: cel p #[.int .i64 cap, .int .i64 last, .map (some m)] 161 :: blk m (.map (mE (List.eraseIdx (List.map vK cur) j)) q) :: Shs vF cur :: L) w := hS
            refine WL.nil ?_
            refine WC.exit ?_
            refine WC.region ?_
            refine WL.r 1 rfl ?_
            refine WL.nw 63 rfl (w64 (by omega)) ?_
            refine WL.r 1 rfl ?_
            refine WL.nil ?_
            rw [show (List.map vK cur).eraseIdx j = List.map vK (cur.eraseIdx j) by simp [List.eraseIdx_eq_take_drop_succ]] at hS
            replace hS := (St.shsSub (zs' := cur.eraseIdx j) (hS.at_ 6 rfl) (fun z hz => (List.eraseIdx_sublist cur j).subset hz)).sel 7 [4, 4, 4, 0, 0, 0] rfl
            replace hS : St g (Own 3 1 (i64s ss) a1 c1 :: cel p #[.int .i64 cap, .int .i64 last, .map (some m)] 161 :: blk m (.map (mE (List.map vK (List.eraseIdx cur j))) q) :: Shs vF (List.eraseIdx cur j) :: cel b1 #[.map (some m4)] 179 :: blk m4 (.map (mE (List.map bK ns1)) q1) :: L) w := hS
            exact ⟨_, by omega, k2 + 1, List.eraseIdx cur j, rfl, hS, (by omega), (hV.rem j), (half_del huc hj hyn hn hD (by simpa using cd2)), rfl⟩
          · refine WC.skip ?_
            refine WC.seq ?_
            refine WC.region ?_
            have hyl : y.ab.length ≤ 4096 := by have h9 := hG1.lenA n; rw [ab_vw, hy1] at h9; exact h9
            have hye : y.ab ≠ [] := fun e => by have h9 := hG1.gf.self n _ _ hy1; rw [e] at h9; cases h9
            replace hS : St g (Sh 3 1 (i64s y.ab) y.a y.c :: cel b1 #[.map (some m4)] 179 :: blk m4 (.map (mE (List.map bK ns1)) q1) :: cel b2 #[.bool y.live, .slice y.a (List.length (i64s y.ab)) y.c] 167 :: Own 3 1 (i64s ss) a1 c1 :: cel p #[.int .i64 cap, .int .i64 last, .map (some m)] 161 :: blk m (.map (mE (List.map vK cur)) q) :: Shs vF cur :: L) w := hS.shsGet 6 rfl (List.mem_of_getElem? hj)
            refine WL.run 2 [.slice y.a (List.length (i64s y.ab)) y.c] rfl (by exact hS.ld 3 rfl rfl) ?_
            refine WL.call rfl rfl (clone_sh (ls := y.ab) (a := y.a) (c := y.c) (hl := (by omega)) (hS := hS)) rfl ?_
            clear hS; rintro _ w ⟨a2, c2, rfl, hS⟩
            replace hS : St g (Own 3 1 (i64s y.ab) a2 c2 :: Sh 3 1 (i64s y.ab) y.a y.c :: cel b1 #[.map (some m4)] 179 :: blk m4 (.map (mE (List.map bK ns1)) q1) :: cel b2 #[.bool y.live, .slice y.a (List.length (i64s y.ab)) y.c] 167 :: Own 3 1 (i64s ss) a1 c1 :: cel p #[.int .i64 cap, .int .i64 last, .map (some m)] 161 :: blk m (.map (mE (List.map vK cur)) q) :: Shs vF cur :: L) w := hS
            refine WL.r 1 rfl ?_
            refine WL.call rfl rfl (del_spec (ls := y.ab) (a := a2) (c := c2) (b := b1) (m2 := m4) (q2 := q1) (ns := ns1) (hu := (by assumption)) (hne := hye) (hl := (by omega)) (hS := (hS.sel 4 [0, 1, 1, 0] rfl))) rfl ?_
            clear hS; rintro _ w ⟨rfl, hS⟩
            replace hS : St g (Own 3 1 (i64s (List.filter (inB ns1) y.ab)) a2 c2 :: cel b1 #[.map (some m4)] 179 :: blk m4 (.map (mE (List.map bK ns1)) q1) :: Sh 3 1 (i64s y.ab) y.a y.c :: cel b2 #[.bool y.live, .slice y.a (List.length (i64s y.ab)) y.c] 167 :: Own 3 1 (i64s ss) a1 c1 :: cel p #[.int .i64 cap, .int .i64 last, .map (some m)] 161 :: blk m (.map (mE (List.map vK cur)) q) :: Shs vF cur :: L) w := hS
            refine WL.r 1 rfl ?_
            refine WL.st rfl rfl rfl 4 hS rfl rfl rfl rfl rfl rfl (fun w hS => ?_)
            replace hS : St g (Own 3 1 (i64s (List.filter (inB ns1) y.ab)) a2 c2 :: cel b1 #[.map (some m4)] 179 :: blk m4 (.map (mE (List.map bK ns1)) q1) :: Sh 3 1 (i64s y.ab) y.a y.c :: cel b2 #[.bool y.live, .slice a2 (List.length (i64s (List.filter (inB ns1) y.ab))) c2] 167 :: Own 3 1 (i64s ss) a1 c1 :: cel p #[.int .i64 cap, .int .i64 last, .map (some m)] 161 :: blk m (.map (mE (List.map vK cur)) q) :: Shs vF cur :: L) w := hS
            refine WL.nil ?_
            as_aux_lemma =>
              refine WC.plan [([0, 4, 1, 2, 3], some (5, [0, 1, 2, 3, 4])), ([], some (6, []))] (by kernel_rfl) (by kernel_rfl) ?_
              refine WQ.run 5 [.map (some m)] rfl (by exact hS.ld 6 rfl rfl) ?_
              refine WQ.nil ?_
              intro m5
              replace hS := hS.drewN m5; generalize hwm5 : World.drewN _ _ = w at *; clear hwm5
              refine WL.ldF rfl rfl 4 hS rfl rfl ag_167 ?_
              refine WL.nil ?_
              refine ⟨by exact ⟨RQ.pure rfl rfl rfl rfl, RQ.pure rfl rfl rfl rfl, RQ.pure rfl rfl rfl rfl, RQ.load rfl rfl rfl rfl (hS.ld 6 rfl rfl), RQ.pure rfl rfl rfl rfl⟩, ?_⟩
              refine WQ.nil ?_
              intro m6
              replace hS := hS.drewN m6; generalize hwm6 : World.drewN _ _ = w at *; clear hwm6
              refine WL.muR (List.map vK (List.set cur j (VN.mk n y.live (List.filter (inB ns1) y.ab) a2 c2 y.born))) rfl rfl rfl mt_159 7 hS rfl (k := .int .i64 n) (v := .agg #[.bool y.live, .slice a2 (List.length (i64s (List.filter (inB ns1) y.ab))) c2]) rfl rfl rfl (by first | trivial | rfl) (j := j) (u := (vV y)) (hyn ▸ v_in hj huc) (by rw [List.getElem?_map, hj, ← hyn]; rfl) (List.map_set (f := vK) (l := cur) (i := j) (a := VN.mk n y.live (List.filter (inB ns1) y.ab) a2 c2 y.born)).symm (fun w hS => ?_)
              replace hS : St g (Own 3 1 (i64s (List.filter (inB ns1) y.ab)) a2 c2 :: cel b1 #[.map (some m4)] 179 :: blk m4 (.map (mE (List.map bK ns1)) q1) :: Sh 3 1 (i64s y.ab) y.a y.c :: cel b2 #[.bool y.live, .slice a2 (List.length (i64s (List.filter (inB ns1) y.ab))) c2] 167 :: Own 3 1 (i64s ss) a1 c1 :: cel p #[.int .i64 cap, .int .i64 last, .map (some m)] 161 :: blk m (.map (mE (List.map vK (List.set cur j (VN.mk n y.live (List.filter (inB ns1) y.ab) a2 c2 y.born)))) q) :: Shs vF cur :: L) w := hS
              refine WL.nil ?_
              refine ⟨by exact trivial, ?_⟩
              intro m7
              replace hS := hS.drewN m7; generalize hwm7 : World.drewN _ _ = w at *; clear hwm7
              refine WC.region ?_
              refine WL.r 1 rfl ?_
              refine WL.nw 63 rfl (w64 (by omega)) ?_
              refine WL.r 1 rfl ?_
              refine WL.nil ?_
              replace hS := (St.shsSub (zs' := cur.set j (VN.mk n y.live (List.filter (inB ns1) y.ab) a2 c2 y.born)) (St.shsCons (hS.share.sel 9 [8, 0, 0, 0, 2, 2, 2] rfl) (z := (VN.mk n y.live (List.filter (inB ns1) y.ab) a2 c2 y.born)) (vF_sh _) [0] rfl) (fun z hz => by
                rcases (set_mem huc hj z).1 hz with rfl | h
                · exact List.mem_cons_self ..
                · exact List.mem_cons_of_mem _ h.1)).sel 7 [4, 4, 4, 0, 1, 1] rfl
              replace hS : St g (Own 3 1 (i64s ss) a1 c1 :: cel p #[.int .i64 cap, .int .i64 last, .map (some m)] 161 :: blk m (.map (mE (List.map vK (List.set cur j (VN.mk n y.live (List.filter (inB ns1) y.ab) a2 c2 y.born)))) q) :: Shs vF (List.set cur j (VN.mk n y.live (List.filter (inB ns1) y.ab) a2 c2 y.born)) :: cel b1 #[.map (some m4)] 179 :: blk m4 (.map (mE (List.map bK ns1)) q1) :: L) w := hS
              exact ⟨_, by omega, k2 + 1, List.set cur j (VN.mk n y.live (List.filter (inB ns1) y.ab) a2 c2 y.born), rfl, hS, (by omega), (hV.set hj hyn.symm rfl), (half_set huc hj hyn hn hD (by simpa using cd2) hnk hyn.symm rfl rfl), rfl⟩
      · refine WC.exit ?_
        refine WC.seq ?_
        refine WC.region ?_
        have hD2 : ∀ z, vw cur z = keep (inB ns1) (vw xs1) z := fun z => by rw [hD, List.take_of_length_le (by omega), half_end hK]
        refine WL.r 1 rfl ?_
        refine WL.nil ?_
        refine WC.ret ?_
        refine ⟨[.int .i64 0], rfl, ?_⟩
        replace hS := (hS.sel 6 [1, 1, 1] rfl)
        exact ⟨_, rfl, hS, GF.gok (by rw [funext hD2]; exact hG1.gf.keep _) hV, xs1, inB ns1, hv1, f2, hD2⟩
end Go.Proofs.Ytlnlnebibgdjdaa
