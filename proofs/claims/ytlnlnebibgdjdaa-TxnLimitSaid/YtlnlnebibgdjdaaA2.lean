/-
  The graph: Base.
  Conditions: the lists ascend.
-/
import Derived.Test.YtlnlnebibgdjdaaA1
import Derived.Test.YtlnlnebibgdjdaaAga
namespace Go.Proofs.Ytlnlnebibgdjdaa
open Go Go.V

set_option maxHeartbeats 1000000 in
set_option maxRecDepth 8192 in
theorem base_in {g w : World} {L : List HP} (p m : Nat) (cap last : Int) (xs : List VN) (q : Nat) (k1 k2 : Nat) (x y : VN) (hx : xs[k1]? = some x) (hy : xs[k2]? = some y) (hu : VUq xs) (hlx : x.live = true) (hly : y.live = true) (hax : Asc x.ab) (hay : Asc y.ab) (hbx : x.ab.length ≤ 1000000) (hby : y.ab.length ≤ 1000000) (hS : St g (cel p #[.int .i64 cap, .int .i64 last, .map (some m)] 161 :: blk m (.map (mE (List.map vK xs)) q) :: Shs vF xs :: L) w) :
    Sp Try.prog 126 [.pointer (some ⟨p, 0, none⟩), .int .i64 x.n, .int .i64 y.n] w (fun v w' => v = .int .i64 (gcm x.ab y.ab) ∧ St g (cel p #[.int .i64 cap, .int .i64 last, .map (some m)] 161 :: blk m (.map (mE (List.map vK xs)) q) :: Shs vF xs :: L) w') := by
  refine Sp.enter Try.func126 rfl (by kernel_rfl) (by kernel_rfl) ?_
  have _ := hby
  have _ := hbx
  refine WC.seq ?_
  refine WC.region ?_
  refine WL.r 1 rfl ?_
  refine WL.nil ?_
  refine WC.seq ?_
  refine WC.seq ?_
  refine WC.region ?_
  refine WL.r 2 rfl ?_
  refine WL.call rfl rfl (live_in (p := p) (m := m) (cap := cap) (last := last) (xs := xs) (q := q) (k := k1) (x := x) (hx := hx) (hu := hu) (hS := hS)) rfl ?_
  clear hS; rintro _ w ⟨rfl, hS⟩
  replace hS : St g (cel p #[.int .i64 cap, .int .i64 last, .map (some m)] 161 :: blk m (.map (mE (List.map vK xs)) q) :: Shs vF xs :: L) w := hS
  refine WL.r 1 rfl ?_
  refine WL.r 1 rfl ?_
  refine WL.reb 15 (.bool false) (congrArg Value.bool (Bool.eq_false_iff.2 ((by rw [hlx]; decide)))) ?_
  refine WL.ung rfl rfl rfl ?_
  refine WL.r 1 rfl ?_
  refine WL.ung rfl rfl rfl ?_
  refine WL.r 1 rfl ?_
  refine WL.ung rfl rfl rfl ?_
  refine WL.call rfl rfl (live_in (p := p) (m := m) (cap := cap) (last := last) (xs := xs) (q := q) (k := k2) (x := y) (hx := hy) (hu := hu) (hS := hS)) rfl ?_
  clear hS; rintro _ w ⟨rfl, hS⟩
  replace hS : St g (cel p #[.int .i64 cap, .int .i64 last, .map (some m)] 161 :: blk m (.map (mE (List.map vK xs)) q) :: Shs vF xs :: L) w := hS
  refine WL.ung rfl rfl rfl ?_
  refine WL.r 1 rfl ?_
  refine WL.r 1 rfl ?_
  refine WL.nil ?_
  as_aux_lemma =>
    refine WC.ifF rfl (by rw [hly]; rfl) ?_
    refine WC.skip ?_
    refine WC.seq ?_
    refine WC.plan [([0, 4, 7, 11, 1, 8, 2, 9, 3, 10, 5, 12, 6, 13, 14, 15], none)] (by kernel_rfl) (by kernel_rfl) ?_
    replace hS : St g (Sh 3 1 (i64s x.ab) x.a x.c :: cel p #[.int .i64 cap, .int .i64 last, .map (some m)] 161 :: blk m (.map (mE (List.map vK xs)) q) :: Shs vF xs :: L) w := hS.shsGet 2 rfl (List.mem_of_getElem? hx)
    replace hS : St g (Sh 3 1 (i64s y.ab) y.a y.c :: Sh 3 1 (i64s x.ab) x.a x.c :: cel p #[.int .i64 cap, .int .i64 last, .map (some m)] 161 :: blk m (.map (mE (List.map vK xs)) q) :: Shs vF xs :: L) w := hS.shsGet 3 rfl (List.mem_of_getElem? hy)
    refine WQ.run 10 [.map (some m), .map (some m)] rfl (by exact ⟨hS.ld 2 rfl rfl, hS.ld 2 rfl rfl⟩) ?_
    refine WQ.lk rfl rfl mt_159 3 hS rfl rfl rfl (by first | trivial | rfl) (r := some (k1, .agg #[.bool x.live, .slice x.a (i64s x.ab).length x.c])) (v_in hx hu) rfl ?_
    refine WQ.lk rfl rfl mt_159 3 hS rfl rfl rfl (by first | trivial | rfl) (r := some (k2, .agg #[.bool y.live, .slice y.a (i64s y.ab).length y.c])) (v_in hy hu) rfl ?_
    refine WQ.r 4 rfl ?_
    refine WQ.nil ?_
    intro m1
    replace hS := hS.drewN m1; generalize hwm1 : World.drewN _ _ = w at *; clear hwm1
    refine WC.seq ?_
    refine WC.seq ?_
    refine WC.region ?_
    have h1l := i64s_len x.ab; have h2l := i64s_len y.ab
    refine WL.r 3 rfl ?_
    refine WL.nw 37 rfl (w64 (by omega)) ?_
    refine WL.r 3 rfl ?_
    refine WL.nw 40 rfl (w64 (by omega)) ?_
    refine WL.r 2 rfl ?_
    refine WL.nil ?_
    refine WC.block ?_
    refine WC.loop [7, 8, 9, 10] (fun kM vs w => ∃ (ni nj : Nat), vs = [.slice x.a (List.length (i64s x.ab)) x.c, .slice y.a (List.length (i64s y.ab)) y.c, .int .i64 ((ni : Int) - 1), .int .i64 ((nj : Int) - 1)] ∧ St g (Sh 3 1 (i64s y.ab) y.a y.c :: Sh 3 1 (i64s x.ab) x.a x.c :: cel p #[.int .i64 cap, .int .i64 last, .map (some m)] 161 :: blk m (.map (mE (List.map vK xs)) q) :: Shs vF xs :: L) w ∧ (ni ≤ x.ab.length) ∧ (nj ≤ y.ab.length) ∧ (∀ z ∈ x.ab, z ∈ y.ab → z ∈ List.take ni x.ab ∧ z ∈ List.take nj y.ab) ∧ (ni + nj) = kM) ((List.length (i64s x.ab)) + (List.length (i64s y.ab))) ⟨(i64s x.ab).length, (i64s y.ab).length, rfl, hS, (Nat.le_of_eq h1l), (Nat.le_of_eq h2l), (fun z h1 h2 => ⟨by rw [h1l, List.take_length]; exact h1, by rw [h2l, List.take_length]; exact h2⟩), rfl⟩ ?_
    clear hS; rintro _ _ w j ⟨ni, nj, rfl, hS, hi, hj, hc, rfl⟩
    refine WC.seq ?_
    refine WC.seq ?_
    refine WC.region ?_
    have h1l := i64s_len x.ab; have h2l := i64s_len y.ab
    refine WL.r 2 rfl ?_
    refine WL.rG 4 rfl (fun j => ?_)
    refine WL.prop 46 rfl (band (dd _) (dd _)) ?_
    refine WL.nil ?_
    as_aux_lemma =>
      refine WC.ifP rfl (fun cd1 => ?_) (fun cd1 => ?_)
      · refine WC.skip ?_
        refine WC.block ?_
        refine WC.block ?_
        refine WC.seq ?_
        refine WC.plan [([0, 1, 4, 5, 2, 6, 3, 7, 8, 9], none)] (by kernel_rfl) (by kernel_rfl) ?_
        obtain ⟨u, hu1⟩ : ∃ u, x.ab[ni - 1]? = some u := ⟨_, List.getElem?_eq_getElem (by omega)⟩; obtain ⟨v, hv1⟩ : ∃ v, y.ab[nj - 1]? = some v := ⟨_, List.getElem?_eq_getElem (by omega)⟩
        have ei : ni - 1 + 1 = ni := by omega
        have ej : nj - 1 + 1 = nj := by omega
        refine WQ.r 4 rfl ?_
        refine WQ.ix rfl rfl (i := (ni : Int) - 1) (ni - 1) el_33 rfl rfl (by omega) (by omega) (hS.rdS 1 rfl (i64s_at hu1)).1 ?_
        refine WQ.ix rfl rfl (i := (nj : Int) - 1) (nj - 1) el_33 rfl rfl (by omega) (by omega) (hS.rdS 0 rfl (i64s_at hv1)).1 ?_
        refine WQ.run 4 [.int .i64 u, .int .i64 v] rfl (by exact ⟨(hS.rdS 1 rfl (i64s_at hu1)).2 0 _ rfl, (hS.rdS 0 rfl (i64s_at hv1)).2 0 _ rfl⟩) ?_
        refine WQ.nil ?_
        intro m2
        replace hS := hS.drewN m2; generalize hwm2 : World.drewN _ _ = w at *; clear hwm2
        refine WC.ifP rfl (fun cd2 => ?_) (fun cd2 => ?_)
        · refine WC.seq ?_
          refine WC.region ?_
          refine WL.r 2 rfl ?_
          refine WL.ix rfl rfl (i := (ni : Int) - 1) (ni - 1) el_33 rfl rfl (by omega) (by omega) (hS.rdS 1 rfl (i64s_at hu1)).1 ?_
          refine WL.run 2 [.int .i64 u] rfl (by exact (hS.rdS 1 rfl (i64s_at hu1)).2 0 _ rfl) ?_
          refine WL.nil ?_
          refine WC.ret ?_
          refine ⟨[.int .i64 u], rfl, ?_⟩
          replace hS := (hS.sel 2 [] rfl)
          exact ⟨congrArg (Value.int .i64) (gcm_is hax (List.mem_of_getElem? hu1) (by rw [cd2]; exact List.mem_of_getElem? hv1) (fun z h1 h2 => take_le hax hu1 (by rw [ei]; exact (hc z h1 h2).1))).symm, hS⟩
        · refine WC.seq ?_
          refine WC.plan [([0, 1, 4, 5, 2, 6, 3, 7, 8, 9], none)] (by kernel_rfl) (by kernel_rfl) ?_
          refine WQ.r 4 rfl ?_
          refine WQ.ix rfl rfl (i := (ni : Int) - 1) (ni - 1) el_33 rfl rfl (by omega) (by omega) (hS.rdS 1 rfl (i64s_at hu1)).1 ?_
          refine WQ.ix rfl rfl (i := (nj : Int) - 1) (nj - 1) el_33 rfl rfl (by omega) (by omega) (hS.rdS 0 rfl (i64s_at hv1)).1 ?_
          refine WQ.run 4 [.int .i64 u, .int .i64 v] rfl (by exact ⟨(hS.rdS 1 rfl (i64s_at hu1)).2 0 _ rfl, (hS.rdS 0 rfl (i64s_at hv1)).2 0 _ rfl⟩) ?_
          refine WQ.nil ?_
          intro m3
          replace hS := hS.drewN m3; generalize hwm3 : World.drewN _ _ = w at *; clear hwm3
          as_aux_lemma =>
            refine WC.ifP rfl (fun cd3 => ?_) (fun cd3 => ?_)
            · refine WC.region ?_
              refine WL.r 2 rfl ?_
              refine WL.reb 74 (.int .i64 (((ni - 1 : Nat) : Int) - 1)) (congrArg (Value.int .i64) (by rw [w64 (by omega)]; omega)) ?_
              refine WL.r 1 rfl ?_
              refine WL.nil ?_
              exact ⟨_, by omega, ni - 1, nj, rfl, hS, (by omega), (by omega), (fun z h1 h2 => ⟨take_drop1 hu1 (by rw [ei]; exact (hc z h1 h2).1) (fun e => by have := take_le hay hv1 (by rw [ej]; exact (hc z h1 h2).2); omega), (hc z h1 h2).2⟩), rfl⟩
            · refine WC.region ?_
              refine WL.r 2 rfl ?_
              refine WL.reb 48 (.int .i64 (((nj - 1 : Nat) : Int) - 1)) (congrArg (Value.int .i64) (by rw [w64 (by omega)]; omega)) ?_
              refine WL.r 1 rfl ?_
              refine WL.nil ?_
              exact ⟨_, by omega, ni, nj - 1, rfl, hS, (by omega), (by omega), (fun z h1 h2 => ⟨(hc z h1 h2).1, take_drop1 hv1 (by rw [ej]; exact (hc z h1 h2).2) (fun e => by have := take_le hax hu1 (by rw [ei]; exact (hc z h1 h2).1); omega)⟩), rfl⟩
      · refine WC.exit ?_
        refine WC.seq ?_
        refine WC.region ?_
        refine WL.r 1 rfl ?_
        refine WL.nil ?_
        refine WC.ret ?_
        refine ⟨[.int .i64 0], rfl, ?_⟩
        replace hS := (hS.sel 2 [] rfl)
        exact ⟨congrArg (Value.int .i64) (gcm_no (fun z h1 h2 => by
        have h3 := hc z h1 h2
        rcases Nat.eq_zero_or_pos ni with h4 | h4
        · rw [h4, List.take_zero] at h3; cases h3.1
        · rcases Nat.eq_zero_or_pos nj with h5 | h5
          · rw [h5, List.take_zero] at h3; cases h3.2
          · omega)).symm, hS⟩
theorem base_no1 {g w : World} {L : List HP} (p m : Nat) (cap last : Int) (xs : List VN) (q : Nat) (n1 n2 : Int) (hu : VUq xs) (hl : liveG xs n1 = false) (hS : St g (cel p #[.int .i64 cap, .int .i64 last, .map (some m)] 161 :: blk m (.map (mE (List.map vK xs)) q) :: Shs vF xs :: L) w) :
    Sp Try.prog 126 [.pointer (some ⟨p, 0, none⟩), .int .i64 n1, .int .i64 n2] w (fun v w' => v = .int .i64 0 ∧ St g (cel p #[.int .i64 cap, .int .i64 last, .map (some m)] 161 :: blk m (.map (mE (List.map vK xs)) q) :: Shs vF xs :: L) w') := by
  refine Sp.enter Try.func126 rfl (by kernel_rfl) (by kernel_rfl) ?_
  have _ := hu
  refine WC.seq ?_
  refine WC.region ?_
  refine WL.r 1 rfl ?_
  refine WL.nil ?_
  refine WC.seq ?_
  refine WC.seq ?_
  refine WC.region ?_
  refine WL.r 2 rfl ?_
  refine WL.call rfl rfl (live_spec (p := p) (m := m) (cap := cap) (last := last) (xs := xs) (q := q) (n := n1) (hu := (by first | assumption | exact (GI.ok (by assumption)).uniq)) (hS := hS)) rfl ?_
  clear hS; rintro _ w ⟨rfl, hS⟩
  replace hS : St g (cel p #[.int .i64 cap, .int .i64 last, .map (some m)] 161 :: blk m (.map (mE (List.map vK xs)) q) :: Shs vF xs :: L) w := hS
  refine WL.r 1 rfl ?_
  refine WL.r 1 rfl ?_
  refine WL.reb 15 (.bool true) (congrArg Value.bool ((by rw [hl]; rfl))) ?_
  refine WL.skp rfl rfl rfl rfl ?_
  refine WL.skp rfl rfl rfl rfl ?_
  refine WL.skp rfl rfl rfl rfl ?_
  refine WL.skp rfl rfl rfl rfl ?_
  refine WL.r 1 rfl ?_
  refine WL.nil ?_
  refine WC.ifT rfl rfl ?_
  refine WC.seq ?_
  refine WC.region ?_
  refine WL.r 1 rfl ?_
  refine WL.nil ?_
  as_aux_lemma =>
    refine WC.ret ?_
    refine ⟨[.int .i64 0], rfl, ?_⟩
    exact ⟨rfl, hS⟩
theorem base_no2 {g w : World} {L : List HP} (p m : Nat) (cap last : Int) (xs : List VN) (q : Nat) (n1 n2 : Int) (hu : VUq xs) (hl1 : liveG xs n1 = true) (hl : liveG xs n2 = false) (hS : St g (cel p #[.int .i64 cap, .int .i64 last, .map (some m)] 161 :: blk m (.map (mE (List.map vK xs)) q) :: Shs vF xs :: L) w) :
    Sp Try.prog 126 [.pointer (some ⟨p, 0, none⟩), .int .i64 n1, .int .i64 n2] w (fun v w' => v = .int .i64 0 ∧ St g (cel p #[.int .i64 cap, .int .i64 last, .map (some m)] 161 :: blk m (.map (mE (List.map vK xs)) q) :: Shs vF xs :: L) w') := by
  refine Sp.enter Try.func126 rfl (by kernel_rfl) (by kernel_rfl) ?_
  have _ := hu
  refine WC.seq ?_
  refine WC.region ?_
  refine WL.r 1 rfl ?_
  refine WL.nil ?_
  refine WC.seq ?_
  refine WC.seq ?_
  refine WC.region ?_
  refine WL.r 2 rfl ?_
  refine WL.call rfl rfl (live_spec (p := p) (m := m) (cap := cap) (last := last) (xs := xs) (q := q) (n := n1) (hu := (by first | assumption | exact (GI.ok (by assumption)).uniq)) (hS := hS)) rfl ?_
  clear hS; rintro _ w ⟨rfl, hS⟩
  replace hS : St g (cel p #[.int .i64 cap, .int .i64 last, .map (some m)] 161 :: blk m (.map (mE (List.map vK xs)) q) :: Shs vF xs :: L) w := hS
  refine WL.r 1 rfl ?_
  refine WL.r 1 rfl ?_
  refine WL.reb 15 (.bool false) (congrArg Value.bool (Bool.eq_false_iff.2 ((by rw [hl1]; decide)))) ?_
  refine WL.ung rfl rfl rfl ?_
  refine WL.r 1 rfl ?_
  refine WL.ung rfl rfl rfl ?_
  refine WL.r 1 rfl ?_
  refine WL.ung rfl rfl rfl ?_
  refine WL.call rfl rfl (live_spec (p := p) (m := m) (cap := cap) (last := last) (xs := xs) (q := q) (n := n2) (hu := (by first | assumption | exact (GI.ok (by assumption)).uniq)) (hS := hS)) rfl ?_
  clear hS; rintro _ w ⟨rfl, hS⟩
  replace hS : St g (cel p #[.int .i64 cap, .int .i64 last, .map (some m)] 161 :: blk m (.map (mE (List.map vK xs)) q) :: Shs vF xs :: L) w := hS
  refine WL.ung rfl rfl rfl ?_
  refine WL.r 1 rfl ?_
  refine WL.r 1 rfl ?_
  refine WL.nil ?_
  as_aux_lemma =>
    refine WC.ifT rfl (by rw [hl]; rfl) ?_
    refine WC.seq ?_
    refine WC.region ?_
    refine WL.r 1 rfl ?_
    refine WL.nil ?_
    refine WC.ret ?_
    refine ⟨[.int .i64 0], rfl, ?_⟩
    exact ⟨rfl, hS⟩
theorem base_spec {g w : World} {L : List HP} (p m : Nat) (cap last : Int) (xs : List VN) (q : Nat) (n1 n2 : Int) (hG : GOk xs q) (hS : St g (cel p #[.int .i64 cap, .int .i64 last, .map (some m)] 161 :: blk m (.map (mE (List.map vK xs)) q) :: Shs vF xs :: L) w) :
    Sp Try.prog 126 [.pointer (some ⟨p, 0, none⟩), .int .i64 n1, .int .i64 n2] w (fun v w' => v = .int .i64 (baseG xs n1 n2) ∧ St g (cel p #[.int .i64 cap, .int .i64 last, .map (some m)] 161 :: blk m (.map (mE (List.map vK xs)) q) :: Shs vF xs :: L) w') := by
  cases h1 : liveG xs n1 with
  | false =>
    rw [baseG, if_neg (fun h => by rw [h1] at h; cases h.1)]
    exact base_no1 p m cap last xs q n1 n2 hG.uniq h1 hS
  | true =>
    cases h2 : liveG xs n2 with
    | false =>
      rw [baseG, if_neg (fun h => by rw [h2] at h; cases h.2)]
      exact base_no2 p m cap last xs q n1 n2 hG.uniq h1 h2 hS
    | true =>
      rw [baseG, if_pos ⟨h1, h2⟩]
      rcases v_cases xs n1 with ⟨k1, x, hx, rfl⟩ | hn
      · rcases v_cases xs n2 with ⟨k2, y, hy, rfl⟩ | hn
        · obtain ⟨a1, _, a3⟩ := g_in (vfind_in hx hG.uniq)
          obtain ⟨b1, _, b3⟩ := g_in (vfind_in hy hG.uniq)
          rw [a3, b3]
          have l1 := hG.len (List.mem_of_getElem? hx)
          have l2 := hG.len (List.mem_of_getElem? hy)
          have l3 := hG.num
          exact base_in p m cap last xs q k1 k2 x y hx hy hG.uniq (a1 ▸ h1) (b1 ▸ h2) (hG.asc x (List.mem_of_getElem? hx)) (hG.asc y (List.mem_of_getElem? hy)) (by omega) (by omega) hS
        · rw [(g_out (vfind_out hn)).1] at h2; cases h2
      · rw [(g_out (vfind_out hn)).1] at h1; cases h1
end Go.Proofs.Ytlnlnebibgdjdaa
