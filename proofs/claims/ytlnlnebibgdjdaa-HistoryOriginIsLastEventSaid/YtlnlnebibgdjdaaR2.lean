/-
  Arenas: a reference given up.
  Conditions: counts are numbers of references.
-/
import Derived.Test.YtlnlnebibgdjdaaR1
import Derived.Test.YtlnlnebibgdjdaaTra
namespace Go.Proofs.Ytlnlnebibgdjdaa
open Go Go.V

/-- an arena of which some slots became free -/
structure Shr (A B : AM) : Prop where
  ok : ∀ j, 0 ≤ j → B.s.ok j = true → A.s.ok j = true ∧ B.nd j = A.nd j
  cap : B.s.used.length = A.s.used.length
  gen : B.s.gen = A.s.gen
theorem Shr.refl (A : AM) : Shr A A := ⟨fun _ _ h => ⟨h, rfl⟩, rfl, rfl⟩
theorem Shr.dec {A B : AM} (h : Shr A B) (k : Int) : Shr A (B.dec k) := ⟨h.ok, h.cap, h.gen⟩
theorem Shr.free {A B : AM} {k : Int} (h : Shr A B) (hB : AWf B) (hk : B.s.ok k = true) (h0 : 0 ≤ k) : Shr A (B.freed k) := ⟨fun j hj hjk => by
  rw [AM.freed_ok hB.s hk h0 j hj] at hjk
  split at hjk
  · cases hjk
  · rename_i e
    have h1 := h.ok j hj hjk
    refine ⟨h1.1, ?_⟩
    unfold AM.freed
    rw [AM.nd_set (by rw [hB.nl]; exact (SM.ok_rng hB.s h0 hk).2.2.2) h0 hj, if_neg e]
    exact h1.2, by rw [← h.cap]; exact List.length_set, h.gen⟩
theorem last_split {W : List Int} {k : Int} (h : W[W.length - 1]? = some k) : W = W.take (W.length - 1) ++ [k] := by
  have hl := (List.getElem?_eq_some_iff.1 h).1
  have h1 := List.take_append_drop (W.length - 1) W
  rw [List.drop_eq_getElem_cons hl, (List.getElem?_eq_some_iff.1 h).2, List.drop_of_length_le (by omega)] at h1
  exact h1.symm
theorem push_ok {B : AM} {R T : List Int} {l r : Int} (h : ARf B (l :: r :: (T ++ R))) : ARf B ((T ++ (if r ≠ 0 then [r] else []) ++ (if l ≠ 0 then [l] else [])) ++ R) := by
  have pr : (r :: (T ++ R)).Perm ((T ++ [r]) ++ R) := by simpa using (List.perm_middle (a := r) (l₁ := T) (l₂ := R)).symm
  have pl : (l :: (T ++ R)).Perm ((T ++ [l]) ++ R) := by simpa using (List.perm_middle (a := l) (l₁ := T) (l₂ := R)).symm
  by_cases hl : l = 0
  · by_cases hr : r = 0
    · subst hl; subst hr; simpa using h.tail0.tail0
    · subst hl
      have h1 := h.tail0.perm pr
      simpa [hr] using h1
  · by_cases hr : r = 0
    · subst hr
      have h0 : ARf B (0 :: l :: (T ++ R)) := h.perm (List.Perm.swap _ _ _)
      have h1 := h0.tail0.perm pl
      simpa [hl] using h1
    · have p2 : (l :: ((T ++ [r]) ++ R)).Perm (((T ++ [r]) ++ [l]) ++ R) := by simpa using (List.perm_middle (a := l) (l₁ := T ++ [r]) (l₂ := R)).symm
      have h1 := h.perm ((List.Perm.cons l pr).trans p2)
      simpa [hl, hr] using h1
theorem all_app {p : Int → Prop} {T : List Int} {r : Int} (h : ∀ x ∈ T, p x) (hr : p r) : ∀ x ∈ T ++ [r], p x := fun x hx => by
  rcases List.mem_append.1 hx with hx | hx
  · exact h x hx
  · rw [List.mem_singleton.1 hx]; exact hr
set_option maxHeartbeats 2000000 in
set_option maxRecDepth 8192 in
theorem ar_release_ok {g w : World} {L : List HP} (a : Nat) (A : AM) (R : List Int) (i : Int) (hA : ARf A (i :: R)) (hi : 1 ≤ i ∧ i < 4294967296) (hR : R.length ≤ 900000000) (hS : St g (Arn a A :: L) w) :
    Sp Try.prog 21 [.pointer (some ⟨a, 0, none⟩), .int .u32 i] w (fun v w' => ∃ (A2 : AM) (f : Int), v = .tuple #[.int .i64 f, .int .i64 0] ∧ St g (Arn a A2 :: L) w' ∧ (ARf A2 R) ∧ (Shr A A2) ∧ (f = A2.s.free - A.s.free)) := by
  refine Sp.enter Try.func21 rfl (by kernel_rfl) (by kernel_rfl) ?_
  have _ := hR
  have _ := hi
  refine WC.seq ?_
  refine WC.region ?_
  have hir := (hA.ref i (List.mem_cons_self ..)).resolve_left (by omega)
  refine WL.r 2 rfl ?_
  refine WL.nil ?_
  refine WC.seq ?_
  refine WC.seq ?_
  refine WC.region ?_
  refine WL.r 2 rfl ?_
  refine WL.nil ?_
  refine WC.ifF rfl (decide_eq_false ((by omega))) ?_
  refine WC.skip ?_
  refine WC.seq ?_
  refine WC.seq ?_
  refine WC.region ?_
  obtain ⟨⟨p, na, nc, ca, cc, rd⟩, hS⟩ := St.exOpen (f := arnF a A) hS; have hAs := hA.s; have hcp := hAs.cap; have hnl := hA.nl; have hcl := hA.cl; have hbn := nds_len A.nodes; have hbc := i64s_len A.cnt
  replace hS : St g (cel a #[.pointer (some ⟨p, 0, none⟩), .slice na (List.length (nds A.nodes)) nc, .slice ca (List.length (i64s A.cnt)) cc, .int .u64 rd] 106 :: Slt p A.s :: Own 123 8 (nds A.nodes) na nc :: Own 3 1 (i64s A.cnt) ca cc :: L) w := hS
  refine WL.run 5 [.pointer (some ⟨p, 0, none⟩)] rfl (by exact hS.ld 0 rfl rfl) ?_
  refine WL.call rfl rfl (sl_ok (s := p) (S := A.s) (i := i) (hl := (by first | assumption | exact SOk.le (by assumption))) (hi := (by omega)) (hS := (hS.sel 2 [1, 0] rfl))) rfl ?_
  clear hS; rintro _ w ⟨rfl, hS⟩
  replace hS : St g (Slt p A.s :: cel a #[.pointer (some ⟨p, 0, none⟩), .slice na (List.length (nds A.nodes)) nc, .slice ca (List.length (i64s A.cnt)) cc, .int .u64 rd] 106 :: Own 123 8 (nds A.nodes) na nc :: Own 3 1 (i64s A.cnt) ca cc :: L) w := hS
  refine WL.r 1 rfl ?_
  refine WL.nil ?_
  refine WC.ifF rfl (by rw [hir.2]; decide) ?_
  refine WC.skip ?_
  as_aux_lemma =>
    refine WC.seq ?_
    refine WC.region ?_
    refine WL.r 1 rfl ?_
    refine WL.nil ?_
    refine WC.seq ?_
    refine WC.region ?_
    refine WL.r 1 rfl ?_
    refine WL.lit rfl rfl (u32s [i]) el_54 hS (by exact ⟨rfl, rfl⟩) (u32s_ok _) rfl (by decide) (fun b1 w hS => ?_)
    refine WL.r 1 rfl ?_
    refine WL.nil ?_
    refine WC.seq ?_
    refine WC.block ?_
    refine WC.loop [0, 4, 5, 6, 7] (fun kM vs w => ∃ (W : List Int) (B : AM) (fr : Int) (u : Option Addr) (d : Nat), vs = [.pointer (some ⟨a, 0, none⟩), .int .i64 0, .int .i64 0, .int .i64 fr, .slice u (List.length (u32s W)) d] ∧ St g (Own 40 1 (u32s W) u d :: Slt p B.s :: cel a #[.pointer (some ⟨p, 0, none⟩), .slice na (List.length (nds A.nodes)) nc, .slice ca (List.length (i64s A.cnt)) cc, .int .u64 rd] 106 :: Own 123 8 (nds B.nodes) na nc :: Own 3 1 (i64s B.cnt) ca cc :: L) w ∧ (∀ x ∈ W, 1 ≤ x ∧ x < 4294967296) ∧ (ARf B (W ++ R)) ∧ (Shr A B) ∧ (fr = B.s.free - A.s.free) ∧ (W.length + B.live.length ≤ 65600) ∧ (2 * B.live.length + W.length) = kM) (2 * (List.length A.live) + (List.length [i])) ⟨[i], A, 0, some ⟨b1, 0, none⟩, 1, rfl, hS, (by simp; omega), (by exact hA), (Shr.refl A), (by omega), (by have := A.live_len; simp; omega), rfl⟩ ?_
    clear hS; rintro _ _ w j ⟨W, B, fr, u, d, rfl, hS, hW, hB, hSh, hf, hlen, rfl⟩
    refine WC.seq ?_
    refine WC.seq ?_
    refine WC.region ?_
    refine WL.r 3 rfl ?_
    refine WL.nil ?_
    refine WC.ifP rfl (fun cd1 => ?_) (fun cd1 => ?_)
    · refine WC.skip ?_
      refine WC.block ?_
      refine WC.seq ?_
      refine WC.region ?_
      have hfB := hB.s.free_rng; have hfA := hA.s.free_rng; have hWl := u32s_len W; obtain ⟨k, hk⟩ : ∃ k, W[W.length - 1]? = some k := ⟨_, List.getElem?_eq_getElem (by omega)⟩; have hk1 := hW k (List.mem_of_getElem? hk); have hsp := last_split hk; have hkR := (hB.ref k (List.mem_append_left _ (List.mem_of_getElem? hk))).resolve_left (by omega); have hkr := SM.ok_rng hB.s (by omega) hkR.2; have hle := hB.cnt_le hkR.2 (by omega); obtain ⟨c, hc⟩ : ∃ c, B.cnt[k.toNat]? = some c := ⟨_, List.getElem?_eq_getElem (by rw [hB.cl]; omega)⟩; obtain ⟨nd, hnd⟩ : ∃ nd, B.nodes[k.toNat]? = some nd := ⟨_, List.getElem?_eq_getElem (by rw [hB.nl]; omega)⟩; have hbc2 := i64s_len B.cnt; have hbn2 := nds_len B.nodes; have e1 := hB.cl; have e2 := hB.nl; have e3 := hSh.cap; have hce : B.cntOf k = c := by unfold AM.cntOf; rw [hc]; rfl
      have hpk : ARf B (k :: (W.take (W.length - 1) ++ R)) := hB.perm (by rw [hsp]; simp); have hTl : ∀ x ∈ W.take (W.length - 1), 1 ≤ x ∧ x < 4294967296 := (fun x hx => hW x (List.mem_of_mem_take hx)); have hTn : (W.take (W.length - 1)).length = W.length - 1 := by simp
      refine WL.r 4 rfl ?_
      refine WL.nw 27 rfl (w64 (by omega)) ?_
      refine WL.ix rfl rfl (i := (List.length (u32s W) : Int) - 1) (W.length - 1) el_54 rfl rfl (by omega) (by omega) (hS.rdO 0 rfl (u32s_at hk)).1 ?_
      refine WL.run 2 [.int .u32 k] rfl (by exact (hS.rdO 0 rfl (u32s_at hk)).2 0 _ rfl) ?_
      refine WL.nil ?_
      as_aux_lemma =>
        refine WC.seq ?_
        refine WC.region ?_
        refine WL.r 4 rfl ?_
        refine WL.nw 33 rfl (w64 (by omega)) ?_
        refine WL.slOwn rfl rfl (v := (List.length (u32s W) : Int) - 1) 0 (W.length - 1) (u32s (W.take (W.length - 1))) el_54 hS rfl rfl rfl (by omega) (by omega) (u32s_take _ _) (fun hS => ?_)
        replace hS : St g (Own 40 1 (u32s (W.take ((List.length W) - 1))) u d :: Slt p B.s :: cel a #[.pointer (some ⟨p, 0, none⟩), .slice na (List.length (nds A.nodes)) nc, .slice ca (List.length (i64s A.cnt)) cc, .int .u64 rd] 106 :: Own 123 8 (nds B.nodes) na nc :: Own 3 1 (i64s B.cnt) ca cc :: L) w := hS
        refine WL.r 1 rfl ?_
        refine WL.nil ?_
        refine WC.seq ?_
        refine WC.region ?_
        refine WL.run 5 [.slice ca (List.length (i64s A.cnt)) cc] rfl (by exact hS.ld 2 rfl rfl) ?_
        refine WL.ix rfl rfl (i := k) (k.toNat) el_33 rfl rfl (by omega) (by omega) (hS.rdO 4 rfl (i64s_at hc)).1 ?_
        refine WL.run 2 [.int .i64 c] rfl (by exact (hS.rdO 4 rfl (i64s_at hc)).2 0 _ rfl) ?_
        refine WL.nw 42 rfl (w64 (by omega)) ?_
        refine WL.ix rfl rfl (i := k) (k.toNat) el_33 rfl rfl (by omega) (by omega) (hS.rdO 4 rfl (i64s_at hc)).1 ?_
        refine WL.stE rfl rfl rfl 4 (k.toNat) 0 [.int .i64 c] (i64s (B.cnt.set k.toNat (c - 1))) hS rfl (i64s_at hc) rfl rfl rfl rfl rfl (i64s_set _ _ _) (fun w hS => ?_)
        replace hS : St g (Own 40 1 (u32s (W.take ((List.length W) - 1))) u d :: Slt p B.s :: cel a #[.pointer (some ⟨p, 0, none⟩), .slice na (List.length (nds A.nodes)) nc, .slice ca (List.length (i64s A.cnt)) cc, .int .u64 rd] 106 :: Own 123 8 (nds B.nodes) na nc :: Own 3 1 (i64s (B.cnt.set k.toNat (c - 1))) ca cc :: L) w := hS
        refine WL.nil ?_
        refine WC.seq ?_
        refine WC.seq ?_
        refine WC.region ?_
        have hdk : B.dec k = AM.mk B.s B.nodes (B.cnt.set k.toNat (c - 1)) := (by unfold AM.dec; rw [hce, w64 (by omega)])
        refine WL.run 5 [.slice ca (List.length (i64s A.cnt)) cc] rfl (by exact hS.ld 2 rfl rfl) ?_
        have hc2 : (B.cnt.set k.toNat (c - 1))[k.toNat]? = some (c - 1) := by rw [List.getElem?_set, if_pos rfl, if_pos (by omega)]
        refine WL.ix rfl rfl (i := k) (k.toNat) el_33 rfl rfl (by omega) (by omega) (hS.rdO 4 rfl (i64s_at hc2)).1 ?_
        refine WL.run 2 [.int .i64 (c - 1)] rfl (by exact (hS.rdO 4 rfl (i64s_at hc2)).2 0 _ rfl) ?_
        refine WL.nil ?_
        as_aux_lemma =>
          refine WC.ifP rfl (fun cd2 => ?_) (fun cd2 => ?_)
          · refine WC.exit ?_
            exact ⟨_, (by first | (simp only [List.length_append, List.length_singleton]; omega) | omega | (show 2 * B.live.length + _ < _; omega)), W.take (W.length - 1), AM.mk B.s B.nodes (B.cnt.set k.toNat (c - 1)), fr, u, d, rfl, hS, (hTl), (by rw [← hdk]; exact hpk.dec hkR.2 (by omega) (by omega)), (by rw [← hdk]; exact hSh.dec k), (hf), (by show (W.take (W.length - 1)).length + B.live.length ≤ 65600; omega), rfl⟩
          · refine WC.skip ?_
            refine WC.seq ?_
            refine WC.region ?_
            refine WL.run 5 [.slice na (List.length (nds A.nodes)) nc] rfl (by exact hS.ld 2 rfl rfl) ?_
            refine WL.ix rfl rfl (i := k) (k.toNat) el_104 rfl rfl (by omega) (by omega) (hS.rdO 3 rfl (nds_at hnd)).1 ?_
            refine WL.ldC rfl rfl [.int .i64 nd.key, .int .i64 nd.val, .int .u32 nd.lf, .int .u32 nd.rg, .int .i64 nd.size, .int .i64 nd.sum, .int .i64 nd.mn, .int .i64 nd.mx] ag_123 rfl (hS.rdO 3 rfl (nds_at hnd)).2 ?_
            refine WL.new rfl rfl zv_123 hS (fun b2 w hS => ?_)
            refine WL.stF rfl rfl rfl 0 hS rfl rfl rfl rfl rfl ag_123 (fun w hS => ?_)
            replace hS : St g (cel b2 #[.int .i64 nd.key, .int .i64 nd.val, .int .u32 nd.lf, .int .u32 nd.rg, .int .i64 nd.size, .int .i64 nd.sum, .int .i64 nd.mn, .int .i64 nd.mx] 123 :: Own 40 1 (u32s (W.take ((List.length W) - 1))) u d :: Slt p B.s :: cel a #[.pointer (some ⟨p, 0, none⟩), .slice na (List.length (nds A.nodes)) nc, .slice ca (List.length (i64s A.cnt)) cc, .int .u64 rd] 106 :: Own 123 8 (nds B.nodes) na nc :: Own 3 1 (i64s (B.cnt.set k.toNat (c - 1))) ca cc :: L) w := hS
            refine WL.nil ?_
            refine WC.seq ?_
            refine WC.region ?_
            refine WL.run 5 [.slice na (List.length (nds A.nodes)) nc] rfl (by exact hS.ld 3 rfl rfl) ?_
            refine WL.build rfl rfl (cs := [.int .i64 0, .int .i64 0, .int .u32 0, .int .u32 0, .int .i64 0, .int .i64 0, .int .i64 0, .int .i64 0]) zv_123 rfl rfl ?_
            refine WL.ix rfl rfl (i := k) (k.toNat) el_104 rfl rfl (by omega) (by omega) (hS.rdO 4 rfl (nds_at hnd)).1 ?_
            refine WL.stS rfl rfl rfl 4 (k.toNat) [.int .i64 nd.key, .int .i64 nd.val, .int .u32 nd.lf, .int .u32 nd.rg, .int .i64 nd.size, .int .i64 nd.sum, .int .i64 nd.mn, .int .i64 nd.mx] (nds (B.nodes.set k.toNat Nd.zero)) hS rfl (nds_at hnd) rfl rfl rfl rfl ag_123 (nds_set _ _ Nd.zero) (fun w hS => ?_)
            replace hS : St g (cel b2 #[.int .i64 nd.key, .int .i64 nd.val, .int .u32 nd.lf, .int .u32 nd.rg, .int .i64 nd.size, .int .i64 nd.sum, .int .i64 nd.mn, .int .i64 nd.mx] 123 :: Own 40 1 (u32s (W.take ((List.length W) - 1))) u d :: Slt p B.s :: cel a #[.pointer (some ⟨p, 0, none⟩), .slice na (List.length (nds A.nodes)) nc, .slice ca (List.length (i64s A.cnt)) cc, .int .u64 rd] 106 :: Own 123 8 (nds (B.nodes.set k.toNat Nd.zero)) na nc :: Own 3 1 (i64s (B.cnt.set k.toNat (c - 1))) ca cc :: L) w := hS
            refine WL.nil ?_
            refine WC.seq ?_
            refine WC.region ?_
            refine WL.run 5 [.pointer (some ⟨p, 0, none⟩)] rfl (by exact hS.ld 3 rfl rfl) ?_
            refine WL.call rfl rfl (sl_release_ok (s := p) (S := B.s) (i := k) (hO := hB.s) (hi := (by omega)) (hn := hkR.2) (hS := (hS.sel 3 [2, 0, 0] rfl))) rfl ?_
            clear hS; rintro _ w ⟨rfl, hS⟩
            replace hS : St g (Slt p (B.s.release k) :: cel b2 #[.int .i64 nd.key, .int .i64 nd.val, .int .u32 nd.lf, .int .u32 nd.rg, .int .i64 nd.size, .int .i64 nd.sum, .int .i64 nd.mn, .int .i64 nd.mx] 123 :: Own 40 1 (u32s (W.take ((List.length W) - 1))) u d :: cel a #[.pointer (some ⟨p, 0, none⟩), .slice na (List.length (nds A.nodes)) nc, .slice ca (List.length (i64s A.cnt)) cc, .int .u64 rd] 106 :: Own 123 8 (nds (B.nodes.set k.toNat Nd.zero)) na nc :: Own 3 1 (i64s (B.cnt.set k.toNat (c - 1))) ca cc :: L) w := hS
            refine WL.nil ?_
            as_aux_lemma =>
              refine WC.seq ?_
              refine WC.region ?_
              refine WL.r 2 rfl ?_
              refine WL.nw 73 rfl (w64 (by omega)) ?_
              refine WL.r 1 rfl ?_
              refine WL.nil ?_
              refine WC.seq ?_
              refine WC.seq ?_
              refine WC.region ?_
              have hfk : B.freed k = AM.mk (B.s.release k) (B.nodes.set k.toNat Nd.zero) (B.cnt.set k.toNat (c - 1)) := (by unfold AM.freed; rw [hce, w64 (by omega)]); have hne : B.nd k = nd := (by unfold AM.nd; rw [hnd]; rfl); have hB2 := hpk.free hkR.2 (by omega) (by omega) (by rw [List.length_append, hTn]; omega); have hS2 := hSh.free hB.toAWf hkR.2 (by omega); have hlv := (live_perm hkR.2 (by omega) (AM.freed_ok hB.s hkR.2 (by omega))).length_eq; rw [List.length_cons] at hlv; have hfe : (B.freed k).s.free = B.s.free + 1 := SM.release_free k; rw [hne] at hB2; rw [hfk] at hB2 hS2 hlv hfe; have hrr := hB2.rng (r := nd.rg) (by simp); have hll := hB2.rng (r := nd.lf) (by simp); have hpp := push_ok hB2
              refine WL.run 3 [.int .u32 nd.rg] rfl (by exact hS.ld 1 rfl rfl) ?_
              refine WL.nil ?_
              refine WC.ifP rfl (fun cd3 => ?_) (fun cd3 => ?_)
              · refine WC.region ?_
                refine WL.run 3 [.int .u32 nd.rg] rfl (by exact hS.ld 1 rfl rfl) ?_
                refine WL.lit rfl rfl (u32s [nd.rg]) el_54 hS (by exact ⟨rfl, rfl⟩) (u32s_ok _) rfl (by decide) (fun b3 w hS => ?_)
                refine WL.app rfl rfl 3 (u32s ((W.take ((List.length W) - 1)) ++ [nd.rg])) el_54 hS rfl (hS.srcO 0 rfl) (u32s_app _ _).symm (Rm.of (by first | omega | (simp <;> omega)) (by decide)) rfl rfl (fun a2 c1 w hS => ?_)
                replace hS : St g (Own 40 1 (u32s [nd.rg]) (some ⟨b3, 0, none⟩) (List.length (u32s [nd.rg])) :: Slt p (B.s.release k) :: cel b2 #[.int .i64 nd.key, .int .i64 nd.val, .int .u32 nd.lf, .int .u32 nd.rg, .int .i64 nd.size, .int .i64 nd.sum, .int .i64 nd.mn, .int .i64 nd.mx] 123 :: Own 40 1 (u32s ((W.take ((List.length W) - 1)) ++ [nd.rg])) a2 c1 :: cel a #[.pointer (some ⟨p, 0, none⟩), .slice na (List.length (nds A.nodes)) nc, .slice ca (List.length (i64s A.cnt)) cc, .int .u64 rd] 106 :: Own 123 8 (nds (B.nodes.set k.toNat Nd.zero)) na nc :: Own 3 1 (i64s (B.cnt.set k.toNat (c - 1))) ca cc :: L) w := hS
                refine WL.r 1 rfl ?_
                refine WL.nil ?_
                refine WC.seq ?_
                refine WC.region ?_
                refine WL.run 3 [.int .u32 nd.lf] rfl (by exact hS.ld 2 rfl rfl) ?_
                refine WL.nil ?_
                refine WC.ifP rfl (fun cd4 => ?_) (fun cd4 => ?_)
                · refine WC.region ?_
                  refine WL.run 3 [.int .u32 nd.lf] rfl (by exact hS.ld 2 rfl rfl) ?_
                  refine WL.lit rfl rfl (u32s [nd.lf]) el_54 hS (by exact ⟨rfl, rfl⟩) (u32s_ok _) rfl (by decide) (fun b4 w hS => ?_)
                  refine WL.app rfl rfl 4 (u32s (((W.take ((List.length W) - 1)) ++ [nd.rg]) ++ [nd.lf])) el_54 hS rfl (hS.srcO 0 rfl) (u32s_app _ _).symm (Rm.of (by first | omega | (simp <;> omega)) (by decide)) rfl rfl (fun a3 c2 w hS => ?_)
                  replace hS : St g (Own 40 1 (u32s [nd.lf]) (some ⟨b4, 0, none⟩) (List.length (u32s [nd.lf])) :: Own 40 1 (u32s [nd.rg]) (some ⟨b3, 0, none⟩) (List.length (u32s [nd.rg])) :: Slt p (B.s.release k) :: cel b2 #[.int .i64 nd.key, .int .i64 nd.val, .int .u32 nd.lf, .int .u32 nd.rg, .int .i64 nd.size, .int .i64 nd.sum, .int .i64 nd.mn, .int .i64 nd.mx] 123 :: Own 40 1 (u32s (((W.take ((List.length W) - 1)) ++ [nd.rg]) ++ [nd.lf])) a3 c2 :: cel a #[.pointer (some ⟨p, 0, none⟩), .slice na (List.length (nds A.nodes)) nc, .slice ca (List.length (i64s A.cnt)) cc, .int .u64 rd] 106 :: Own 123 8 (nds (B.nodes.set k.toNat Nd.zero)) na nc :: Own 3 1 (i64s (B.cnt.set k.toNat (c - 1))) ca cc :: L) w := hS
                  refine WL.r 1 rfl ?_
                  refine WL.nil ?_
                  exact ⟨_, (by first | (simp only [List.length_append, List.length_singleton]; omega) | omega | (show 2 * B.live.length + _ < _; omega)), W.take (W.length - 1) ++ [nd.rg] ++ [nd.lf], AM.mk (B.s.release k) (B.nodes.set k.toNat Nd.zero) (B.cnt.set k.toNat (c - 1)), fr + 1, a3, c2, rfl, (hS.sel 5 [4, 2] rfl), (all_app (all_app hTl (by omega)) (by omega)), (by simpa [cd3, cd4] using hpp), (hS2), (by rw [hfe]; omega), (by simp only [List.length_append, List.length_singleton]; omega), rfl⟩
                · refine WC.skip ?_
                  exact ⟨_, (by first | (simp only [List.length_append, List.length_singleton]; omega) | omega | (show 2 * B.live.length + _ < _; omega)), W.take (W.length - 1) ++ [nd.rg], AM.mk (B.s.release k) (B.nodes.set k.toNat Nd.zero) (B.cnt.set k.toNat (c - 1)), fr + 1, a2, c1, rfl, (hS.sel 4 [3, 1] rfl), (all_app hTl (by omega)), (by simpa [cd3, cd4] using hpp), (hS2), (by rw [hfe]; omega), (by simp only [List.length_append, List.length_singleton]; omega), rfl⟩
              · refine WC.skip ?_
                refine WC.seq ?_
                refine WC.region ?_
                refine WL.run 3 [.int .u32 nd.lf] rfl (by exact hS.ld 1 rfl rfl) ?_
                refine WL.nil ?_
                refine WC.ifP rfl (fun cd4 => ?_) (fun cd4 => ?_)
                · refine WC.region ?_
                  refine WL.run 3 [.int .u32 nd.lf] rfl (by exact hS.ld 1 rfl rfl) ?_
                  refine WL.lit rfl rfl (u32s [nd.lf]) el_54 hS (by exact ⟨rfl, rfl⟩) (u32s_ok _) rfl (by decide) (fun b3 w hS => ?_)
                  refine WL.app rfl rfl 3 (u32s ((W.take ((List.length W) - 1)) ++ [nd.lf])) el_54 hS rfl (hS.srcO 0 rfl) (u32s_app _ _).symm (Rm.of (by first | omega | (simp <;> omega)) (by decide)) rfl rfl (fun a2 c1 w hS => ?_)
                  replace hS : St g (Own 40 1 (u32s [nd.lf]) (some ⟨b3, 0, none⟩) (List.length (u32s [nd.lf])) :: Slt p (B.s.release k) :: cel b2 #[.int .i64 nd.key, .int .i64 nd.val, .int .u32 nd.lf, .int .u32 nd.rg, .int .i64 nd.size, .int .i64 nd.sum, .int .i64 nd.mn, .int .i64 nd.mx] 123 :: Own 40 1 (u32s ((W.take ((List.length W) - 1)) ++ [nd.lf])) a2 c1 :: cel a #[.pointer (some ⟨p, 0, none⟩), .slice na (List.length (nds A.nodes)) nc, .slice ca (List.length (i64s A.cnt)) cc, .int .u64 rd] 106 :: Own 123 8 (nds (B.nodes.set k.toNat Nd.zero)) na nc :: Own 3 1 (i64s (B.cnt.set k.toNat (c - 1))) ca cc :: L) w := hS
                  refine WL.r 1 rfl ?_
                  refine WL.nil ?_
                  exact ⟨_, (by first | (simp only [List.length_append, List.length_singleton]; omega) | omega | (show 2 * B.live.length + _ < _; omega)), W.take (W.length - 1) ++ [nd.lf], AM.mk (B.s.release k) (B.nodes.set k.toNat Nd.zero) (B.cnt.set k.toNat (c - 1)), fr + 1, a2, c1, rfl, (hS.sel 4 [3, 1] rfl), (all_app hTl (by omega)), (by simpa [cd3, cd4] using hpp), (hS2), (by rw [hfe]; omega), (by simp only [List.length_append, List.length_singleton]; omega), rfl⟩
                · refine WC.skip ?_
                  exact ⟨_, (by first | (simp only [List.length_append, List.length_singleton]; omega) | omega | (show 2 * B.live.length + _ < _; omega)), W.take (W.length - 1), AM.mk (B.s.release k) (B.nodes.set k.toNat Nd.zero) (B.cnt.set k.toNat (c - 1)), fr + 1, u, d, rfl, (hS.sel 3 [2, 0] rfl), (hTl), (by simpa [cd3, cd4] using hpp), (hS2), (by rw [hfe]; omega), (by omega), rfl⟩
    · refine WC.exit ?_
      refine WC.seq ?_
      refine WC.region ?_
      refine WL.r 3 rfl ?_
      refine WL.nil ?_
      as_aux_lemma =>
        refine WC.ret ?_
        have hWn : W = [] := List.length_eq_zero_iff.1 (by rw [u32s_len] at cd1; omega)
        subst hWn
        have eN : (nds B.nodes).length = (nds A.nodes).length := by rw [nds_len, nds_len, hB.nl, hnl, hSh.cap]
        have eC : (i64s B.cnt).length = (i64s A.cnt).length := by rw [i64s_len, i64s_len, hB.cl, hcl, hSh.cap]
        replace hS := St.exClose (f := arnF a B) ⟨p, na, nc, ca, cc, rd⟩ (by unfold arnF; rw [eN, eC]; exact hS.sel 5 [2, 1, 1, 1] rfl)
        replace hS : St g (Arn a B :: L) w := hS
        refine ⟨[.int .i64 fr, .int .i64 0], ⟨rfl, rfl⟩, ?_⟩
        exact ⟨B, _, rfl, hS, hB, hSh, hf⟩
end Go.Proofs.Ytlnlnebibgdjdaa
