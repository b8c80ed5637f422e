/-
  Arenas: Make, Node, Size.
  Conditions: the arena is one; the children are allocated.
-/
import Derived.Test.YtlnlnebibgdjdaaR2
namespace Go.Proofs.Ytlnlnebibgdjdaa
open Go Go.V

set_option maxHeartbeats 2000000 in
set_option maxRecDepth 8192 in
theorem ar_make {g w : World} {L : List HP} (a : Nat) (A : AM) (key val l r : Int) (hA : AWf A) (hK : Kd A l r) (hf : 0 < A.s.free) (hS : St g (Arn a A :: L) w) :
    Sp Try.prog 108 [.pointer (some ⟨a, 0, none⟩), .int .i64 key, .int .i64 val, .int .u32 l, .int .u32 r] w (fun v w' => v = .tuple #[.int .u32 A.s.next, .int .i64 0] ∧ St g (Arn a (A.make (A.nodeOf key val l r)) :: L) w') := by
  refine Sp.enter Try.func108 rfl (by kernel_rfl) (by kernel_rfl) ?_
  refine WC.seq ?_
  refine WC.region ?_
  refine WL.r 2 rfl ?_
  refine WL.nil ?_
  refine WC.seq ?_
  refine WC.region ?_
  obtain ⟨⟨p, na, nc, ca, cc, rd⟩, hS⟩ := St.exOpen (f := arnF a A) hS; have hAs := hA.s; have hcp := hAs.cap; have hnl := hA.nl; have hcl := hA.cl; have hbn := nds_len A.nodes; have hbc := i64s_len A.cnt
  replace hS : St g (cel a #[.pointer (some ⟨p, 0, none⟩), .slice na (List.length (nds A.nodes)) nc, .slice ca (List.length (i64s A.cnt)) cc, .int .u64 rd] 106 :: Slt p A.s :: Own 123 8 (nds A.nodes) na nc :: Own 3 1 (i64s A.cnt) ca cc :: L) w := hS
  refine WL.r 7 rfl ?_
  refine WL.build rfl rfl (cs := [.int .i64 key, .int .i64 val, .int .u32 l, .int .u32 r, .int .i64 1, .int .i64 val, .int .i64 val, .int .i64 val]) zv_123 rfl rfl ?_
  refine WL.new rfl rfl zv_123 hS (fun b1 w hS => ?_)
  refine WL.stF rfl rfl rfl 0 hS rfl rfl rfl rfl rfl ag_123 (fun w hS => ?_)
  replace hS : St g (cel b1 #[.int .i64 key, .int .i64 val, .int .u32 l, .int .u32 r, .int .i64 1, .int .i64 val, .int .i64 val, .int .i64 val] 123 :: cel a #[.pointer (some ⟨p, 0, none⟩), .slice na (List.length (nds A.nodes)) nc, .slice ca (List.length (i64s A.cnt)) cc, .int .u64 rd] 106 :: Slt p A.s :: Own 123 8 (nds A.nodes) na nc :: Own 3 1 (i64s A.cnt) ca cc :: L) w := hS
  refine WL.nil ?_
  refine WC.seq ?_
  refine WC.seq ?_
  refine WC.region ?_
  refine WL.r 2 rfl ?_
  refine WL.buildA rfl rfl (cs := [.int .u32 l, .int .u32 r]) ar_201 zv_201 rfl ?_
  refine WL.r 1 rfl ?_
  refine WL.nil ?_
  refine WC.block ?_
  refine WC.loop [0, 3, 4, 12, 28, 29] (fun kM vs w => ∃ (k : Nat) (n1 : Nd), vs = [.pointer (some ⟨a, 0, none⟩), .int .u32 l, .int .u32 r, .pointer (some ⟨b1, 0, none⟩), .agg #[.int .u32 l, .int .u32 r], .int .i64 k] ∧ St g (cel b1 #[.int .i64 n1.key, .int .i64 n1.val, .int .u32 n1.lf, .int .u32 n1.rg, .int .i64 n1.size, .int .i64 n1.sum, .int .i64 n1.mn, .int .i64 n1.mx] 123 :: cel a #[.pointer (some ⟨p, 0, none⟩), .slice na (List.length (nds A.nodes)) nc, .slice ca (List.length (i64s A.cnt)) cc, .int .u64 rd] 106 :: Slt p A.s :: Own 123 8 (nds A.nodes) na nc :: Own 3 1 (i64s A.cnt) ca cc :: L) w ∧ (k ≤ 2) ∧ (n1 = accN A l r (ndBase key val l r) k) ∧ (2 - k) = kM) (2 - 0) ⟨0, ndBase key val l r, rfl, hS, (by omega), (rfl), rfl⟩ ?_
  clear hS; rintro _ _ w j ⟨k, n1, rfl, hS, hk, hn, rfl⟩
  refine WC.seq ?_
  refine WC.region ?_
  refine WL.r 1 rfl ?_
  refine WL.nil ?_
  as_aux_lemma =>
    refine WC.seq ?_
    refine WC.ifP rfl (fun cd1 => ?_) (fun cd1 => ?_)
    · refine WC.skip ?_
      refine WC.seq ?_
      refine WC.block ?_
      refine WC.seq ?_
      refine WC.region ?_
      have hk1 : k < 2 := (by omega); have hkk := hK.at_ k; have hcz := accN_le hA hK (key := key) (val := val) (k := k) (by omega); rw [← hn] at hcz; have hce : A.s.cap = (A.s.used.length : Int) - 1 := rfl
      refine WL.ixA rfl rfl (v := k) (k) ar_201 rfl rfl (by omega) (by omega) (lr_at (l := l) (r := r) (k := k) hk1) ?_
      refine WL.r 1 rfl ?_
      refine WL.nil ?_
      refine WC.seq ?_
      refine WC.seq ?_
      refine WC.region ?_
      refine WL.r 2 rfl ?_
      refine WL.nil ?_
      refine WC.ifP rfl (fun cd2 => ?_) (fun cd2 => ?_)
      · refine WC.exit ?_
        refine WC.region ?_
        refine WL.r 1 rfl ?_
        refine WL.nw 79 rfl (w64 (by omega)) ?_
        refine WL.r 1 rfl ?_
        refine WL.nil ?_
        exact ⟨_, by omega, k + 1, n1, rfl, hS, (by omega), (by rw [accN, if_pos cd2]; exact hn), rfl⟩
      · refine WC.skip ?_
        refine WC.seq ?_
        refine WC.seq ?_
        refine WC.region ?_
        refine WL.run 5 [.pointer (some ⟨p, 0, none⟩)] rfl (by exact hS.ld 1 rfl rfl) ?_
        refine WL.call rfl rfl (sl_ok (s := p) (S := A.s) (i := lrOf l r k) (hl := (by first | assumption | exact SOk.le (by assumption))) (hi := (by have := SM.ok_rng hAs (i := lrOf l r k) (by omega) (hkk.1.resolve_left cd2).2; omega)) (hS := (hS.sel 3 [2, 0, 0] rfl))) rfl ?_
        clear hS; rintro _ w ⟨rfl, hS⟩
        replace hS : St g (Slt p A.s :: cel b1 #[.int .i64 n1.key, .int .i64 n1.val, .int .u32 n1.lf, .int .u32 n1.rg, .int .i64 n1.size, .int .i64 n1.sum, .int .i64 n1.mn, .int .i64 n1.mx] 123 :: cel a #[.pointer (some ⟨p, 0, none⟩), .slice na (List.length (nds A.nodes)) nc, .slice ca (List.length (i64s A.cnt)) cc, .int .u64 rd] 106 :: Own 123 8 (nds A.nodes) na nc :: Own 3 1 (i64s A.cnt) ca cc :: L) w := hS
        refine WL.r 1 rfl ?_
        refine WL.nil ?_
        as_aux_lemma =>
          refine WC.ifF rfl (by rw [(hkk.1.resolve_left cd2).2]; rfl) ?_
          refine WC.skip ?_
          refine WC.seq ?_
          refine WC.region ?_
          have hcr := SM.ok_rng hAs (i := lrOf l r k) (by omega) (hkk.1.resolve_left cd2).2; obtain ⟨x, hx⟩ : ∃ x, A.nodes[(lrOf l r k).toNat]? = some x := ⟨_, List.getElem?_eq_getElem (by omega)⟩; have hxe : A.nd (lrOf l r k) = x := (by unfold AM.nd; rw [hx]; rfl); have hxz : A.sz (lrOf l r k) = x.size := (by rw [sz_ok (hkk.1.resolve_left cd2).2, hxe])
          refine WL.run 5 [.slice na (List.length (nds A.nodes)) nc] rfl (by exact hS.ld 2 rfl rfl) ?_
          refine WL.ix rfl rfl (i := lrOf l r k) ((lrOf l r k).toNat) el_104 rfl rfl (by omega) (by omega) (hS.rdO 3 rfl (nds_at hx)).1 ?_
          refine WL.r 1 rfl ?_
          refine WL.nil ?_
          refine WC.seq ?_
          refine WC.plan [([0, 2, 1, 3, 4, 5, 6, 7], some (8, []))] (by kernel_rfl) (by kernel_rfl) ?_
          refine WQ.run 7 [.int .i64 n1.size, .int .i64 x.size] rfl (by exact ⟨hS.ld 1 rfl rfl, (hS.rdO 3 rfl (nds_at hx)).2 4 _ rfl⟩) ?_
          refine WQ.nw 53 rfl (w64 (by omega)) ?_
          refine WQ.r 1 rfl ?_
          refine WQ.nil ?_
          intro m1
          replace hS := hS.drewN m1; generalize hwm1 : World.drewN _ _ = w at *; clear hwm1
          refine WL.st rfl rfl rfl 1 hS rfl rfl rfl rfl rfl rfl (fun w hS => ?_)
          replace hS : St g (Slt p A.s :: cel b1 #[.int .i64 n1.key, .int .i64 n1.val, .int .u32 n1.lf, .int .u32 n1.rg, .int .i64 (n1.size + x.size), .int .i64 n1.sum, .int .i64 n1.mn, .int .i64 n1.mx] 123 :: cel a #[.pointer (some ⟨p, 0, none⟩), .slice na (List.length (nds A.nodes)) nc, .slice ca (List.length (i64s A.cnt)) cc, .int .u64 rd] 106 :: Own 123 8 (nds A.nodes) na nc :: Own 3 1 (i64s A.cnt) ca cc :: L) w := hS
          refine WL.nil ?_
          refine ⟨by exact trivial, ?_⟩
          intro m2
          replace hS := hS.drewN m2; generalize hwm2 : World.drewN _ _ = w at *; clear hwm2
          refine WC.seq ?_
          refine WC.plan [([0, 2, 1, 3, 4, 5, 6, 7], some (8, []))] (by kernel_rfl) (by kernel_rfl) ?_
          refine WQ.run 7 [.int .i64 n1.sum, .int .i64 x.sum] rfl (by exact ⟨hS.ld 1 rfl rfl, (hS.rdO 3 rfl (nds_at hx)).2 5 _ rfl⟩) ?_
          refine WQ.r 1 rfl ?_
          refine WQ.nil ?_
          intro m3
          replace hS := hS.drewN m3; generalize hwm3 : World.drewN _ _ = w at *; clear hwm3
          refine WL.st rfl rfl rfl 1 hS rfl rfl rfl rfl rfl rfl (fun w hS => ?_)
          replace hS : St g (Slt p A.s :: cel b1 #[.int .i64 n1.key, .int .i64 n1.val, .int .u32 n1.lf, .int .u32 n1.rg, .int .i64 (n1.size + x.size), .int .i64 (IntKind.i64.wrap (n1.sum + x.sum)), .int .i64 n1.mn, .int .i64 n1.mx] 123 :: cel a #[.pointer (some ⟨p, 0, none⟩), .slice na (List.length (nds A.nodes)) nc, .slice ca (List.length (i64s A.cnt)) cc, .int .u64 rd] 106 :: Own 123 8 (nds A.nodes) na nc :: Own 3 1 (i64s A.cnt) ca cc :: L) w := hS
          refine WL.nil ?_
          refine ⟨by exact trivial, ?_⟩
          intro m4
          replace hS := hS.drewN m4; generalize hwm4 : World.drewN _ _ = w at *; clear hwm4
          as_aux_lemma =>
            refine WC.seq ?_
            refine WC.plan [([0, 2, 1, 3, 4, 5, 6, 7], some (8, []))] (by kernel_rfl) (by kernel_rfl) ?_
            refine WQ.run 8 [.int .i64 n1.mn, .int .i64 x.mn] rfl (by exact ⟨hS.ld 1 rfl rfl, (hS.rdO 3 rfl (nds_at hx)).2 6 _ rfl⟩) ?_
            refine WQ.nil ?_
            intro m5
            replace hS := hS.drewN m5; generalize hwm5 : World.drewN _ _ = w at *; clear hwm5
            refine WL.st rfl rfl rfl 1 hS rfl rfl rfl rfl rfl rfl (fun w hS => ?_)
            replace hS : St g (Slt p A.s :: cel b1 #[.int .i64 n1.key, .int .i64 n1.val, .int .u32 n1.lf, .int .u32 n1.rg, .int .i64 (n1.size + x.size), .int .i64 (IntKind.i64.wrap (n1.sum + x.sum)), .int .i64 (min n1.mn x.mn), .int .i64 n1.mx] 123 :: cel a #[.pointer (some ⟨p, 0, none⟩), .slice na (List.length (nds A.nodes)) nc, .slice ca (List.length (i64s A.cnt)) cc, .int .u64 rd] 106 :: Own 123 8 (nds A.nodes) na nc :: Own 3 1 (i64s A.cnt) ca cc :: L) w := hS
            refine WL.nil ?_
            refine ⟨by exact trivial, ?_⟩
            intro m6
            replace hS := hS.drewN m6; generalize hwm6 : World.drewN _ _ = w at *; clear hwm6
            refine WC.plan [([0, 2, 1, 3, 4, 5, 6, 7], some (8, []))] (by kernel_rfl) (by kernel_rfl) ?_
            refine WQ.run 8 [.int .i64 n1.mx, .int .i64 x.mx] rfl (by exact ⟨hS.ld 1 rfl rfl, (hS.rdO 3 rfl (nds_at hx)).2 7 _ rfl⟩) ?_
            refine WQ.nil ?_
            intro m7
            replace hS := hS.drewN m7; generalize hwm7 : World.drewN _ _ = w at *; clear hwm7
            refine WL.st rfl rfl rfl 1 hS rfl rfl rfl rfl rfl rfl (fun w hS => ?_)
            replace hS : St g (Slt p A.s :: cel b1 #[.int .i64 n1.key, .int .i64 n1.val, .int .u32 n1.lf, .int .u32 n1.rg, .int .i64 (n1.size + x.size), .int .i64 (IntKind.i64.wrap (n1.sum + x.sum)), .int .i64 (min n1.mn x.mn), .int .i64 (max n1.mx x.mx)] 123 :: cel a #[.pointer (some ⟨p, 0, none⟩), .slice na (List.length (nds A.nodes)) nc, .slice ca (List.length (i64s A.cnt)) cc, .int .u64 rd] 106 :: Own 123 8 (nds A.nodes) na nc :: Own 3 1 (i64s A.cnt) ca cc :: L) w := hS
            refine WL.nil ?_
            refine ⟨by exact trivial, ?_⟩
            intro m8
            replace hS := hS.drewN m8; generalize hwm8 : World.drewN _ _ = w at *; clear hwm8
            refine WC.region ?_
            refine WL.r 1 rfl ?_
            refine WL.nw 79 rfl (w64 (by omega)) ?_
            refine WL.r 1 rfl ?_
            refine WL.nil ?_
            exact ⟨_, by omega, k + 1, ndAdd n1 x, rfl, (hS.sel 3 [1, 1, 0] rfl), (by omega), (by rw [accN, if_neg cd2, hxe, ← hn]), rfl⟩
    · refine WC.exit ?_
      refine WC.seq ?_
      refine WC.seq ?_
      refine WC.region ?_
      have hk2 : k = 2 := by omega
      have hnd : n1 = A.nodeOf key val l r := by rw [hn, hk2]; rfl
      have hnz := nodeOf_sz hA (key := key) (val := val) hK; have hzz := hK.z; rw [← hnd] at hnz
      refine WL.run 3 [.int .i64 n1.size] rfl (by exact hS.ld 0 rfl rfl) ?_
      refine WL.nil ?_
      refine WC.ifF rfl (decide_eq_false ((by omega))) ?_
      refine WC.skip ?_
      refine WC.seq ?_
      refine WC.region ?_
      refine WL.run 4 [.pointer (some ⟨p, 0, none⟩)] rfl (by exact hS.ld 1 rfl rfl) ?_
      refine WL.call rfl rfl (sl_alloc_ok (s := p) (S := A.s) (hO := (by assumption)) (hf := hf) (hS := (hS.sel 3 [2, 0, 0] rfl))) rfl ?_
      clear hS; rintro _ w ⟨rfl, hS⟩
      replace hS : St g (Slt p A.s.alloc :: cel b1 #[.int .i64 n1.key, .int .i64 n1.val, .int .u32 n1.lf, .int .u32 n1.rg, .int .i64 n1.size, .int .i64 n1.sum, .int .i64 n1.mn, .int .i64 n1.mx] 123 :: cel a #[.pointer (some ⟨p, 0, none⟩), .slice na (List.length (nds A.nodes)) nc, .slice ca (List.length (i64s A.cnt)) cc, .int .u64 rd] 106 :: Own 123 8 (nds A.nodes) na nc :: Own 3 1 (i64s A.cnt) ca cc :: L) w := hS
      refine WL.r 5 rfl ?_
      refine WL.nil ?_
      refine WC.seq ?_
      refine WC.seq ?_
      refine WC.region ?_
      refine WL.r 2 rfl ?_
      refine WL.nil ?_
      as_aux_lemma =>
        refine WC.ifF rfl (decide_eq_false ((by decide))) ?_
        refine WC.skip ?_
        refine WC.seq ?_
        refine WC.plan [([0, 4, 1, 2, 3], some (5, [0, 1, 2, 3, 4])), ([], some (6, [])), ([], some (7, []))] (by kernel_rfl) (by kernel_rfl) ?_
        have hnx := A.s.next_rng hAs hf; obtain ⟨y, hy⟩ : ∃ y, A.nodes[A.s.next.toNat]? = some y := ⟨_, List.getElem?_eq_getElem (by omega)⟩
        refine WQ.run 5 [.slice na (List.length (nds A.nodes)) nc] rfl (by exact hS.ld 2 rfl rfl) ?_
        refine WQ.nil ?_
        intro m1
        replace hS := hS.drewN m1; generalize hwm1 : World.drewN _ _ = w at *; clear hwm1
        refine WL.ldF rfl rfl 1 hS rfl rfl ag_123 ?_
        refine WL.nil ?_
        refine ⟨by exact ⟨RQ.pure rfl rfl rfl rfl, RQ.pure rfl rfl rfl rfl, RQ.pure rfl rfl rfl rfl, RQ.load rfl rfl rfl rfl (hS.ld 2 rfl rfl), RQ.pure rfl rfl rfl rfl⟩, ?_⟩
        refine WQ.nil ?_
        intro m2
        replace hS := hS.drewN m2; generalize hwm2 : World.drewN _ _ = w at *; clear hwm2
        refine WL.ix rfl rfl (i := A.s.next) (A.s.next.toNat) el_104 rfl rfl (by omega) (by omega) (hS.rdO 3 rfl (nds_at hy)).1 ?_
        refine WL.nil ?_
        refine ⟨by exact trivial, ?_⟩
        refine WQ.nil ?_
        intro m3
        replace hS := hS.drewN m3; generalize hwm3 : World.drewN _ _ = w at *; clear hwm3
        refine WL.stS rfl rfl rfl 3 (A.s.next.toNat) [.int .i64 y.key, .int .i64 y.val, .int .u32 y.lf, .int .u32 y.rg, .int .i64 y.size, .int .i64 y.sum, .int .i64 y.mn, .int .i64 y.mx] (nds (A.nodes.set A.s.next.toNat n1)) hS rfl (nds_at hy) rfl rfl rfl rfl ag_123 (nds_set _ _ n1) (fun w hS => ?_)
        replace hS : St g (Slt p A.s.alloc :: cel b1 #[.int .i64 n1.key, .int .i64 n1.val, .int .u32 n1.lf, .int .u32 n1.rg, .int .i64 n1.size, .int .i64 n1.sum, .int .i64 n1.mn, .int .i64 n1.mx] 123 :: cel a #[.pointer (some ⟨p, 0, none⟩), .slice na (List.length (nds A.nodes)) nc, .slice ca (List.length (i64s A.cnt)) cc, .int .u64 rd] 106 :: Own 123 8 (nds (A.nodes.set A.s.next.toNat n1)) na nc :: Own 3 1 (i64s A.cnt) ca cc :: L) w := hS
        refine WL.nil ?_
        refine ⟨by exact trivial, ?_⟩
        intro m4
        replace hS := hS.drewN m4; generalize hwm4 : World.drewN _ _ = w at *; clear hwm4
        as_aux_lemma =>
          refine WC.seq ?_
          refine WC.region ?_
          refine WL.run 5 [.slice ca (List.length (i64s A.cnt)) cc] rfl (by exact hS.ld 2 rfl rfl) ?_
          obtain ⟨z, hz⟩ : ∃ z, A.cnt[A.s.next.toNat]? = some z := ⟨_, List.getElem?_eq_getElem (by omega)⟩
          refine WL.ix rfl rfl (i := A.s.next) (A.s.next.toNat) el_33 rfl rfl (by omega) (by omega) (hS.rdO 4 rfl (i64s_at hz)).1 ?_
          refine WL.stE rfl rfl rfl 4 (A.s.next.toNat) 0 [.int .i64 z] (i64s (A.cnt.set A.s.next.toNat 1)) hS rfl (i64s_at hz) rfl rfl rfl rfl rfl (i64s_set _ _ _) (fun w hS => ?_)
          replace hS : St g (Slt p A.s.alloc :: cel b1 #[.int .i64 n1.key, .int .i64 n1.val, .int .u32 n1.lf, .int .u32 n1.rg, .int .i64 n1.size, .int .i64 n1.sum, .int .i64 n1.mn, .int .i64 n1.mx] 123 :: cel a #[.pointer (some ⟨p, 0, none⟩), .slice na (List.length (nds A.nodes)) nc, .slice ca (List.length (i64s A.cnt)) cc, .int .u64 rd] 106 :: Own 123 8 (nds (A.nodes.set A.s.next.toNat n1)) na nc :: Own 3 1 (i64s (A.cnt.set A.s.next.toNat 1)) ca cc :: L) w := hS
          refine WL.nil ?_
          refine WC.seq ?_
          refine WC.region ?_
          refine WL.run 5 [.slice ca (List.length (i64s A.cnt)) cc] rfl (by exact hS.ld 2 rfl rfl) ?_
          have hlr2 := hK.at_ 0; have hrr2 := hK.at_ 1; have hlR := okrng0 hA hK.cl; have hrR := okrng0 hA hK.cr; obtain ⟨z2, hz2⟩ : ∃ z, (A.cnt.set A.s.next.toNat 1)[l.toNat]? = some z := ⟨_, List.getElem?_eq_getElem (by rw [List.length_set]; omega)⟩
          refine WL.ix rfl rfl (i := l) (l.toNat) el_33 rfl rfl (by omega) (by omega) (hS.rdO 4 rfl (i64s_at hz2)).1 ?_
          refine WL.run 2 [.int .i64 z2] rfl (by exact (hS.rdO 4 rfl (i64s_at hz2)).2 0 _ rfl) ?_
          refine WL.ix rfl rfl (i := l) (l.toNat) el_33 rfl rfl (by omega) (by omega) (hS.rdO 4 rfl (i64s_at hz2)).1 ?_
          refine WL.stE rfl rfl rfl 4 (l.toNat) 0 [.int .i64 z2] (i64s ((A.cnt.set A.s.next.toNat 1).set l.toNat (IntKind.i64.wrap (z2 + 1)))) hS rfl (i64s_at hz2) rfl rfl rfl rfl rfl (i64s_set _ _ _) (fun w hS => ?_)
          replace hS : St g (Slt p A.s.alloc :: cel b1 #[.int .i64 n1.key, .int .i64 n1.val, .int .u32 n1.lf, .int .u32 n1.rg, .int .i64 n1.size, .int .i64 n1.sum, .int .i64 n1.mn, .int .i64 n1.mx] 123 :: cel a #[.pointer (some ⟨p, 0, none⟩), .slice na (List.length (nds A.nodes)) nc, .slice ca (List.length (i64s A.cnt)) cc, .int .u64 rd] 106 :: Own 123 8 (nds (A.nodes.set A.s.next.toNat n1)) na nc :: Own 3 1 (i64s ((A.cnt.set A.s.next.toNat 1).set l.toNat (IntKind.i64.wrap (z2 + 1)))) ca cc :: L) w := hS
          refine WL.nil ?_
          refine WC.seq ?_
          refine WC.region ?_
          refine WL.run 5 [.slice ca (List.length (i64s A.cnt)) cc] rfl (by exact hS.ld 2 rfl rfl) ?_
          obtain ⟨z3, hz3⟩ : ∃ z, ((A.cnt.set A.s.next.toNat 1).set l.toNat (IntKind.i64.wrap (z2 + 1)))[r.toNat]? = some z := ⟨_, List.getElem?_eq_getElem (by rw [List.length_set, List.length_set]; omega)⟩
          refine WL.ix rfl rfl (i := r) (r.toNat) el_33 rfl rfl (by omega) (by omega) (hS.rdO 4 rfl (i64s_at hz3)).1 ?_
          refine WL.run 2 [.int .i64 z3] rfl (by exact (hS.rdO 4 rfl (i64s_at hz3)).2 0 _ rfl) ?_
          refine WL.ix rfl rfl (i := r) (r.toNat) el_33 rfl rfl (by omega) (by omega) (hS.rdO 4 rfl (i64s_at hz3)).1 ?_
          refine WL.stE rfl rfl rfl 4 (r.toNat) 0 [.int .i64 z3] (i64s (((A.cnt.set A.s.next.toNat 1).set l.toNat (IntKind.i64.wrap (z2 + 1))).set r.toNat (IntKind.i64.wrap (z3 + 1)))) hS rfl (i64s_at hz3) rfl rfl rfl rfl rfl (i64s_set _ _ _) (fun w hS => ?_)
          replace hS : St g (Slt p A.s.alloc :: cel b1 #[.int .i64 n1.key, .int .i64 n1.val, .int .u32 n1.lf, .int .u32 n1.rg, .int .i64 n1.size, .int .i64 n1.sum, .int .i64 n1.mn, .int .i64 n1.mx] 123 :: cel a #[.pointer (some ⟨p, 0, none⟩), .slice na (List.length (nds A.nodes)) nc, .slice ca (List.length (i64s A.cnt)) cc, .int .u64 rd] 106 :: Own 123 8 (nds (A.nodes.set A.s.next.toNat n1)) na nc :: Own 3 1 (i64s (((A.cnt.set A.s.next.toNat 1).set l.toNat (IntKind.i64.wrap (z2 + 1))).set r.toNat (IntKind.i64.wrap (z3 + 1)))) ca cc :: L) w := hS
          refine WL.nil ?_
          as_aux_lemma =>
            refine WC.seq ?_
            refine WC.region ?_
            refine WL.r 3 rfl ?_
            refine WL.nil ?_
            refine WC.ret ?_
            have eM : A.make n1 = AM.mk A.s.alloc (A.nodes.set A.s.next.toNat n1) (((A.cnt.set A.s.next.toNat 1).set l.toNat (IntKind.i64.wrap (z2 + 1))).set r.toNat (IntKind.i64.wrap (z3 + 1))) := make_eq hz2 hz3 (by rw [hnd]; exact (accN_lf ..).1) (by rw [hnd]; exact (accN_lf ..).2.1)
            rw [hnd] at eM hS
            have eN : (nds (A.nodes.set A.s.next.toNat (A.nodeOf key val l r))).length = (nds A.nodes).length := by simp
            have eC : (i64s (((A.cnt.set A.s.next.toNat 1).set l.toNat (IntKind.i64.wrap (z2 + 1))).set r.toNat (IntKind.i64.wrap (z3 + 1)))).length = (i64s A.cnt).length := by simp
            replace hS := St.exClose (f := arnF a (A.make (A.nodeOf key val l r))) ⟨p, na, nc, ca, cc, rd⟩ (by rw [eM]; unfold arnF; simp only [eN, eC]; exact hS.sel 5 [2, 0, 1, 1] rfl)
            replace hS : St g (Arn a (A.make (A.nodeOf key val l r)) :: L) w := hS
            refine ⟨[.int .u32 A.s.next, .int .i64 0], ⟨rfl, rfl⟩, ?_⟩
            exact ⟨rfl, hS⟩
theorem ar_size {g w : World} {L : List HP} (a : Nat) (A : AM) (i : Int) (hA : AWf A) (hi : 0 ≤ i ∧ i < 4294967296) (hS : St g (Arn a A :: L) w) :
    Sp Try.prog 58 [.pointer (some ⟨a, 0, none⟩), .int .u32 i] w (fun v w' => v = .int .i64 (A.sz i) ∧ St g (Arn a A :: L) w') := by
  refine Sp.enter Try.func58 rfl (by kernel_rfl) (by kernel_rfl) ?_
  refine WC.seq ?_
  refine WC.region ?_
  refine WL.r 1 rfl ?_
  refine WL.nil ?_
  refine WC.seq ?_
  refine WC.seq ?_
  refine WC.region ?_
  obtain ⟨⟨p, na, nc, ca, cc, rd⟩, hS⟩ := St.exOpen (f := arnF a A) hS; have hAs := hA.s; have hcp := hAs.cap; have hnl := hA.nl; have hcl := hA.cl; have hbn := nds_len A.nodes; have hbc := i64s_len A.cnt
  replace hS : St g (cel a #[.pointer (some ⟨p, 0, none⟩), .slice na (List.length (nds A.nodes)) nc, .slice ca (List.length (i64s A.cnt)) cc, .int .u64 rd] 106 :: Slt p A.s :: Own 123 8 (nds A.nodes) na nc :: Own 3 1 (i64s A.cnt) ca cc :: L) w := hS
  refine WL.run 5 [.pointer (some ⟨p, 0, none⟩)] rfl (by exact hS.ld 0 rfl rfl) ?_
  refine WL.call rfl rfl (sl_ok (s := p) (S := A.s) (i := i) (hl := (by first | assumption | exact SOk.le (by assumption))) (hi := hi) (hS := (hS.sel 2 [1, 0] rfl))) rfl ?_
  clear hS; rintro _ w ⟨rfl, hS⟩
  replace hS : St g (Slt p A.s :: cel a #[.pointer (some ⟨p, 0, none⟩), .slice na (List.length (nds A.nodes)) nc, .slice ca (List.length (i64s A.cnt)) cc, .int .u64 rd] 106 :: Own 123 8 (nds A.nodes) na nc :: Own 3 1 (i64s A.cnt) ca cc :: L) w := hS
  refine WL.r 1 rfl ?_
  refine WL.nil ?_
  refine WC.if_ rfl (fun cd1 => ?_) (fun cd1 => ?_)
  · refine WC.seq ?_
    refine WC.region ?_
    refine WL.r 1 rfl ?_
    refine WL.nil ?_
    refine WC.ret ?_
    replace hS := St.exClose (f := arnF a A) ⟨p, na, nc, ca, cc, rd⟩ (by first | exact hS | exact hS.sel 4 [1, 0, 0, 0] rfl)
    replace hS : St g (Arn a A :: L) w := hS
    refine ⟨[.int .i64 0], rfl, ?_⟩
    exact ⟨congrArg (Value.int .i64) (by unfold AM.sz; rw [if_neg (by simpa using cd1)]), hS⟩
  · refine WC.skip ?_
    refine WC.seq ?_
    refine WC.region ?_
    refine WL.run 5 [.int .u64 rd] rfl (by exact hS.ld 1 rfl rfl) ?_
    refine WL.r 2 rfl ?_
    refine WL.st rfl rfl rfl 1 hS rfl rfl rfl rfl rfl rfl (fun w hS => ?_)
    replace hS : St g (Slt p A.s :: cel a #[.pointer (some ⟨p, 0, none⟩), .slice na (List.length (nds A.nodes)) nc, .slice ca (List.length (i64s A.cnt)) cc, .int .u64 (IntKind.u64.wrap (rd + 1))] 106 :: Own 123 8 (nds A.nodes) na nc :: Own 3 1 (i64s A.cnt) ca cc :: L) w := hS
    refine WL.nil ?_
    as_aux_lemma =>
      refine WC.seq ?_
      refine WC.region ?_
      refine WL.run 5 [.slice na (List.length (nds A.nodes)) nc] rfl (by exact hS.ld 1 rfl rfl) ?_
      have hio : A.s.ok i = true := (by simpa using cd1); have hir := SM.ok_rng hAs hi.1 hio; obtain ⟨x, hx⟩ : ∃ x, A.nodes[i.toNat]? = some x := ⟨_, List.getElem?_eq_getElem (by omega)⟩; have hxe : A.nd i = x := (by unfold AM.nd; rw [hx]; rfl)
      refine WL.ix rfl rfl (i := i) (i.toNat) el_104 rfl rfl (by omega) (by omega) (hS.rdO 2 rfl (nds_at hx)).1 ?_
      refine WL.run 3 [.int .i64 x.size] rfl (by exact (hS.rdO 2 rfl (nds_at hx)).2 4 _ rfl) ?_
      refine WL.nil ?_
      refine WC.ret ?_
      replace hS := St.exClose (f := arnF a A) ⟨p, na, nc, ca, cc, IntKind.u64.wrap (rd + 1)⟩ (by first | exact hS | exact hS.sel 4 [1, 0, 0, 0] rfl)
      replace hS : St g (Arn a A :: L) w := hS
      refine ⟨[.int .i64 x.size], rfl, ?_⟩
      exact ⟨congrArg (Value.int .i64) (by rw [sz_ok hio, hxe]), hS⟩
theorem ar_node {g w : World} {L : List HP} (a : Nat) (A : AM) (i : Int) (hA : AWf A) (hi : 0 ≤ i ∧ i < 4294967296) (hio : A.s.ok i = true) (hS : St g (Arn a A :: L) w) :
    Sp Try.prog 91 [.pointer (some ⟨a, 0, none⟩), .int .u32 i] w (fun v w' => v = .tuple #[.agg #[.int .i64 (A.nd i).key, .int .i64 (A.nd i).val, .int .u32 (A.nd i).lf, .int .u32 (A.nd i).rg, .int .i64 (A.nd i).size, .int .i64 (A.nd i).sum, .int .i64 (A.nd i).mn, .int .i64 (A.nd i).mx], .bool true] ∧ St g (Arn a A :: L) w') := by
  refine Sp.enter Try.func91 rfl (by kernel_rfl) (by kernel_rfl) ?_
  refine WC.seq ?_
  refine WC.region ?_
  obtain ⟨⟨p, na, nc, ca, cc, rd⟩, hS⟩ := St.exOpen (f := arnF a A) hS; have hAs := hA.s; have hcp := hAs.cap; have hnl := hA.nl; have hcl := hA.cl; have hbn := nds_len A.nodes; have hbc := i64s_len A.cnt
  replace hS : St g (cel a #[.pointer (some ⟨p, 0, none⟩), .slice na (List.length (nds A.nodes)) nc, .slice ca (List.length (i64s A.cnt)) cc, .int .u64 rd] 106 :: Slt p A.s :: Own 123 8 (nds A.nodes) na nc :: Own 3 1 (i64s A.cnt) ca cc :: L) w := hS
  refine WL.new rfl rfl zv_123 hS (fun b1 w hS => ?_)
  refine WL.r 1 rfl ?_
  refine WL.nil ?_
  refine WC.seq ?_
  refine WC.seq ?_
  refine WC.region ?_
  refine WL.run 5 [.pointer (some ⟨p, 0, none⟩)] rfl (by exact hS.ld 1 rfl rfl) ?_
  refine WL.call rfl rfl (sl_ok (s := p) (S := A.s) (i := i) (hl := (by first | assumption | exact SOk.le (by assumption))) (hi := hi) (hS := (hS.sel 3 [2, 0, 0] rfl))) rfl ?_
  clear hS; rintro _ w ⟨rfl, hS⟩
  replace hS : St g (Slt p A.s :: cel b1 #[.int .i64 0, .int .i64 0, .int .u32 0, .int .u32 0, .int .i64 0, .int .i64 0, .int .i64 0, .int .i64 0] 123 :: cel a #[.pointer (some ⟨p, 0, none⟩), .slice na (List.length (nds A.nodes)) nc, .slice ca (List.length (i64s A.cnt)) cc, .int .u64 rd] 106 :: Own 123 8 (nds A.nodes) na nc :: Own 3 1 (i64s A.cnt) ca cc :: L) w := hS
  refine WL.r 1 rfl ?_
  refine WL.nil ?_
  refine WC.ifF rfl (by rw [hio]; rfl) ?_
  refine WC.skip ?_
  refine WC.seq ?_
  refine WC.region ?_
  refine WL.run 5 [.int .u64 rd] rfl (by exact hS.ld 2 rfl rfl) ?_
  refine WL.r 2 rfl ?_
  refine WL.st rfl rfl rfl 2 hS rfl rfl rfl rfl rfl rfl (fun w hS => ?_)
  replace hS : St g (Slt p A.s :: cel b1 #[.int .i64 0, .int .i64 0, .int .u32 0, .int .u32 0, .int .i64 0, .int .i64 0, .int .i64 0, .int .i64 0] 123 :: cel a #[.pointer (some ⟨p, 0, none⟩), .slice na (List.length (nds A.nodes)) nc, .slice ca (List.length (i64s A.cnt)) cc, .int .u64 (IntKind.u64.wrap (rd + 1))] 106 :: Own 123 8 (nds A.nodes) na nc :: Own 3 1 (i64s A.cnt) ca cc :: L) w := hS
  refine WL.nil ?_
  as_aux_lemma =>
    refine WC.seq ?_
    refine WC.region ?_
    refine WL.run 5 [.slice na (List.length (nds A.nodes)) nc] rfl (by exact hS.ld 2 rfl rfl) ?_
    have hir := SM.ok_rng hAs hi.1 hio; obtain ⟨x, hx⟩ : ∃ x, A.nodes[i.toNat]? = some x := ⟨_, List.getElem?_eq_getElem (by omega)⟩; have hxe : A.nd i = x := (by unfold AM.nd; rw [hx]; rfl)
    refine WL.ix rfl rfl (i := i) (i.toNat) el_104 rfl rfl (by omega) (by omega) (hS.rdO 3 rfl (nds_at hx)).1 ?_
    refine WL.ldC rfl rfl [.int .i64 x.key, .int .i64 x.val, .int .u32 x.lf, .int .u32 x.rg, .int .i64 x.size, .int .i64 x.sum, .int .i64 x.mn, .int .i64 x.mx] ag_123 rfl (hS.rdO 3 rfl (nds_at hx)).2 ?_
    refine WL.stF rfl rfl rfl 1 hS rfl rfl rfl rfl rfl ag_123 (fun w hS => ?_)
    replace hS : St g (Slt p A.s :: cel b1 #[.int .i64 x.key, .int .i64 x.val, .int .u32 x.lf, .int .u32 x.rg, .int .i64 x.size, .int .i64 x.sum, .int .i64 x.mn, .int .i64 x.mx] 123 :: cel a #[.pointer (some ⟨p, 0, none⟩), .slice na (List.length (nds A.nodes)) nc, .slice ca (List.length (i64s A.cnt)) cc, .int .u64 (IntKind.u64.wrap (rd + 1))] 106 :: Own 123 8 (nds A.nodes) na nc :: Own 3 1 (i64s A.cnt) ca cc :: L) w := hS
    refine WL.r 1 rfl ?_
    refine WL.nil ?_
    refine WC.ret ?_
    replace hS := St.exClose (f := arnF a A) (L := cel b1 #[.int .i64 x.key, .int .i64 x.val, .int .u32 x.lf, .int .u32 x.rg, .int .i64 x.size, .int .i64 x.sum, .int .i64 x.mn, .int .i64 x.mx] 123 :: L) ⟨p, na, nc, ca, cc, IntKind.u64.wrap (rd + 1)⟩ (hS.sel 5 [2, 0, 1, 1, 0] rfl)
    replace hS : St g (Arn a A :: cel b1 #[.int .i64 x.key, .int .i64 x.val, .int .u32 x.lf, .int .u32 x.rg, .int .i64 x.size, .int .i64 x.sum, .int .i64 x.mn, .int .i64 x.mx] 123 :: L) w := hS
    refine ⟨[.agg #[.int .i64 x.key, .int .i64 x.val, .int .u32 x.lf, .int .u32 x.rg, .int .i64 x.size, .int .i64 x.sum, .int .i64 x.mn, .int .i64 x.mx], .bool true], ⟨⟨_, rfl, hS.lvF 1 rfl ag_123⟩, rfl⟩, ?_⟩
    replace hS := (hS.sel 2 [0] rfl)
    exact ⟨by rw [hxe]; rfl, hS⟩
theorem ar_rel {g w : World} {L : List HP} (a : Nat) (A : AM) (R : List Int) (i : Int) (hA : ARf A (i :: R)) (hR : R.length ≤ 900000000) (hS : St g (Arn a A :: L) w) :
    Sp Try.prog 21 [.pointer (some ⟨a, 0, none⟩), .int .u32 i] w (fun v w' => ∃ (A2 : AM) (f : Int), v = .tuple #[.int .i64 f, .int .i64 0] ∧ St g (Arn a A2 :: L) w' ∧ (ARf A2 R) ∧ (Shr A A2) ∧ (f = A2.s.free - A.s.free ∧ 0 ≤ f)) := by
  rcases hA.ref i (List.mem_cons_self ..) with rfl | ⟨h1, h2⟩
  · exact (ar_release0 a A hS).mono fun v w' ⟨hv, hS'⟩ => ⟨A, 0, hv, hS', hA.tail0, Shr.refl A, by omega, by omega⟩
  · have hr := hA.rng (List.mem_cons_self ..)
    refine (ar_release_ok a A R i hA ⟨h1, hr.2.1⟩ hR hS).mono fun v w' ⟨A2, f, hv, hS', h3, h4, h5⟩ => ⟨A2, f, hv, hS', h3, h4, h5, ?_⟩
    have e1 := AM.cnt_live hA.s
    have e2 := AM.cnt_live h3.s
    have e3 := live_sub (A := A) (B := A2) fun j h0 hj => (h4.ok j h0 hj).1
    have e4 : A.s.cap = (A.s.used.length : Int) - 1 := rfl
    have e5 : A2.s.cap = (A2.s.used.length : Int) - 1 := rfl
    have e6 := h4.cap
    omega
theorem Shr.kp {A B : AM} {R : List Int} (h : Shr A B) (hB : ARf B R) : Kp A B R := fun r hr t ht => Is.mono hB (fun j h0 hj => (h.ok j h0 hj).2) t r ht ((hB.ref r hr).imp id (·.2))
end Go.Proofs.Ytlnlnebibgdjdaa
