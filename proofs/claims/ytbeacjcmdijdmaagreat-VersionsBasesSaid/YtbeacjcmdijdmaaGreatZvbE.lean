/-
  What the proof of Jvb stands on, part 5.
  Conditions: none.
-/
import Derived.Test.YtbeacjcmdijdmaaGreatZvbD
/-! ## Qc -/
namespace Go.Proofs.YtbeacjcmdijdmaaGreat
open Go Go.V
set_option maxRecDepth 8192 in
theorem qs_num_ok {g w : World} {L : List HP} (z : RSt) (h : Int) (hz : ROk z) (hh : 0 ≤ h ∧ h ≤ 18446744073709551615) (hn : z.T.s.opn h = true) (hS : St g (Shs rsF [z] :: L) w) :
    Sp Tryz.prog 65 [.agg #[.int .i64 z.cap, .int .i64 z.T.s.cap, .slice z.ra (List.length (u32s z.T.s.rel)) z.rc, .int .i64 (z.T.s.fresh + 1), .slice z.ga (List.length (u32s (z.T.s.gen.drop 1))) z.gc, .slice z.oa (List.length (bos (z.T.s.used.drop 1))) z.oc, .slice z.va (List.length (u32s (z.T.vals.drop 1))) z.vc, .int .i64 z.cap, .slice z.pa (List.length (enP z.P)) z.pc, .slice z.ba (List.length (bos z.B)) z.bc, .slice z.la (List.length (enL z.LL)) z.lc], .int .u64 h] w (fun v w' => v = .tuple #[.int .i64 (z.T.val h), .int .i64 0] ∧ St g (Shs rsF [z] :: L) w') := by
  refine Sp.enter Tryz.func65 rfl (by kernel_rfl) (by kernel_rfl) ?_
  refine WC.seq <| WC.region <| WL.box rfl rfl #[.int .i64 z.cap, .int .i64 z.T.s.cap, .slice z.ra (List.length (u32s z.T.s.rel)) z.rc, .int .i64 (z.T.s.fresh + 1), .slice z.ga (List.length (u32s (z.T.s.gen.drop 1))) z.gc, .slice z.oa (List.length (bos (z.T.s.used.drop 1))) z.oc, .slice z.va (List.length (u32s (z.T.vals.drop 1))) z.vc, .int .i64 z.cap, .slice z.pa (List.length (enP z.P)) z.pc, .slice z.ba (List.length (bos z.B)) z.bc, .slice z.la (List.length (enL z.LL)) z.lc] hS rfl rfl (fun b1 w hS => ?_)
  refine WL.r 2 rfl <| WL.nil <| WC.seq <| WC.region ?_
  have hvr := hz.t.val_rng h
  replace hS : St g (Sh 64 1 (u32s z.T.s.rel) z.ra z.rc :: Sh 64 1 (u32s (z.T.s.gen.drop 1)) z.ga z.gc :: Sh 4 1 (bos (z.T.s.used.drop 1)) z.oa z.oc :: Sh 64 1 (u32s (z.T.vals.drop 1)) z.va z.vc :: Sh 56 1 (enP z.P) z.pa z.pc :: Shs prF z.P :: Sh 4 1 (bos z.B) z.ba z.bc :: Sh 49 1 (enL z.LL) z.la z.lc :: Shs leF z.LL :: cel b1 #[.int .i64 z.cap, .int .i64 z.T.s.cap, .slice z.ra (List.length (u32s z.T.s.rel)) z.rc, .int .i64 (z.T.s.fresh + 1), .slice z.ga (List.length (u32s (z.T.s.gen.drop 1))) z.gc, .slice z.oa (List.length (bos (z.T.s.used.drop 1))) z.oc, .slice z.va (List.length (u32s (z.T.vals.drop 1))) z.vc, .int .i64 z.cap, .slice z.pa (List.length (enP z.P)) z.pc, .slice z.ba (List.length (bos z.B)) z.bc, .slice z.la (List.length (enL z.LL)) z.lc] 43 :: Shs rsF [z] :: L) w := hS.rsGet 1 rfl
  refine WL.r 1 rfl <| WL.ldC rfl rfl [.int .i64 z.T.s.cap, .slice z.ra (List.length (u32s z.T.s.rel)) z.rc, .int .i64 (z.T.s.fresh + 1), .slice z.ga (List.length (u32s (z.T.s.gen.drop 1))) z.gc, .slice z.oa (List.length (bos (z.T.s.used.drop 1))) z.oc, .slice z.va (List.length (u32s (z.T.vals.drop 1))) z.vc] ag_37 rfl (hS.part 9 rfl rfl) <| WL.r 1 rfl <| WL.call rfl rfl (q_look_ok (T := z.T) (ra := z.ra) (ga := z.ga) (oa := z.oa) (va := z.va) (rc := z.rc) (gc := z.gc) (oc := z.oc) (vc := z.vc) (h := h) (hT := hz.t) (hh := hh) (hn := hn) (hS := hS)) rfl ?_
  clear hS; rintro _ w ⟨rfl, hS⟩
  replace hS := hS.n11 L (a0 := Sh 64 1 (u32s z.T.s.rel) z.ra z.rc) (a1 := Sh 64 1 (u32s (z.T.s.gen.drop 1)) z.ga z.gc) (a2 := Sh 4 1 (bos (z.T.s.used.drop 1)) z.oa z.oc) (a3 := Sh 64 1 (u32s (z.T.vals.drop 1)) z.va z.vc) (a4 := Sh 56 1 (enP z.P) z.pa z.pc) (a5 := Shs prF z.P) (a6 := Sh 4 1 (bos z.B) z.ba z.bc) (a7 := Sh 49 1 (enL z.LL) z.la z.lc) (a8 := Shs leF z.LL) (a9 := cel b1 #[.int .i64 z.cap, .int .i64 z.T.s.cap, .slice z.ra (List.length (u32s z.T.s.rel)) z.rc, .int .i64 (z.T.s.fresh + 1), .slice z.ga (List.length (u32s (z.T.s.gen.drop 1))) z.gc, .slice z.oa (List.length (bos (z.T.s.used.drop 1))) z.oc, .slice z.va (List.length (u32s (z.T.vals.drop 1))) z.vc, .int .i64 z.cap, .slice z.pa (List.length (enP z.P)) z.pc, .slice z.ba (List.length (bos z.B)) z.bc, .slice z.la (List.length (enL z.LL)) z.lc] 43) rfl
  refine WL.r 5 rfl <| WL.nil <| WC.seq <| WC.region <| WL.r 2 rfl <| WL.nw 16 rfl (w64 (by omega)) ?_
  refine WL.r 3 rfl <| WL.nil <| WC.ret ?_
  refine ⟨[.int .i64 (z.T.val h), .int .i64 0], ⟨rfl, rfl⟩, ?_⟩
  replace hS := (hS.sel 10 [] rfl)
  exact ⟨rfl, hS⟩
set_option maxRecDepth 8192 in
theorem qs_num_bad {g w : World} {L : List HP} (z : RSt) (h : Int) (hz : ROk z) (hh : 0 ≤ h ∧ h ≤ 18446744073709551615) (hn : z.T.s.opn h = false) (hS : St g (Shs rsF [z] :: L) w) :
    Sp Tryz.prog 65 [.agg #[.int .i64 z.cap, .int .i64 z.T.s.cap, .slice z.ra (List.length (u32s z.T.s.rel)) z.rc, .int .i64 (z.T.s.fresh + 1), .slice z.ga (List.length (u32s (z.T.s.gen.drop 1))) z.gc, .slice z.oa (List.length (bos (z.T.s.used.drop 1))) z.oc, .slice z.va (List.length (u32s (z.T.vals.drop 1))) z.vc, .int .i64 z.cap, .slice z.pa (List.length (enP z.P)) z.pc, .slice z.ba (List.length (bos z.B)) z.bc, .slice z.la (List.length (enL z.LL)) z.lc], .int .u64 h] w (fun v w' => v = .tuple #[.int .i64 0, .int .i64 5] ∧ St g (Shs rsF [z] :: L) w') := by
  refine Sp.enter Tryz.func65 rfl (by kernel_rfl) (by kernel_rfl) ?_
  refine WC.seq <| WC.region <| WL.box rfl rfl #[.int .i64 z.cap, .int .i64 z.T.s.cap, .slice z.ra (List.length (u32s z.T.s.rel)) z.rc, .int .i64 (z.T.s.fresh + 1), .slice z.ga (List.length (u32s (z.T.s.gen.drop 1))) z.gc, .slice z.oa (List.length (bos (z.T.s.used.drop 1))) z.oc, .slice z.va (List.length (u32s (z.T.vals.drop 1))) z.vc, .int .i64 z.cap, .slice z.pa (List.length (enP z.P)) z.pc, .slice z.ba (List.length (bos z.B)) z.bc, .slice z.la (List.length (enL z.LL)) z.lc] hS rfl rfl (fun b1 w hS => ?_)
  refine WL.r 2 rfl <| WL.nil <| WC.seq <| WC.region ?_
  replace hS : St g (Sh 64 1 (u32s z.T.s.rel) z.ra z.rc :: Sh 64 1 (u32s (z.T.s.gen.drop 1)) z.ga z.gc :: Sh 4 1 (bos (z.T.s.used.drop 1)) z.oa z.oc :: Sh 64 1 (u32s (z.T.vals.drop 1)) z.va z.vc :: Sh 56 1 (enP z.P) z.pa z.pc :: Shs prF z.P :: Sh 4 1 (bos z.B) z.ba z.bc :: Sh 49 1 (enL z.LL) z.la z.lc :: Shs leF z.LL :: cel b1 #[.int .i64 z.cap, .int .i64 z.T.s.cap, .slice z.ra (List.length (u32s z.T.s.rel)) z.rc, .int .i64 (z.T.s.fresh + 1), .slice z.ga (List.length (u32s (z.T.s.gen.drop 1))) z.gc, .slice z.oa (List.length (bos (z.T.s.used.drop 1))) z.oc, .slice z.va (List.length (u32s (z.T.vals.drop 1))) z.vc, .int .i64 z.cap, .slice z.pa (List.length (enP z.P)) z.pc, .slice z.ba (List.length (bos z.B)) z.bc, .slice z.la (List.length (enL z.LL)) z.lc] 43 :: Shs rsF [z] :: L) w := hS.rsGet 1 rfl
  refine WL.r 1 rfl <| WL.ldC rfl rfl [.int .i64 z.T.s.cap, .slice z.ra (List.length (u32s z.T.s.rel)) z.rc, .int .i64 (z.T.s.fresh + 1), .slice z.ga (List.length (u32s (z.T.s.gen.drop 1))) z.gc, .slice z.oa (List.length (bos (z.T.s.used.drop 1))) z.oc, .slice z.va (List.length (u32s (z.T.vals.drop 1))) z.vc] ag_37 rfl (hS.part 9 rfl rfl) <| WL.r 1 rfl <| WL.call rfl rfl (q_look_bad (T := z.T) (ra := z.ra) (ga := z.ga) (oa := z.oa) (va := z.va) (rc := z.rc) (gc := z.gc) (oc := z.oc) (vc := z.vc) (h := h) (hT := hz.t) (hh := hh) (hn := hn) (hS := hS)) rfl ?_
  clear hS; rintro _ w ⟨rfl, hS⟩
  replace hS := hS.n11 L (a0 := Sh 64 1 (u32s z.T.s.rel) z.ra z.rc) (a1 := Sh 64 1 (u32s (z.T.s.gen.drop 1)) z.ga z.gc) (a2 := Sh 4 1 (bos (z.T.s.used.drop 1)) z.oa z.oc) (a3 := Sh 64 1 (u32s (z.T.vals.drop 1)) z.va z.vc) (a4 := Sh 56 1 (enP z.P) z.pa z.pc) (a5 := Shs prF z.P) (a6 := Sh 4 1 (bos z.B) z.ba z.bc) (a7 := Sh 49 1 (enL z.LL) z.la z.lc) (a8 := Shs leF z.LL) (a9 := cel b1 #[.int .i64 z.cap, .int .i64 z.T.s.cap, .slice z.ra (List.length (u32s z.T.s.rel)) z.rc, .int .i64 (z.T.s.fresh + 1), .slice z.ga (List.length (u32s (z.T.s.gen.drop 1))) z.gc, .slice z.oa (List.length (bos (z.T.s.used.drop 1))) z.oc, .slice z.va (List.length (u32s (z.T.vals.drop 1))) z.vc, .int .i64 z.cap, .slice z.pa (List.length (enP z.P)) z.pc, .slice z.ba (List.length (bos z.B)) z.bc, .slice z.la (List.length (enL z.LL)) z.lc] 43) rfl
  refine WL.r 5 rfl <| WL.nil <| WC.seq <| WC.region <| WL.r 2 rfl <| WL.nw 16 rfl (w64 (by omega)) ?_
  refine WL.r 3 rfl <| WL.nil <| WC.ret ?_
  refine ⟨[.int .i64 0, .int .i64 5], ⟨rfl, rfl⟩, ?_⟩
  replace hS := (hS.sel 10 [] rfl)
  exact ⟨rfl, hS⟩
set_option maxRecDepth 8192 in
theorem qs_list_ok {g w : World} {L : List HP} (z : RSt) (h : Int) (k : Nat) (x : LsE) (hz : ROk z) (hh : 0 ≤ h ∧ h ≤ 18446744073709551615) (hn : z.T.s.opn h = true) (hx : z.LL[k]? = some x) (hk : z.T.val h = (k : Int) + 1) (hS : St g (Shs rsF [z] :: L) w) :
    Sp Tryz.prog 63 [.agg #[.int .i64 z.cap, .int .i64 z.T.s.cap, .slice z.ra (List.length (u32s z.T.s.rel)) z.rc, .int .i64 (z.T.s.fresh + 1), .slice z.ga (List.length (u32s (z.T.s.gen.drop 1))) z.gc, .slice z.oa (List.length (bos (z.T.s.used.drop 1))) z.oc, .slice z.va (List.length (u32s (z.T.vals.drop 1))) z.vc, .int .i64 z.cap, .slice z.pa (List.length (enP z.P)) z.pc, .slice z.ba (List.length (bos z.B)) z.bc, .slice z.la (List.length (enL z.LL)) z.lc], .int .u64 h] w (fun v w' => v = .tuple #[.slice x.a (List.length (en2 x.es)) x.c, .int .i64 0] ∧ St g (Shs rsF [z] :: Sh 121 2 (en2 x.es) x.a x.c :: L) w') := by
  refine Sp.enter Tryz.func63 rfl (by kernel_rfl) (by kernel_rfl) ?_
  have _ := hk
  refine WC.seq <| WC.region <| WL.box rfl rfl #[.int .i64 z.cap, .int .i64 z.T.s.cap, .slice z.ra (List.length (u32s z.T.s.rel)) z.rc, .int .i64 (z.T.s.fresh + 1), .slice z.ga (List.length (u32s (z.T.s.gen.drop 1))) z.gc, .slice z.oa (List.length (bos (z.T.s.used.drop 1))) z.oc, .slice z.va (List.length (u32s (z.T.vals.drop 1))) z.vc, .int .i64 z.cap, .slice z.pa (List.length (enP z.P)) z.pc, .slice z.ba (List.length (bos z.B)) z.bc, .slice z.la (List.length (enL z.LL)) z.lc] hS rfl rfl (fun b1 w hS => ?_)
  refine WL.r 2 rfl <| WL.nil <| WC.seq <| WC.region ?_
  have hkl := (List.getElem?_eq_some_iff.1 hx).1; have hzl := hz.l; have hzn := hz.n; have hel := enL_len z.LL
  refine WL.ldF rfl rfl 0 hS rfl rfl ag_43 <| WL.r 1 rfl <| WL.call rfl rfl (qs_num_ok (z := z) (h := h) (hz := hz) (hh := hh) (hn := hn) (hS := (hS.sel 2 [1, 0] rfl))) rfl ?_
  clear hS; rintro _ w ⟨rfl, hS⟩
  replace hS := hS.n2 L (a1 := cel b1 #[.int .i64 z.cap, .int .i64 z.T.s.cap, .slice z.ra (List.length (u32s z.T.s.rel)) z.rc, .int .i64 (z.T.s.fresh + 1), .slice z.ga (List.length (u32s (z.T.s.gen.drop 1))) z.gc, .slice z.oa (List.length (bos (z.T.s.used.drop 1))) z.oc, .slice z.va (List.length (u32s (z.T.vals.drop 1))) z.vc, .int .i64 z.cap, .slice z.pa (List.length (enP z.P)) z.pc, .slice z.ba (List.length (bos z.B)) z.bc, .slice z.la (List.length (enL z.LL)) z.lc] 43) rfl
  refine WL.r 5 rfl <| WL.nil <| WC.seq <| WC.seq <| WC.region <| WL.r 2 rfl <| WL.nil <| WC.ifF rfl (decide_eq_false ((by decide))) ?_
  refine WC.skip <| WC.seq <| WC.region ?_
  replace hS : St g (Sh 64 1 (u32s z.T.s.rel) z.ra z.rc :: Sh 64 1 (u32s (z.T.s.gen.drop 1)) z.ga z.gc :: Sh 4 1 (bos (z.T.s.used.drop 1)) z.oa z.oc :: Sh 64 1 (u32s (z.T.vals.drop 1)) z.va z.vc :: Sh 56 1 (enP z.P) z.pa z.pc :: Shs prF z.P :: Sh 4 1 (bos z.B) z.ba z.bc :: Sh 49 1 (enL z.LL) z.la z.lc :: Shs leF z.LL :: Shs rsF [z] :: cel b1 #[.int .i64 z.cap, .int .i64 z.T.s.cap, .slice z.ra (List.length (u32s z.T.s.rel)) z.rc, .int .i64 (z.T.s.fresh + 1), .slice z.ga (List.length (u32s (z.T.s.gen.drop 1))) z.gc, .slice z.oa (List.length (bos (z.T.s.used.drop 1))) z.oc, .slice z.va (List.length (u32s (z.T.vals.drop 1))) z.vc, .int .i64 z.cap, .slice z.pa (List.length (enP z.P)) z.pc, .slice z.ba (List.length (bos z.B)) z.bc, .slice z.la (List.length (enL z.LL)) z.lc] 43 :: L) w := hS.rsGet 0 rfl
  replace hS : St g (Sh 121 2 (en2 x.es) x.a x.c :: Sh 64 1 (u32s z.T.s.rel) z.ra z.rc :: Sh 64 1 (u32s (z.T.s.gen.drop 1)) z.ga z.gc :: Sh 4 1 (bos (z.T.s.used.drop 1)) z.oa z.oc :: Sh 64 1 (u32s (z.T.vals.drop 1)) z.va z.vc :: Sh 56 1 (enP z.P) z.pa z.pc :: Shs prF z.P :: Sh 4 1 (bos z.B) z.ba z.bc :: Sh 49 1 (enL z.LL) z.la z.lc :: Shs leF z.LL :: Shs rsF [z] :: cel b1 #[.int .i64 z.cap, .int .i64 z.T.s.cap, .slice z.ra (List.length (u32s z.T.s.rel)) z.rc, .int .i64 (z.T.s.fresh + 1), .slice z.ga (List.length (u32s (z.T.s.gen.drop 1))) z.gc, .slice z.oa (List.length (bos (z.T.s.used.drop 1))) z.oc, .slice z.va (List.length (u32s (z.T.vals.drop 1))) z.vc, .int .i64 z.cap, .slice z.pa (List.length (enP z.P)) z.pc, .slice z.ba (List.length (bos z.B)) z.bc, .slice z.la (List.length (enL z.LL)) z.lc] 43 :: L) w := hS.shsGet 8 rfl (List.mem_of_getElem? hx)
  refine WL.run 4 [.slice z.la (List.length (enL z.LL)) z.lc] rfl (by exact hS.ld 11 rfl rfl) ?_
  refine WL.nw 20 rfl (w64 (by omega)) ?_
  refine WL.ix rfl rfl (i := (z.T.val h) - 1) (k) el_41 rfl rfl (by omega) (by omega) (hS.rdS 8 rfl (enL_at hx)).1 ?_
  refine WL.run 3 [.slice x.a (List.length (en2 x.es)) x.c] rfl (by exact (hS.rdS 8 rfl (enL_at hx)).2 0 _ rfl) ?_
  refine WL.nil ?_
  as_aux_lemma =>
  refine WC.ret ?_
  refine ⟨[.slice x.a (List.length (en2 x.es)) x.c, .int .i64 0], ⟨rfl, rfl⟩, ?_⟩
  replace hS := (hS.sel 12 [10, 0] rfl)
  exact ⟨rfl, hS⟩
set_option maxRecDepth 8192 in
theorem qs_list_bad {g w : World} {L : List HP} (z : RSt) (h : Int) (hz : ROk z) (hh : 0 ≤ h ∧ h ≤ 18446744073709551615) (hn : z.T.s.opn h = false) (hS : St g (Shs rsF [z] :: L) w) :
    Sp Tryz.prog 63 [.agg #[.int .i64 z.cap, .int .i64 z.T.s.cap, .slice z.ra (List.length (u32s z.T.s.rel)) z.rc, .int .i64 (z.T.s.fresh + 1), .slice z.ga (List.length (u32s (z.T.s.gen.drop 1))) z.gc, .slice z.oa (List.length (bos (z.T.s.used.drop 1))) z.oc, .slice z.va (List.length (u32s (z.T.vals.drop 1))) z.vc, .int .i64 z.cap, .slice z.pa (List.length (enP z.P)) z.pc, .slice z.ba (List.length (bos z.B)) z.bc, .slice z.la (List.length (enL z.LL)) z.lc], .int .u64 h] w (fun v w' => v = .tuple #[.slice none 0 0, .int .i64 5] ∧ St g (Shs rsF [z] :: L) w') := by
  refine Sp.enter Tryz.func63 rfl (by kernel_rfl) (by kernel_rfl) ?_
  refine WC.seq <| WC.region <| WL.box rfl rfl #[.int .i64 z.cap, .int .i64 z.T.s.cap, .slice z.ra (List.length (u32s z.T.s.rel)) z.rc, .int .i64 (z.T.s.fresh + 1), .slice z.ga (List.length (u32s (z.T.s.gen.drop 1))) z.gc, .slice z.oa (List.length (bos (z.T.s.used.drop 1))) z.oc, .slice z.va (List.length (u32s (z.T.vals.drop 1))) z.vc, .int .i64 z.cap, .slice z.pa (List.length (enP z.P)) z.pc, .slice z.ba (List.length (bos z.B)) z.bc, .slice z.la (List.length (enL z.LL)) z.lc] hS rfl rfl (fun b1 w hS => ?_)
  refine WL.r 2 rfl <| WL.nil <| WC.seq <| WC.region <| WL.ldF rfl rfl 0 hS rfl rfl ag_43 <| WL.r 1 rfl <| WL.call rfl rfl (qs_num_bad (z := z) (h := h) (hz := hz) (hh := hh) (hn := hn) (hS := (hS.sel 2 [1, 0] rfl))) rfl ?_
  clear hS; rintro _ w ⟨rfl, hS⟩
  replace hS := hS.n2 L (a1 := cel b1 #[.int .i64 z.cap, .int .i64 z.T.s.cap, .slice z.ra (List.length (u32s z.T.s.rel)) z.rc, .int .i64 (z.T.s.fresh + 1), .slice z.ga (List.length (u32s (z.T.s.gen.drop 1))) z.gc, .slice z.oa (List.length (bos (z.T.s.used.drop 1))) z.oc, .slice z.va (List.length (u32s (z.T.vals.drop 1))) z.vc, .int .i64 z.cap, .slice z.pa (List.length (enP z.P)) z.pc, .slice z.ba (List.length (bos z.B)) z.bc, .slice z.la (List.length (enL z.LL)) z.lc] 43) rfl
  refine WL.r 5 rfl <| WL.nil <| WC.seq <| WC.seq <| WC.region <| WL.r 2 rfl <| WL.nil <| WC.ifT rfl (decide_eq_true ((by decide))) ?_
  refine WC.seq <| WC.region <| WL.r 3 rfl <| WL.nil ?_
  as_aux_lemma =>
  refine WC.ret ?_
  refine ⟨[.slice none 0 0, .int .i64 5], ⟨rfl, rfl⟩, ?_⟩
  replace hS := (hS.sel 2 [0] rfl)
  exact ⟨rfl, hS⟩
set_option maxRecDepth 8192 in
theorem qs_room {g w : World} {L : List HP} (z : RSt) (hz : ROk z) (hS : St g (Shs rsF [z] :: L) w) :
    Sp Tryz.prog 92 [.agg #[.int .i64 z.cap, .int .i64 z.T.s.cap, .slice z.ra (List.length (u32s z.T.s.rel)) z.rc, .int .i64 (z.T.s.fresh + 1), .slice z.ga (List.length (u32s (z.T.s.gen.drop 1))) z.gc, .slice z.oa (List.length (bos (z.T.s.used.drop 1))) z.oc, .slice z.va (List.length (u32s (z.T.vals.drop 1))) z.vc, .int .i64 z.cap, .slice z.pa (List.length (enP z.P)) z.pc, .slice z.ba (List.length (bos z.B)) z.bc, .slice z.la (List.length (enL z.LL)) z.lc]] w (fun v w' => v = .int .i64 z.room ∧ St g (Shs rsF [z] :: L) w') := by
  refine Sp.enter Tryz.func92 rfl (by kernel_rfl) (by kernel_rfl) ?_
  refine WC.seq <| WC.region <| WL.box rfl rfl #[.int .i64 z.cap, .int .i64 z.T.s.cap, .slice z.ra (List.length (u32s z.T.s.rel)) z.rc, .int .i64 (z.T.s.fresh + 1), .slice z.ga (List.length (u32s (z.T.s.gen.drop 1))) z.gc, .slice z.oa (List.length (bos (z.T.s.used.drop 1))) z.oc, .slice z.va (List.length (u32s (z.T.vals.drop 1))) z.vc, .int .i64 z.cap, .slice z.pa (List.length (enP z.P)) z.pc, .slice z.ba (List.length (bos z.B)) z.bc, .slice z.la (List.length (enL z.LL)) z.lc] hS rfl rfl (fun b1 w hS => ?_)
  refine WL.r 1 rfl <| WL.nil <| WC.seq <| WC.plan [([0, 2, 7, 1, 3, 8, 9], some (4, [0, 1, 7, 8, 9])), ([5, 6], some (10, [0, 1, 5, 6])), ([11, 12, 13], none)] (by kernel_rfl) (by kernel_rfl) ?_
  have hzn := hz.n; have hzc := hz.c; have hpl := pres_len z.P z.B; have hnl := (numL_all (pres z.P z.B)).2.1; have hil := i64s_len (numL (pres z.P z.B)); have hor := order_n hz.t.s; have hul := u32s_len (SM.order z.T.s)
  replace hS : St g (Sh 64 1 (u32s z.T.s.rel) z.ra z.rc :: Sh 64 1 (u32s (z.T.s.gen.drop 1)) z.ga z.gc :: Sh 4 1 (bos (z.T.s.used.drop 1)) z.oa z.oc :: Sh 64 1 (u32s (z.T.vals.drop 1)) z.va z.vc :: Sh 56 1 (enP z.P) z.pa z.pc :: Shs prF z.P :: Sh 4 1 (bos z.B) z.ba z.bc :: Sh 49 1 (enL z.LL) z.la z.lc :: Shs leF z.LL :: cel b1 #[.int .i64 z.cap, .int .i64 z.T.s.cap, .slice z.ra (List.length (u32s z.T.s.rel)) z.rc, .int .i64 (z.T.s.fresh + 1), .slice z.ga (List.length (u32s (z.T.s.gen.drop 1))) z.gc, .slice z.oa (List.length (bos (z.T.s.used.drop 1))) z.oc, .slice z.va (List.length (u32s (z.T.vals.drop 1))) z.vc, .int .i64 z.cap, .slice z.pa (List.length (enP z.P)) z.pc, .slice z.ba (List.length (bos z.B)) z.bc, .slice z.la (List.length (enL z.LL)) z.lc] 43 :: Shs rsF [z] :: L) w := hS.rsGet 1 rfl
  refine WQ.run 4 [.int .i64 z.cap] rfl (by exact hS.ld 9 rfl rfl) ?_
  refine WQ.ldC rfl rfl [.int .i64 z.cap, .slice z.pa (List.length (enP z.P)) z.pc, .slice z.ba (List.length (bos z.B)) z.bc] ag_40 rfl (hS.part 9 rfl rfl) <| WQ.r 1 rfl <| WQ.ldC rfl rfl [.int .i64 z.T.s.cap, .slice z.ra (List.length (u32s z.T.s.rel)) z.rc, .int .i64 (z.T.s.fresh + 1), .slice z.ga (List.length (u32s (z.T.s.gen.drop 1))) z.gc, .slice z.oa (List.length (bos (z.T.s.used.drop 1))) z.oc] ag_35 rfl (hS.part 9 rfl rfl) <| WQ.nil ?_
  intro m1
  replace hS := hS.drewN m1; generalize hwm1 : World.drewN _ _ = w at *; clear hwm1
  refine WL.call rfl rfl (rvers_spec (cap := z.cap) (P := z.P) (a := z.pa) (c := z.pc) (B := z.B) (b := z.ba) (d := z.bc) (hP := hz.p) (hl := (by omega)) (hB := hz.b) (hS := (hS.sel 7 [4, 4, 4, 0, 0, 0, 0] rfl))) rfl ?_
  clear hS; rintro _ w ⟨a1, c1, rfl, hS⟩
  replace hS := hS.n12 L (a0 := Own 3 1 (i64s (numL (pres z.P z.B))) a1 c1) (a1 := Sh 56 1 (enP z.P) z.pa z.pc) (a2 := Shs prF z.P) (a3 := Sh 4 1 (bos z.B) z.ba z.bc) (a4 := Sh 64 1 (u32s z.T.s.rel) z.ra z.rc) (a5 := Sh 64 1 (u32s (z.T.s.gen.drop 1)) z.ga z.gc) (a6 := Sh 4 1 (bos (z.T.s.used.drop 1)) z.oa z.oc) (a7 := Sh 64 1 (u32s (z.T.vals.drop 1)) z.va z.vc) (a8 := Sh 49 1 (enL z.LL) z.la z.lc) (a9 := Shs leF z.LL) (a10 := cel b1 #[.int .i64 z.cap, .int .i64 z.T.s.cap, .slice z.ra (List.length (u32s z.T.s.rel)) z.rc, .int .i64 (z.T.s.fresh + 1), .slice z.ga (List.length (u32s (z.T.s.gen.drop 1))) z.gc, .slice z.oa (List.length (bos (z.T.s.used.drop 1))) z.oc, .slice z.va (List.length (u32s (z.T.vals.drop 1))) z.vc, .int .i64 z.cap, .slice z.pa (List.length (enP z.P)) z.pc, .slice z.ba (List.length (bos z.B)) z.bc, .slice z.la (List.length (enL z.LL)) z.lc] 43) rfl
  refine WL.nil ?_
  refine ⟨by exact ⟨RQ.pure rfl rfl rfl rfl, RQ.load rfl rfl rfl rfl (hS.ld 10 rfl rfl), RQ.pure rfl rfl rfl rfl, RQ.pure rfl rfl rfl rfl, RQ.ldC rfl rfl [.int .i64 z.T.s.cap, .slice z.ra (List.length (u32s z.T.s.rel)) z.rc, .int .i64 (z.T.s.fresh + 1), .slice z.ga (List.length (u32s (z.T.s.gen.drop 1))) z.gc, .slice z.oa (List.length (bos (z.T.s.used.drop 1))) z.oc] ag_35 rfl (hS.part 10 rfl rfl) rfl rfl⟩, ?_⟩
  refine WQ.r 2 rfl <| WQ.nw 9 rfl (w64 (by omega)) ?_
  refine WQ.nil ?_
  intro m2
  replace hS := hS.drewN m2; generalize hwm2 : World.drewN _ _ = w at *; clear hwm2
  refine WL.call rfl rfl (q_order (S := z.T.s) (ra := z.ra) (ga := z.ga) (oa := z.oa) (rc := z.rc) (gc := z.gc) (oc := z.oc) (hO := hz.t.s) (hS := (hS.sel 7 [4, 4, 4, 0, 0, 0, 0] rfl))) rfl ?_
  clear hS; rintro _ w ⟨a2, c2, rfl, hS⟩
  replace hS := hS.n13 L (a0 := Own 64 1 (u32s (SM.order z.T.s)) a2 c2) rfl
  refine WL.nil ?_
  refine ⟨by exact ⟨RQ.pure rfl rfl rfl rfl, RQ.load rfl rfl rfl rfl (hS.ld 11 rfl rfl), RQ.pure rfl rfl rfl rfl, RQ.pure rfl rfl rfl (congrArg (Value.int .i64) (Eq.symm (w64 (by omega))))⟩, ?_⟩
  refine WQ.r 3 rfl <| WQ.nil ?_
  intro m3
  replace hS := hS.drewN m3; generalize hwm3 : World.drewN _ _ = w at *; clear hwm3
  as_aux_lemma =>
  refine WC.ret ?_
  refine ⟨[.int .i64 (min (z.cap - (List.length (i64s (numL (pres z.P z.B))) : Int)) (List.length (u32s (SM.order z.T.s)) : Int))], rfl, ?_⟩
  replace hS := (hS.sel 12 [] rfl)
  exact ⟨by unfold RSt.room; rw [hil, hul, hor]; rfl, hS⟩
set_option maxRecDepth 8192 in
theorem qs_rel_bad {g w : World} {L : List HP} (z : RSt) (h : Int) (hz : ROk z) (hh : 0 ≤ h ∧ h ≤ 18446744073709551615) (hn : z.T.s.opn h = false) (hS : St g (Shs rsF [z] :: L) w) :
    Sp Tryz.prog 69 [.agg #[.int .i64 z.cap, .int .i64 z.T.s.cap, .slice z.ra (List.length (u32s z.T.s.rel)) z.rc, .int .i64 (z.T.s.fresh + 1), .slice z.ga (List.length (u32s (z.T.s.gen.drop 1))) z.gc, .slice z.oa (List.length (bos (z.T.s.used.drop 1))) z.oc, .slice z.va (List.length (u32s (z.T.vals.drop 1))) z.vc, .int .i64 z.cap, .slice z.pa (List.length (enP z.P)) z.pc, .slice z.ba (List.length (bos z.B)) z.bc, .slice z.la (List.length (enL z.LL)) z.lc], .int .u64 h] w (fun v w' => v = .tuple #[.agg #[.int .i64 z.cap, .int .i64 z.T.s.cap, .slice z.ra (List.length (u32s z.T.s.rel)) z.rc, .int .i64 (z.T.s.fresh + 1), .slice z.ga (List.length (u32s (z.T.s.gen.drop 1))) z.gc, .slice z.oa (List.length (bos (z.T.s.used.drop 1))) z.oc, .slice z.va (List.length (u32s (z.T.vals.drop 1))) z.vc, .int .i64 z.cap, .slice z.pa (List.length (enP z.P)) z.pc, .slice z.ba (List.length (bos z.B)) z.bc, .slice z.la (List.length (enL z.LL)) z.lc], .int .i64 5] ∧ St g (Shs rsF [z] :: L) w') := by
  refine Sp.enter Tryz.func69 rfl (by kernel_rfl) (by kernel_rfl) ?_
  refine WC.seq <| WC.region <| WL.box rfl rfl #[.int .i64 z.cap, .int .i64 z.T.s.cap, .slice z.ra (List.length (u32s z.T.s.rel)) z.rc, .int .i64 (z.T.s.fresh + 1), .slice z.ga (List.length (u32s (z.T.s.gen.drop 1))) z.gc, .slice z.oa (List.length (bos (z.T.s.used.drop 1))) z.oc, .slice z.va (List.length (u32s (z.T.vals.drop 1))) z.vc, .int .i64 z.cap, .slice z.pa (List.length (enP z.P)) z.pc, .slice z.ba (List.length (bos z.B)) z.bc, .slice z.la (List.length (enL z.LL)) z.lc] hS rfl rfl (fun b1 w hS => ?_)
  refine WL.new rfl rfl zv_43 hS (fun b2 w hS => ?_)
  refine WL.r 1 rfl <| WL.nil <| WC.seq <| WC.region ?_
  replace hS : St g (Sh 64 1 (u32s z.T.s.rel) z.ra z.rc :: Sh 64 1 (u32s (z.T.s.gen.drop 1)) z.ga z.gc :: Sh 4 1 (bos (z.T.s.used.drop 1)) z.oa z.oc :: Sh 64 1 (u32s (z.T.vals.drop 1)) z.va z.vc :: Sh 56 1 (enP z.P) z.pa z.pc :: Shs prF z.P :: Sh 4 1 (bos z.B) z.ba z.bc :: Sh 49 1 (enL z.LL) z.la z.lc :: Shs leF z.LL :: cel b2 #[.int .i64 0, .int .i64 0, .slice none 0 0, .int .i64 0, .slice none 0 0, .slice none 0 0, .slice none 0 0, .int .i64 0, .slice none 0 0, .slice none 0 0, .slice none 0 0] 43 :: cel b1 #[.int .i64 z.cap, .int .i64 z.T.s.cap, .slice z.ra (List.length (u32s z.T.s.rel)) z.rc, .int .i64 (z.T.s.fresh + 1), .slice z.ga (List.length (u32s (z.T.s.gen.drop 1))) z.gc, .slice z.oa (List.length (bos (z.T.s.used.drop 1))) z.oc, .slice z.va (List.length (u32s (z.T.vals.drop 1))) z.vc, .int .i64 z.cap, .slice z.pa (List.length (enP z.P)) z.pc, .slice z.ba (List.length (bos z.B)) z.bc, .slice z.la (List.length (enL z.LL)) z.lc] 43 :: Shs rsF [z] :: L) w := hS.rsGet 2 rfl
  refine WL.r 1 rfl <| WL.ldC rfl rfl [.int .i64 z.T.s.cap, .slice z.ra (List.length (u32s z.T.s.rel)) z.rc, .int .i64 (z.T.s.fresh + 1), .slice z.ga (List.length (u32s (z.T.s.gen.drop 1))) z.gc, .slice z.oa (List.length (bos (z.T.s.used.drop 1))) z.oc, .slice z.va (List.length (u32s (z.T.vals.drop 1))) z.vc] ag_37 rfl (hS.part 10 rfl rfl) <| WL.r 1 rfl <| WL.call rfl rfl (q_close_bad (T := z.T) (ra := z.ra) (ga := z.ga) (oa := z.oa) (va := z.va) (rc := z.rc) (gc := z.gc) (oc := z.oc) (vc := z.vc) (h := h) (hT := hz.t) (hh := hh) (hn := hn) (hS := hS)) rfl ?_
  clear hS; rintro _ w ⟨rfl, hS⟩
  replace hS := hS.n12 L (a0 := Sh 64 1 (u32s z.T.s.rel) z.ra z.rc) (a1 := Sh 64 1 (u32s (z.T.s.gen.drop 1)) z.ga z.gc) (a2 := Sh 4 1 (bos (z.T.s.used.drop 1)) z.oa z.oc) (a3 := Sh 64 1 (u32s (z.T.vals.drop 1)) z.va z.vc) (a4 := Sh 56 1 (enP z.P) z.pa z.pc) (a5 := Shs prF z.P) (a6 := Sh 4 1 (bos z.B) z.ba z.bc) (a7 := Sh 49 1 (enL z.LL) z.la z.lc) (a8 := Shs leF z.LL) (a9 := cel b2 #[.int .i64 0, .int .i64 0, .slice none 0 0, .int .i64 0, .slice none 0 0, .slice none 0 0, .slice none 0 0, .int .i64 0, .slice none 0 0, .slice none 0 0, .slice none 0 0] 43) (a10 := cel b1 #[.int .i64 z.cap, .int .i64 z.T.s.cap, .slice z.ra (List.length (u32s z.T.s.rel)) z.rc, .int .i64 (z.T.s.fresh + 1), .slice z.ga (List.length (u32s (z.T.s.gen.drop 1))) z.gc, .slice z.oa (List.length (bos (z.T.s.used.drop 1))) z.oc, .slice z.va (List.length (u32s (z.T.vals.drop 1))) z.vc, .int .i64 z.cap, .slice z.pa (List.length (enP z.P)) z.pc, .slice z.ba (List.length (bos z.B)) z.bc, .slice z.la (List.length (enL z.LL)) z.lc] 43) rfl
  refine WL.r 4 rfl <| WL.new rfl rfl zv_37 hS (fun b3 w hS => ?_)
  refine WL.stF rfl rfl rfl 0 hS rfl rfl rfl rfl rfl ag_37 (fun w hS => ?_)
  replace hS := hS.n13 L (a0 := cel b3 #[.int .i64 z.T.s.cap, .slice z.ra (List.length (u32s z.T.s.rel)) z.rc, .int .i64 (z.T.s.fresh + 1), .slice z.ga (List.length (u32s (z.T.s.gen.drop 1))) z.gc, .slice z.oa (List.length (bos (z.T.s.used.drop 1))) z.oc, .slice z.va (List.length (u32s (z.T.vals.drop 1))) z.vc] 37) rfl
  refine WL.r 2 rfl <| WL.nil <| WC.seq <| WC.seq <| WC.region <| WL.r 2 rfl <| WL.nil ?_
  as_aux_lemma =>
  refine WC.ifT rfl (decide_eq_true ((by decide))) ?_
  refine WC.seq <| WC.region <| WL.ldF rfl rfl 11 hS rfl rfl ag_43 <| WL.r 1 rfl <| WL.stF rfl rfl rfl 10 hS rfl rfl rfl rfl rfl ag_43 (fun w hS => ?_)
  replace hS := hS.n13 L (a10 := cel b2 #[.int .i64 z.cap, .int .i64 z.T.s.cap, .slice z.ra (List.length (u32s z.T.s.rel)) z.rc, .int .i64 (z.T.s.fresh + 1), .slice z.ga (List.length (u32s (z.T.s.gen.drop 1))) z.gc, .slice z.oa (List.length (bos (z.T.s.used.drop 1))) z.oc, .slice z.va (List.length (u32s (z.T.vals.drop 1))) z.vc, .int .i64 z.cap, .slice z.pa (List.length (enP z.P)) z.pc, .slice z.ba (List.length (bos z.B)) z.bc, .slice z.la (List.length (enL z.LL)) z.lc] 43) rfl
  refine WL.r 1 rfl <| WL.nil <| WC.ret ?_
  refine ⟨[.agg #[.int .i64 z.cap, .int .i64 z.T.s.cap, .slice z.ra (List.length (u32s z.T.s.rel)) z.rc, .int .i64 (z.T.s.fresh + 1), .slice z.ga (List.length (u32s (z.T.s.gen.drop 1))) z.gc, .slice z.oa (List.length (bos (z.T.s.used.drop 1))) z.oc, .slice z.va (List.length (u32s (z.T.vals.drop 1))) z.vc, .int .i64 z.cap, .slice z.pa (List.length (enP z.P)) z.pc, .slice z.ba (List.length (bos z.B)) z.bc, .slice z.la (List.length (enL z.LL)) z.lc], .int .i64 5], ⟨⟨_, rfl, hS.lvF 10 rfl ag_43⟩, rfl⟩, ?_⟩
  replace hS := (hS.sel 12 [] rfl)
  exact ⟨rfl, hS⟩
set_option maxRecDepth 8192 in
theorem qs_rel_ok {g w : World} {L : List HP} (z : RSt) (h : Int) (hz : ROk z) (hh : 0 ≤ h ∧ h ≤ 18446744073709551615) (hn : z.T.s.opn h = true) (hl : liveR z.B (z.T.val h) = true) (hS : St g (Shs rsF [z] :: L) w) :
    Sp Tryz.prog 69 [.agg #[.int .i64 z.cap, .int .i64 z.T.s.cap, .slice z.ra (List.length (u32s z.T.s.rel)) z.rc, .int .i64 (z.T.s.fresh + 1), .slice z.ga (List.length (u32s (z.T.s.gen.drop 1))) z.gc, .slice z.oa (List.length (bos (z.T.s.used.drop 1))) z.oc, .slice z.va (List.length (u32s (z.T.vals.drop 1))) z.vc, .int .i64 z.cap, .slice z.pa (List.length (enP z.P)) z.pc, .slice z.ba (List.length (bos z.B)) z.bc, .slice z.la (List.length (enL z.LL)) z.lc], .int .u64 h] w (fun v w' => ∃ (ra2 oa2 ba2 : Option Addr) (rc2 oc2 bc2 : Nat), v = .tuple #[.agg #[.int .i64 (z.rel h ra2 oa2 ba2 rc2 oc2 bc2).cap, .int .i64 (z.rel h ra2 oa2 ba2 rc2 oc2 bc2).T.s.cap, .slice (z.rel h ra2 oa2 ba2 rc2 oc2 bc2).ra (List.length (u32s (z.rel h ra2 oa2 ba2 rc2 oc2 bc2).T.s.rel)) (z.rel h ra2 oa2 ba2 rc2 oc2 bc2).rc, .int .i64 ((z.rel h ra2 oa2 ba2 rc2 oc2 bc2).T.s.fresh + 1), .slice (z.rel h ra2 oa2 ba2 rc2 oc2 bc2).ga (List.length (u32s ((z.rel h ra2 oa2 ba2 rc2 oc2 bc2).T.s.gen.drop 1))) (z.rel h ra2 oa2 ba2 rc2 oc2 bc2).gc, .slice (z.rel h ra2 oa2 ba2 rc2 oc2 bc2).oa (List.length (bos ((z.rel h ra2 oa2 ba2 rc2 oc2 bc2).T.s.used.drop 1))) (z.rel h ra2 oa2 ba2 rc2 oc2 bc2).oc, .slice (z.rel h ra2 oa2 ba2 rc2 oc2 bc2).va (List.length (u32s ((z.rel h ra2 oa2 ba2 rc2 oc2 bc2).T.vals.drop 1))) (z.rel h ra2 oa2 ba2 rc2 oc2 bc2).vc, .int .i64 (z.rel h ra2 oa2 ba2 rc2 oc2 bc2).cap, .slice (z.rel h ra2 oa2 ba2 rc2 oc2 bc2).pa (List.length (enP (z.rel h ra2 oa2 ba2 rc2 oc2 bc2).P)) (z.rel h ra2 oa2 ba2 rc2 oc2 bc2).pc, .slice (z.rel h ra2 oa2 ba2 rc2 oc2 bc2).ba (List.length (bos (z.rel h ra2 oa2 ba2 rc2 oc2 bc2).B)) (z.rel h ra2 oa2 ba2 rc2 oc2 bc2).bc, .slice (z.rel h ra2 oa2 ba2 rc2 oc2 bc2).la (List.length (enL (z.rel h ra2 oa2 ba2 rc2 oc2 bc2).LL)) (z.rel h ra2 oa2 ba2 rc2 oc2 bc2).lc], .int .i64 0] ∧ St g (Shs rsF [z.rel h ra2 oa2 ba2 rc2 oc2 bc2] :: L) w') := by
  refine Sp.enter Tryz.func69 rfl (by kernel_rfl) (by kernel_rfl) ?_
  refine WC.seq <| WC.region <| WL.box rfl rfl #[.int .i64 z.cap, .int .i64 z.T.s.cap, .slice z.ra (List.length (u32s z.T.s.rel)) z.rc, .int .i64 (z.T.s.fresh + 1), .slice z.ga (List.length (u32s (z.T.s.gen.drop 1))) z.gc, .slice z.oa (List.length (bos (z.T.s.used.drop 1))) z.oc, .slice z.va (List.length (u32s (z.T.vals.drop 1))) z.vc, .int .i64 z.cap, .slice z.pa (List.length (enP z.P)) z.pc, .slice z.ba (List.length (bos z.B)) z.bc, .slice z.la (List.length (enL z.LL)) z.lc] hS rfl rfl (fun b1 w hS => ?_)
  refine WL.new rfl rfl zv_43 hS (fun b2 w hS => ?_)
  refine WL.r 1 rfl <| WL.nil <| WC.seq <| WC.region ?_
  have hvr := hz.t.val_rng h; have hzn := hz.n; have hzb := hz.b
  replace hS : St g (Sh 64 1 (u32s z.T.s.rel) z.ra z.rc :: Sh 64 1 (u32s (z.T.s.gen.drop 1)) z.ga z.gc :: Sh 4 1 (bos (z.T.s.used.drop 1)) z.oa z.oc :: Sh 64 1 (u32s (z.T.vals.drop 1)) z.va z.vc :: Sh 56 1 (enP z.P) z.pa z.pc :: Shs prF z.P :: Sh 4 1 (bos z.B) z.ba z.bc :: Sh 49 1 (enL z.LL) z.la z.lc :: Shs leF z.LL :: cel b2 #[.int .i64 0, .int .i64 0, .slice none 0 0, .int .i64 0, .slice none 0 0, .slice none 0 0, .slice none 0 0, .int .i64 0, .slice none 0 0, .slice none 0 0, .slice none 0 0] 43 :: cel b1 #[.int .i64 z.cap, .int .i64 z.T.s.cap, .slice z.ra (List.length (u32s z.T.s.rel)) z.rc, .int .i64 (z.T.s.fresh + 1), .slice z.ga (List.length (u32s (z.T.s.gen.drop 1))) z.gc, .slice z.oa (List.length (bos (z.T.s.used.drop 1))) z.oc, .slice z.va (List.length (u32s (z.T.vals.drop 1))) z.vc, .int .i64 z.cap, .slice z.pa (List.length (enP z.P)) z.pc, .slice z.ba (List.length (bos z.B)) z.bc, .slice z.la (List.length (enL z.LL)) z.lc] 43 :: Shs rsF [z] :: L) w := hS.rsGet 2 rfl
  refine WL.r 1 rfl <| WL.ldC rfl rfl [.int .i64 z.T.s.cap, .slice z.ra (List.length (u32s z.T.s.rel)) z.rc, .int .i64 (z.T.s.fresh + 1), .slice z.ga (List.length (u32s (z.T.s.gen.drop 1))) z.gc, .slice z.oa (List.length (bos (z.T.s.used.drop 1))) z.oc, .slice z.va (List.length (u32s (z.T.vals.drop 1))) z.vc] ag_37 rfl (hS.part 10 rfl rfl) <| WL.r 1 rfl <| WL.call rfl rfl (q_close (T := z.T) (ra := z.ra) (ga := z.ga) (oa := z.oa) (va := z.va) (rc := z.rc) (gc := z.gc) (oc := z.oc) (vc := z.vc) (h := h) (hT := hz.t) (hh := hh) (hn := hn) (hS := hS)) rfl ?_
  clear hS; rintro _ w ⟨ra1, oa1, rc1, oc1, rfl, hS⟩
  replace hS := hS.n12 L (a0 := Sh 64 1 (u32s (z.T.close h).s.rel) ra1 rc1) (a1 := Sh 64 1 (u32s ((z.T.close h).s.gen.drop 1)) z.ga z.gc) (a2 := Sh 4 1 (bos ((z.T.close h).s.used.drop 1)) oa1 oc1) (a3 := Sh 64 1 (u32s ((z.T.close h).vals.drop 1)) z.va z.vc) (a4 := Sh 56 1 (enP z.P) z.pa z.pc) (a5 := Shs prF z.P) (a6 := Sh 4 1 (bos z.B) z.ba z.bc) (a7 := Sh 49 1 (enL z.LL) z.la z.lc) (a8 := Shs leF z.LL) (a9 := cel b2 #[.int .i64 0, .int .i64 0, .slice none 0 0, .int .i64 0, .slice none 0 0, .slice none 0 0, .slice none 0 0, .int .i64 0, .slice none 0 0, .slice none 0 0, .slice none 0 0] 43) (a10 := cel b1 #[.int .i64 z.cap, .int .i64 z.T.s.cap, .slice z.ra (List.length (u32s z.T.s.rel)) z.rc, .int .i64 (z.T.s.fresh + 1), .slice z.ga (List.length (u32s (z.T.s.gen.drop 1))) z.gc, .slice z.oa (List.length (bos (z.T.s.used.drop 1))) z.oc, .slice z.va (List.length (u32s (z.T.vals.drop 1))) z.vc, .int .i64 z.cap, .slice z.pa (List.length (enP z.P)) z.pc, .slice z.ba (List.length (bos z.B)) z.bc, .slice z.la (List.length (enL z.LL)) z.lc] 43) rfl
  refine WL.r 4 rfl <| WL.new rfl rfl zv_37 hS (fun b3 w hS => ?_)
  refine WL.stF rfl rfl rfl 0 hS rfl rfl rfl rfl rfl ag_37 (fun w hS => ?_)
  replace hS := hS.n13 L (a0 := cel b3 #[.int .i64 (z.T.close h).s.cap, .slice ra1 (List.length (u32s (z.T.close h).s.rel)) rc1, .int .i64 ((z.T.close h).s.fresh + 1), .slice z.ga (List.length (u32s ((z.T.close h).s.gen.drop 1))) z.gc, .slice oa1 (List.length (bos ((z.T.close h).s.used.drop 1))) oc1, .slice z.va (List.length (u32s ((z.T.close h).vals.drop 1))) z.vc] 37) rfl
  refine WL.r 2 rfl <| WL.nil <| WC.seq <| WC.seq <| WC.region <| WL.r 2 rfl <| WL.nil ?_
  as_aux_lemma =>
  refine WC.ifF rfl (decide_eq_false ((by decide))) ?_
  refine WC.skip <| WC.seq <| WC.region <| WL.r 1 rfl <| WL.ldC rfl rfl [.int .i64 z.cap, .slice z.pa (List.length (enP z.P)) z.pc, .slice z.ba (List.length (bos z.B)) z.bc] ag_40 rfl (hS.part 11 rfl rfl) <| WL.r 2 rfl <| WL.nw 27 rfl (w64 (by omega)) ?_
  refine WL.call rfl rfl (rrel_ok (cap := z.cap) (P := z.P) (a := z.pa) (c := z.pc) (B := z.B) (b := z.ba) (d := z.bc) (n := z.T.val h) (hB := (by omega)) (h0 := hl) (hS := (hS.sel 8 [7, 0, 0, 0, 0, 0, 0, 0] rfl))) rfl ?_
  clear hS; rintro _ w ⟨b4, d1, rfl, hS⟩
  replace hS := hS.n13 L (a0 := Sh 4 1 (bos (z.B.set ((z.T.val h) - 1).toNat false)) b4 d1) rfl
  refine WL.r 3 rfl <| WL.new rfl rfl zv_40 hS (fun b5 w hS => ?_)
  refine WL.stF rfl rfl rfl 0 hS rfl rfl rfl rfl rfl ag_40 (fun w hS => ?_)
  replace hS := hS.n14 L (a0 := cel b5 #[.int .i64 z.cap, .slice z.pa (List.length (enP z.P)) z.pc, .slice b4 (List.length (bos (z.B.set ((z.T.val h) - 1).toNat false))) d1] 40) rfl
  refine WL.r 1 rfl <| WL.nil <| WC.seq <| WC.plan [([0, 1, 2], some (3, [1])), ([4], some (5, []))] (by kernel_rfl) (by kernel_rfl) ?_
  refine WQ.ldF rfl rfl 2 hS rfl rfl ag_37 <| WQ.ldF rfl rfl 0 hS rfl rfl ag_40 <| WQ.r 1 rfl <| WQ.nil ?_
  intro m1
  replace hS := hS.drewN m1; generalize hwm1 : World.drewN _ _ = w at *; clear hwm1
  refine WL.stP (ds := #[.int .i64 z.cap, .int .i64 (z.T.close h).s.cap, .slice ra1 (List.length (u32s (z.T.close h).s.rel)) rc1, .int .i64 ((z.T.close h).s.fresh + 1), .slice z.ga (List.length (u32s ((z.T.close h).s.gen.drop 1))) z.gc, .slice oa1 (List.length (bos ((z.T.close h).s.used.drop 1))) oc1, .slice z.va (List.length (u32s ((z.T.close h).vals.drop 1))) z.vc, .int .i64 z.cap, .slice z.pa (List.length (enP z.P)) z.pc, .slice z.ba (List.length (bos z.B)) z.bc, .slice z.la (List.length (enL z.LL)) z.lc]) rfl rfl rfl 12 hS rfl rfl rfl rfl (Nat.le_of_ble_eq_true rfl) rfl ag_37 (fun w hS => ?_)
  replace hS := hS.n14 L (a12 := cel b1 #[.int .i64 z.cap, .int .i64 (z.T.close h).s.cap, .slice ra1 (List.length (u32s (z.T.close h).s.rel)) rc1, .int .i64 ((z.T.close h).s.fresh + 1), .slice z.ga (List.length (u32s ((z.T.close h).s.gen.drop 1))) z.gc, .slice oa1 (List.length (bos ((z.T.close h).s.used.drop 1))) oc1, .slice z.va (List.length (u32s ((z.T.close h).vals.drop 1))) z.vc, .int .i64 z.cap, .slice z.pa (List.length (enP z.P)) z.pc, .slice z.ba (List.length (bos z.B)) z.bc, .slice z.la (List.length (enL z.LL)) z.lc] 43) rfl
  refine WL.nil ?_
  refine ⟨by exact RQ.ldF rfl rfl 0 hS rfl rfl ag_40 rfl rfl, ?_⟩
  refine WQ.r 1 rfl <| WQ.nil ?_
  intro m2
  replace hS := hS.drewN m2; generalize hwm2 : World.drewN _ _ = w at *; clear hwm2
  refine WL.stP (ds := #[.int .i64 z.cap, .int .i64 (z.T.close h).s.cap, .slice ra1 (List.length (u32s (z.T.close h).s.rel)) rc1, .int .i64 ((z.T.close h).s.fresh + 1), .slice z.ga (List.length (u32s ((z.T.close h).s.gen.drop 1))) z.gc, .slice oa1 (List.length (bos ((z.T.close h).s.used.drop 1))) oc1, .slice z.va (List.length (u32s ((z.T.close h).vals.drop 1))) z.vc, .int .i64 z.cap, .slice z.pa (List.length (enP z.P)) z.pc, .slice b4 (List.length (bos (z.B.set ((z.T.val h) - 1).toNat false))) d1, .slice z.la (List.length (enL z.LL)) z.lc]) rfl rfl rfl 12 hS rfl rfl rfl rfl (Nat.le_of_ble_eq_true rfl) rfl ag_40 (fun w hS => ?_)
  replace hS := hS.n14 L (a12 := cel b1 #[.int .i64 z.cap, .int .i64 (z.T.close h).s.cap, .slice ra1 (List.length (u32s (z.T.close h).s.rel)) rc1, .int .i64 ((z.T.close h).s.fresh + 1), .slice z.ga (List.length (u32s ((z.T.close h).s.gen.drop 1))) z.gc, .slice oa1 (List.length (bos ((z.T.close h).s.used.drop 1))) oc1, .slice z.va (List.length (u32s ((z.T.close h).vals.drop 1))) z.vc, .int .i64 z.cap, .slice z.pa (List.length (enP z.P)) z.pc, .slice b4 (List.length (bos (z.B.set ((z.T.val h) - 1).toNat false))) d1, .slice z.la (List.length (enL z.LL)) z.lc] 43) rfl
  refine WL.nil ?_
  refine ⟨by exact trivial, ?_⟩
  intro m3
  replace hS := hS.drewN m3; generalize hwm3 : World.drewN _ _ = w at *; clear hwm3
  as_aux_lemma =>
  refine WC.seq <| WC.region ?_
  replace hS : St g (Shs rsF [z.rel h ra1 oa1 b4 rc1 oc1 d1] :: cel b5 #[.int .i64 z.cap, .slice z.pa (List.length (enP z.P)) z.pc, .slice b4 (List.length (bos (z.B.set ((z.T.val h) - 1).toNat false))) d1] 40 :: Sh 4 1 (bos (z.B.set ((z.T.val h) - 1).toNat false)) b4 d1 :: cel b3 #[.int .i64 (z.T.close h).s.cap, .slice ra1 (List.length (u32s (z.T.close h).s.rel)) rc1, .int .i64 ((z.T.close h).s.fresh + 1), .slice z.ga (List.length (u32s ((z.T.close h).s.gen.drop 1))) z.gc, .slice oa1 (List.length (bos ((z.T.close h).s.used.drop 1))) oc1, .slice z.va (List.length (u32s ((z.T.close h).vals.drop 1))) z.vc] 37 :: Sh 64 1 (u32s (z.T.close h).s.rel) ra1 rc1 :: Sh 64 1 (u32s ((z.T.close h).s.gen.drop 1)) z.ga z.gc :: Sh 4 1 (bos ((z.T.close h).s.used.drop 1)) oa1 oc1 :: Sh 64 1 (u32s ((z.T.close h).vals.drop 1)) z.va z.vc :: Sh 56 1 (enP z.P) z.pa z.pc :: Shs prF z.P :: Sh 49 1 (enL z.LL) z.la z.lc :: Shs leF z.LL :: cel b2 #[.int .i64 0, .int .i64 0, .slice none 0 0, .int .i64 0, .slice none 0 0, .slice none 0 0, .slice none 0 0, .int .i64 0, .slice none 0 0, .slice none 0 0, .slice none 0 0] 43 :: cel b1 #[.int .i64 z.cap, .int .i64 (z.T.close h).s.cap, .slice ra1 (List.length (u32s (z.T.close h).s.rel)) rc1, .int .i64 ((z.T.close h).s.fresh + 1), .slice z.ga (List.length (u32s ((z.T.close h).s.gen.drop 1))) z.gc, .slice oa1 (List.length (bos ((z.T.close h).s.used.drop 1))) oc1, .slice z.va (List.length (u32s ((z.T.close h).vals.drop 1))) z.vc, .int .i64 z.cap, .slice z.pa (List.length (enP z.P)) z.pc, .slice b4 (List.length (bos (z.B.set ((z.T.val h) - 1).toNat false))) d1, .slice z.la (List.length (enL z.LL)) z.lc] 43 :: Shs rsF [z] :: L) w := hS.rsPut (z.rel h ra1 oa1 b4 rc1 oc1 d1) [3, 3, 3, 3, 3, 3, 1, 2, 2] rfl
  refine WL.ldF rfl rfl 13 hS rfl rfl ag_43 <| WL.stF rfl rfl rfl 12 hS rfl rfl rfl rfl rfl ag_43 (fun w hS => ?_)
  replace hS := hS.n15 L (a0 := Shs rsF [z.rel h ra1 oa1 b4 rc1 oc1 d1]) (a12 := cel b2 #[.int .i64 z.cap, .int .i64 (z.T.close h).s.cap, .slice ra1 (List.length (u32s (z.T.close h).s.rel)) rc1, .int .i64 ((z.T.close h).s.fresh + 1), .slice z.ga (List.length (u32s ((z.T.close h).s.gen.drop 1))) z.gc, .slice oa1 (List.length (bos ((z.T.close h).s.used.drop 1))) oc1, .slice z.va (List.length (u32s ((z.T.close h).vals.drop 1))) z.vc, .int .i64 z.cap, .slice z.pa (List.length (enP z.P)) z.pc, .slice b4 (List.length (bos (z.B.set ((z.T.val h) - 1).toNat false))) d1, .slice z.la (List.length (enL z.LL)) z.lc] 43) rfl
  refine WL.r 1 rfl <| WL.nil <| WC.ret ?_
  refine ⟨[.agg #[.int .i64 z.cap, .int .i64 (z.T.close h).s.cap, .slice ra1 (List.length (u32s (z.T.close h).s.rel)) rc1, .int .i64 ((z.T.close h).s.fresh + 1), .slice z.ga (List.length (u32s ((z.T.close h).s.gen.drop 1))) z.gc, .slice oa1 (List.length (bos ((z.T.close h).s.used.drop 1))) oc1, .slice z.va (List.length (u32s ((z.T.close h).vals.drop 1))) z.vc, .int .i64 z.cap, .slice z.pa (List.length (enP z.P)) z.pc, .slice b4 (List.length (bos (z.B.set ((z.T.val h) - 1).toNat false))) d1, .slice z.la (List.length (enL z.LL)) z.lc], .int .i64 0], ⟨⟨_, rfl, hS.lvF 12 rfl ag_43⟩, rfl⟩, ?_⟩
  replace hS := (hS.sel 15 [0] rfl)
  exact ⟨_, _, _, _, _, _, rfl, hS⟩
set_option maxRecDepth 8192 in
theorem qs_num {g w : World} {L : List HP} (z : RSt) (h : Int) (hz : ROk z) (hh : 0 ≤ h ∧ h ≤ 18446744073709551615) (hS : St g (Shs rsF [z] :: L) w) :
    Sp Tryz.prog 65 [.agg #[.int .i64 z.cap, .int .i64 z.T.s.cap, .slice z.ra (List.length (u32s z.T.s.rel)) z.rc, .int .i64 (z.T.s.fresh + 1), .slice z.ga (List.length (u32s (z.T.s.gen.drop 1))) z.gc, .slice z.oa (List.length (bos (z.T.s.used.drop 1))) z.oc, .slice z.va (List.length (u32s (z.T.vals.drop 1))) z.vc, .int .i64 z.cap, .slice z.pa (List.length (enP z.P)) z.pc, .slice z.ba (List.length (bos z.B)) z.bc, .slice z.la (List.length (enL z.LL)) z.lc], .int .u64 h] w (fun v w' => v = .tuple #[.int .i64 (if z.T.s.opn h = true then z.T.val h else 0), .int .i64 (if z.T.s.opn h = true then 0 else 5)] ∧ St g (Shs rsF [z] :: L) w') := by
  by_cases hn : z.T.s.opn h = true
  · rw [if_pos hn, if_pos hn]; exact qs_num_ok z h hz hh hn hS
  · rw [if_neg hn, if_neg hn]; exact qs_num_bad z h hz hh (Bool.eq_false_iff.2 hn) hS
set_option maxRecDepth 8192 in
theorem qs_com_inv {g w : World} {L : List HP} (z : RSt) (x : LsE) (y : Int) (pa2 : Option Addr) (pc2 : Nat) (hz : ROk z) (hS : St g (Shs rsF [z] :: Sh 121 2 (en2 x.es) x.a x.c :: Sh 23 1 (u64s [y, y]) pa2 pc2 :: L) w) :
    Sp Tryz.prog 68 [.agg #[.int .i64 z.cap, .int .i64 z.T.s.cap, .slice z.ra (List.length (u32s z.T.s.rel)) z.rc, .int .i64 (z.T.s.fresh + 1), .slice z.ga (List.length (u32s (z.T.s.gen.drop 1))) z.gc, .slice z.oa (List.length (bos (z.T.s.used.drop 1))) z.oc, .slice z.va (List.length (u32s (z.T.vals.drop 1))) z.vc, .int .i64 z.cap, .slice z.pa (List.length (enP z.P)) z.pc, .slice z.ba (List.length (bos z.B)) z.bc, .slice z.la (List.length (enL z.LL)) z.lc], .slice x.a (List.length (en2 x.es)) x.c, .slice pa2 (List.length (u64s [y, y])) pc2] w (fun v w' => v = .tuple #[.agg #[.int .i64 z.cap, .int .i64 z.T.s.cap, .slice z.ra (List.length (u32s z.T.s.rel)) z.rc, .int .i64 (z.T.s.fresh + 1), .slice z.ga (List.length (u32s (z.T.s.gen.drop 1))) z.gc, .slice z.oa (List.length (bos (z.T.s.used.drop 1))) z.oc, .slice z.va (List.length (u32s (z.T.vals.drop 1))) z.vc, .int .i64 z.cap, .slice z.pa (List.length (enP z.P)) z.pc, .slice z.ba (List.length (bos z.B)) z.bc, .slice z.la (List.length (enL z.LL)) z.lc], .int .u64 0, .int .i64 1] ∧ St g (Shs rsF [z] :: Sh 121 2 (en2 x.es) x.a x.c :: Sh 23 1 (u64s [y, y]) pa2 pc2 :: L) w') := by
  refine Sp.enter Tryz.func68 rfl (by kernel_rfl) (by kernel_rfl) ?_
  have _ := hz
  refine WC.seq <| WC.region <| WL.box rfl rfl #[.int .i64 z.cap, .int .i64 z.T.s.cap, .slice z.ra (List.length (u32s z.T.s.rel)) z.rc, .int .i64 (z.T.s.fresh + 1), .slice z.ga (List.length (u32s (z.T.s.gen.drop 1))) z.gc, .slice z.oa (List.length (bos (z.T.s.used.drop 1))) z.oc, .slice z.va (List.length (u32s (z.T.vals.drop 1))) z.vc, .int .i64 z.cap, .slice z.pa (List.length (enP z.P)) z.pc, .slice z.ba (List.length (bos z.B)) z.bc, .slice z.la (List.length (enL z.LL)) z.lc] hS rfl rfl (fun b1 w hS => ?_)
  refine WL.new rfl rfl zv_43 hS (fun b2 w hS => ?_)
  refine WL.r 2 rfl <| WL.nil <| WC.seq <| WC.seq <| WC.plan [([0, 1, 2, 3, 4, 5, 6, 7, 8, 11, 9, 12, 10, 13, 14, 15, 16], none)] (by kernel_rfl) (by kernel_rfl) ?_
  have hpl : (u64s [y, y]).length = 2 := rfl
  refine WQ.r 4 rfl <| WQ.reb 22 (.bool false) (congrArg Value.bool (decide_eq_false ((by omega)))) ?_
  refine WQ.ung rfl rfl rfl <| WQ.r 1 rfl <| WQ.ung rfl rfl rfl <| WQ.r 1 rfl <| WQ.ung rfl rfl rfl <| WQ.r 1 rfl <| WQ.ung rfl rfl rfl <| WQ.r 1 rfl <| WQ.reb 26 (.bool true) (congrArg Value.bool (decide_eq_true ((by omega)))) ?_
  refine WQ.ung rfl rfl rfl <| WQ.r 1 rfl <| WQ.ung rfl rfl rfl <| WQ.r 1 rfl <| WQ.ung rfl rfl rfl <| WQ.ix rfl rfl (i := 0) (0) el_45 rfl rfl (by omega) (by omega) (hS.rdS 4 rfl (u64s_at (k := 0) (x := y) rfl)).1 ?_
  refine WQ.ung rfl rfl rfl <| WQ.ix rfl rfl (i := 1) (1) el_45 rfl rfl (by omega) (by omega) (hS.rdS 4 rfl (u64s_at (k := 1) (x := y) rfl)).1 ?_
  refine WQ.ung rfl rfl rfl <| WQ.run 1 [.int .u64 y] rfl (by exact (hS.rdS 4 rfl (u64s_at (k := 0) (x := y) rfl)).2 0 _ rfl) ?_
  refine WQ.ung rfl rfl rfl <| WQ.run 1 [.int .u64 y] rfl (by exact (hS.rdS 4 rfl (u64s_at (k := 1) (x := y) rfl)).2 0 _ rfl) ?_
  refine WQ.ung rfl rfl rfl <| WQ.r 1 rfl <| WQ.ung rfl rfl rfl <| WQ.r 2 rfl <| WQ.nil ?_
  intro m1
  replace hS := hS.drewN m1; generalize hwm1 : World.drewN _ _ = w at *; clear hwm1
  as_aux_lemma =>
  refine WC.ifT rfl (decide_eq_true (rfl)) <| WC.seq <| WC.region <| WL.ldF rfl rfl 1 hS rfl rfl ag_43 <| WL.stF rfl rfl rfl 0 hS rfl rfl rfl rfl rfl ag_43 (fun w hS => ?_)
  replace hS := hS.n5 L (a0 := cel b2 #[.int .i64 z.cap, .int .i64 z.T.s.cap, .slice z.ra (List.length (u32s z.T.s.rel)) z.rc, .int .i64 (z.T.s.fresh + 1), .slice z.ga (List.length (u32s (z.T.s.gen.drop 1))) z.gc, .slice z.oa (List.length (bos (z.T.s.used.drop 1))) z.oc, .slice z.va (List.length (u32s (z.T.vals.drop 1))) z.vc, .int .i64 z.cap, .slice z.pa (List.length (enP z.P)) z.pc, .slice z.ba (List.length (bos z.B)) z.bc, .slice z.la (List.length (enL z.LL)) z.lc] 43) (a1 := cel b1 #[.int .i64 z.cap, .int .i64 z.T.s.cap, .slice z.ra (List.length (u32s z.T.s.rel)) z.rc, .int .i64 (z.T.s.fresh + 1), .slice z.ga (List.length (u32s (z.T.s.gen.drop 1))) z.gc, .slice z.oa (List.length (bos (z.T.s.used.drop 1))) z.oc, .slice z.va (List.length (u32s (z.T.vals.drop 1))) z.vc, .int .i64 z.cap, .slice z.pa (List.length (enP z.P)) z.pc, .slice z.ba (List.length (bos z.B)) z.bc, .slice z.la (List.length (enL z.LL)) z.lc] 43) rfl
  refine WL.r 2 rfl <| WL.nil <| WC.ret ?_
  refine ⟨[.agg #[.int .i64 z.cap, .int .i64 z.T.s.cap, .slice z.ra (List.length (u32s z.T.s.rel)) z.rc, .int .i64 (z.T.s.fresh + 1), .slice z.ga (List.length (u32s (z.T.s.gen.drop 1))) z.gc, .slice z.oa (List.length (bos (z.T.s.used.drop 1))) z.oc, .slice z.va (List.length (u32s (z.T.vals.drop 1))) z.vc, .int .i64 z.cap, .slice z.pa (List.length (enP z.P)) z.pc, .slice z.ba (List.length (bos z.B)) z.bc, .slice z.la (List.length (enL z.LL)) z.lc], .int .u64 0, .int .i64 1], ⟨⟨_, rfl, hS.lvF 0 rfl ag_43⟩, rfl, rfl⟩, ?_⟩
  replace hS := (hS.sel 2 [] rfl)
  exact ⟨rfl, hS⟩
theorem num_ok {T : TM} {h : Int} (hn : ¬ (if T.s.opn h = true then (0 : Int) else 5) ≠ 0) : T.s.opn h = true := Classical.byContradiction fun h1 => hn (by rw [if_neg h1]; decide)
theorem num_bad {T : TM} {h : Int} (hn : (if T.s.opn h = true then (0 : Int) else 5) ≠ 0) : ¬ T.s.opn h = true := fun h1 => hn (by rw [if_pos h1])
theorem kless {T : TM} {hs : List Int} {k : Nat} (hbad : ∃ y ∈ hs, T.s.opn y = false) (hop : ∀ y ∈ hs.take k, T.s.opn y = true) : (k : Int) < (List.length (u64s hs) : Int) := by
  rw [u64s_len]
  refine Classical.byContradiction fun h => ?_
  obtain ⟨y, hy, hb⟩ := hbad
  have := hop y (by rw [List.take_of_length_le (by omega)]; exact hy)
  rw [hb] at this; cases this
theorem take_all {α : Type} {l : List α} {k : Nat} {y : α} {q : α → Prop} (h : ∀ x ∈ l.take k, q x) (hy : l[k]? = some y) (hq : q y) : ∀ x ∈ l.take (k + 1), q x := fun x hx => by
  rw [List.take_add_one, hy] at hx
  rcases List.mem_append.1 hx with hx | hx
  · exact h x hx
  · have : x = y := by simpa using hx
    rw [this]; exact hq
set_option maxRecDepth 8192 in
theorem qs_com_bad {g w : World} {L : List HP} (z : RSt) (x : LsE) (hs : List Int) (pa2 : Option Addr) (pc2 : Nat) (hz : ROk z) (hhs : ∀ y ∈ hs, 0 ≤ y ∧ y ≤ 18446744073709551615) (hsl : hs.length ≤ 10) (hps : okPs hs) (hbad : ∃ y ∈ hs, z.T.s.opn y = false) (hS : St g (Shs rsF [z] :: Sh 121 2 (en2 x.es) x.a x.c :: Sh 23 1 (u64s hs) pa2 pc2 :: L) w) :
    Sp Tryz.prog 68 [.agg #[.int .i64 z.cap, .int .i64 z.T.s.cap, .slice z.ra (List.length (u32s z.T.s.rel)) z.rc, .int .i64 (z.T.s.fresh + 1), .slice z.ga (List.length (u32s (z.T.s.gen.drop 1))) z.gc, .slice z.oa (List.length (bos (z.T.s.used.drop 1))) z.oc, .slice z.va (List.length (u32s (z.T.vals.drop 1))) z.vc, .int .i64 z.cap, .slice z.pa (List.length (enP z.P)) z.pc, .slice z.ba (List.length (bos z.B)) z.bc, .slice z.la (List.length (enL z.LL)) z.lc], .slice x.a (List.length (en2 x.es)) x.c, .slice pa2 (List.length (u64s hs)) pc2] w (fun v w' => v = .tuple #[.agg #[.int .i64 z.cap, .int .i64 z.T.s.cap, .slice z.ra (List.length (u32s z.T.s.rel)) z.rc, .int .i64 (z.T.s.fresh + 1), .slice z.ga (List.length (u32s (z.T.s.gen.drop 1))) z.gc, .slice z.oa (List.length (bos (z.T.s.used.drop 1))) z.oc, .slice z.va (List.length (u32s (z.T.vals.drop 1))) z.vc, .int .i64 z.cap, .slice z.pa (List.length (enP z.P)) z.pc, .slice z.ba (List.length (bos z.B)) z.bc, .slice z.la (List.length (enL z.LL)) z.lc], .int .u64 0, .int .i64 5] ∧ St g (Shs rsF [z] :: Sh 121 2 (en2 x.es) x.a x.c :: Sh 23 1 (u64s hs) pa2 pc2 :: L) w') := by
  refine Sp.enter Tryz.func68 rfl (by kernel_rfl) (by kernel_rfl) ?_
  have _ := hsl
  refine WC.seq <| WC.region ?_
  have hpl := u64s_len hs; have hp2 := hps.1
  refine WL.box rfl rfl #[.int .i64 z.cap, .int .i64 z.T.s.cap, .slice z.ra (List.length (u32s z.T.s.rel)) z.rc, .int .i64 (z.T.s.fresh + 1), .slice z.ga (List.length (u32s (z.T.s.gen.drop 1))) z.gc, .slice z.oa (List.length (bos (z.T.s.used.drop 1))) z.oc, .slice z.va (List.length (u32s (z.T.vals.drop 1))) z.vc, .int .i64 z.cap, .slice z.pa (List.length (enP z.P)) z.pc, .slice z.ba (List.length (bos z.B)) z.bc, .slice z.la (List.length (enL z.LL)) z.lc] hS rfl rfl (fun b1 w hS => ?_)
  refine WL.new rfl rfl zv_43 hS (fun b2 w hS => ?_)
  refine WL.r 2 rfl <| WL.nil <| WC.seq <| WC.seq <| WC.cut [1, 2, 3, 6, 7, 8, 35] (fun vs w => ∃ (t35 : Bool), vs = [.slice x.a (List.length (en2 x.es)) x.c, .slice pa2 (List.length (u64s hs)) pc2, .pointer (some ⟨b1, 0, none⟩), .pointer (some ⟨b2, 0, none⟩), .int .u64 0, .int .i64 0, .bool t35] ∧ St g (cel b2 #[.int .i64 0, .int .i64 0, .slice none 0 0, .int .i64 0, .slice none 0 0, .slice none 0 0, .slice none 0 0, .int .i64 0, .slice none 0 0, .slice none 0 0, .slice none 0 0] 43 :: cel b1 #[.int .i64 z.cap, .int .i64 z.T.s.cap, .slice z.ra (List.length (u32s z.T.s.rel)) z.rc, .int .i64 (z.T.s.fresh + 1), .slice z.ga (List.length (u32s (z.T.s.gen.drop 1))) z.gc, .slice z.oa (List.length (bos (z.T.s.used.drop 1))) z.oc, .slice z.va (List.length (u32s (z.T.vals.drop 1))) z.vc, .int .i64 z.cap, .slice z.pa (List.length (enP z.P)) z.pc, .slice z.ba (List.length (bos z.B)) z.bc, .slice z.la (List.length (enL z.LL)) z.lc] 43 :: Shs rsF [z] :: Sh 121 2 (en2 x.es) x.a x.c :: Sh 23 1 (u64s hs) pa2 pc2 :: L) w ∧ (t35 = false)) ?_ ?_
  · refine WC.plan [([0, 1, 2, 3, 4, 5, 6, 7, 8, 11, 9, 12, 10, 13, 14, 15, 16], none)] (by kernel_rfl) (by kernel_rfl) ?_
    refine WQ.r 4 rfl <| WQ.reb 22 (.bool false) (congrArg Value.bool (decide_eq_false ((by omega)))) ?_
    refine WQ.ung rfl rfl rfl <| WQ.r 1 rfl <| WQ.ung rfl rfl rfl <| WQ.r 1 rfl <| WQ.ung rfl rfl rfl <| WQ.r 1 rfl <| WQ.ung rfl rfl rfl <| WQ.r 1 rfl ?_
    by_cases cg1 : (List.length (u64s hs) : Int) = 2
    · refine WQ.reb 26 (.bool true) (congrArg Value.bool (decide_eq_true cg1)) <| WQ.ung rfl rfl rfl <| WQ.r 1 rfl <| WQ.ung rfl rfl rfl <| WQ.r 1 rfl <| WQ.ung rfl rfl rfl ?_
      obtain ⟨p0, h0⟩ : ∃ u, hs[0]? = some u := ⟨_, List.getElem?_eq_getElem (by omega)⟩; obtain ⟨p1, h1⟩ : ∃ u, hs[1]? = some u := ⟨_, List.getElem?_eq_getElem (by omega)⟩
      refine WQ.ix rfl rfl (i := 0) (0) el_45 rfl rfl (by omega) (by omega) (hS.rdS 4 rfl (u64s_at h0)).1 ?_
      refine WQ.ung rfl rfl rfl <| WQ.ix rfl rfl (i := 1) (1) el_45 rfl rfl (by omega) (by omega) (hS.rdS 4 rfl (u64s_at h1)).1 ?_
      refine WQ.ung rfl rfl rfl <| WQ.run 1 [.int .u64 p0] rfl (by exact (hS.rdS 4 rfl (u64s_at h0)).2 0 _ rfl) ?_
      refine WQ.ung rfl rfl rfl <| WQ.run 1 [.int .u64 p1] rfl (by exact (hS.rdS 4 rfl (u64s_at h1)).2 0 _ rfl) ?_
      refine WQ.ung rfl rfl rfl <| WQ.r 1 rfl <| WQ.ung rfl rfl rfl <| WQ.r 2 rfl <| WQ.nil ?_
      intro m1
      replace hS := hS.drewN m1; generalize hwm1 : World.drewN _ _ = w at *; clear hwm1
      exact ⟨decide (p0 = p1), rfl, hS, (decide_eq_false (okPs_ne hps h0 h1))⟩
    · refine WQ.reb 26 (.bool false) (congrArg Value.bool (decide_eq_false cg1)) <| WQ.skp rfl rfl rfl rfl <| WQ.skp rfl rfl rfl rfl <| WQ.skp rfl rfl rfl rfl <| WQ.skp rfl rfl rfl rfl <| WQ.skp rfl rfl rfl rfl <| WQ.skp rfl rfl rfl rfl <| WQ.skp rfl rfl rfl rfl <| WQ.ung rfl rfl rfl <| WQ.r 2 rfl <| WQ.nil ?_
      intro m1
      replace hS := hS.drewN m1; generalize hwm1 : World.drewN _ _ = w at *; clear hwm1
      exact ⟨false, rfl, hS, (rfl)⟩
  clear hS; rintro _ w j ⟨t35, rfl, hS, h35⟩
  refine WC.ifF rfl h35 <| WC.skip <| WC.seq <| WC.region <| WL.r 1 rfl <| WL.nil <| WC.seq <| WC.seq <| WC.region <| WL.r 1 rfl <| WL.nil <| WC.block ?_
  replace hS := hS.nil_ 3 1
  refine WC.loop [1, 2, 3, 6, 9, 10] (fun kM vs w => ∃ (k : Nat) (acc : List Int) (u : Option Addr) (d : Nat), vs = [.slice x.a (List.length (en2 x.es)) x.c, .slice pa2 (List.length (u64s hs)) pc2, .pointer (some ⟨b1, 0, none⟩), .pointer (some ⟨b2, 0, none⟩), .slice u (List.length (i64s acc)) d, .int .i64 (k : Int)] ∧ St g (Own 3 1 (i64s acc) u d :: cel b2 #[.int .i64 0, .int .i64 0, .slice none 0 0, .int .i64 0, .slice none 0 0, .slice none 0 0, .slice none 0 0, .int .i64 0, .slice none 0 0, .slice none 0 0, .slice none 0 0] 43 :: cel b1 #[.int .i64 z.cap, .int .i64 z.T.s.cap, .slice z.ra (List.length (u32s z.T.s.rel)) z.rc, .int .i64 (z.T.s.fresh + 1), .slice z.ga (List.length (u32s (z.T.s.gen.drop 1))) z.gc, .slice z.oa (List.length (bos (z.T.s.used.drop 1))) z.oc, .slice z.va (List.length (u32s (z.T.vals.drop 1))) z.vc, .int .i64 z.cap, .slice z.pa (List.length (enP z.P)) z.pc, .slice z.ba (List.length (bos z.B)) z.bc, .slice z.la (List.length (enL z.LL)) z.lc] 43 :: Shs rsF [z] :: Sh 121 2 (en2 x.es) x.a x.c :: Sh 23 1 (u64s hs) pa2 pc2 :: L) w ∧ (k ≤ hs.length) ∧ (∀ y ∈ hs.take k, z.T.s.opn y = true) ∧ (acc = (hs.take k).map z.T.val) ∧ (hs.length - k) = kM) ((List.length hs) - 0) ⟨0, [], none, 0, rfl, hS, (Nat.zero_le _), (fun _ h => by cases h), (rfl), rfl⟩ ?_
  clear hS; rintro _ _ w j ⟨k, acc, u, d, rfl, hS, hk, hop, ha, rfl⟩
  refine WC.seq <| WC.seq <| WC.region <| WL.r 4 rfl <| WL.nil ?_
  as_aux_lemma =>
  refine WC.ifT rfl (decide_eq_true ((kless hbad hop))) <| WC.skip <| WC.seq <| WC.block <| WC.seq <| WC.plan [([0, 1, 2, 3, 4], some (5, [])), ([6, 7, 8, 9, 10], none)] (by kernel_rfl) (by kernel_rfl) ?_
  refine WQ.ldF rfl rfl 2 hS rfl rfl ag_43 <| WQ.r 2 rfl ?_
  have hlt := kless hbad hop; have hul2 := u64s_len hs; obtain ⟨y, hy⟩ : ∃ u, hs[k]? = some u := ⟨_, List.getElem?_eq_getElem (by omega)⟩; have hyr := hhs y (List.mem_of_getElem? hy); have hacl := i64s_len acc; have hacl2 : acc.length = k := (by rw [ha, List.length_map, List.length_take]; omega)
  refine WQ.ix rfl rfl (i := (k : Int)) (k) el_45 rfl rfl (by omega) (by omega) (hS.rdS 5 rfl (u64s_at hy)).1 ?_
  refine WQ.run 1 [.int .u64 y] rfl (by exact (hS.rdS 5 rfl (u64s_at hy)).2 0 _ rfl) ?_
  refine WQ.nil ?_
  intro m1
  replace hS := hS.drewN m1; generalize hwm1 : World.drewN _ _ = w at *; clear hwm1
  refine WL.call rfl rfl (qs_num (z := z) (h := y) (hz := hz) (hh := hyr) (hS := (hS.sel 4 [3, 0, 0, 0] rfl))) rfl ?_
  clear hS; rintro _ w ⟨rfl, hS⟩
  replace hS := hS.n6 L rfl
  refine WL.nil ?_
  refine ⟨by exact trivial, ?_⟩
  refine WQ.r 5 rfl <| WQ.nil ?_
  intro m2
  replace hS := hS.drewN m2; generalize hwm2 : World.drewN _ _ = w at *; clear hwm2
  refine WC.seq <| WC.seq <| WC.region <| WL.r 2 rfl <| WL.nil ?_
  as_aux_lemma =>
  refine WC.ifP rfl (fun cd1 => ?_) (fun cd1 => ?_)
  · refine WC.seq <| WC.region <| WL.ldF rfl rfl 3 hS rfl rfl ag_43 <| WL.r 1 rfl <| WL.stF rfl rfl rfl 2 hS rfl rfl rfl rfl rfl ag_43 (fun w hS => ?_)
    replace hS := hS.n6 L (a2 := cel b2 #[.int .i64 z.cap, .int .i64 z.T.s.cap, .slice z.ra (List.length (u32s z.T.s.rel)) z.rc, .int .i64 (z.T.s.fresh + 1), .slice z.ga (List.length (u32s (z.T.s.gen.drop 1))) z.gc, .slice z.oa (List.length (bos (z.T.s.used.drop 1))) z.oc, .slice z.va (List.length (u32s (z.T.vals.drop 1))) z.vc, .int .i64 z.cap, .slice z.pa (List.length (enP z.P)) z.pc, .slice z.ba (List.length (bos z.B)) z.bc, .slice z.la (List.length (enL z.LL)) z.lc] 43) rfl
    refine WL.r 2 rfl <| WL.nil <| WC.ret ?_
    refine ⟨[.agg #[.int .i64 z.cap, .int .i64 z.T.s.cap, .slice z.ra (List.length (u32s z.T.s.rel)) z.rc, .int .i64 (z.T.s.fresh + 1), .slice z.ga (List.length (u32s (z.T.s.gen.drop 1))) z.gc, .slice z.oa (List.length (bos (z.T.s.used.drop 1))) z.oc, .slice z.va (List.length (u32s (z.T.vals.drop 1))) z.vc, .int .i64 z.cap, .slice z.pa (List.length (enP z.P)) z.pc, .slice z.ba (List.length (bos z.B)) z.bc, .slice z.la (List.length (enL z.LL)) z.lc], .int .u64 0, .int .i64 (if z.T.s.opn y = true then 0 else 5)], ⟨⟨_, rfl, hS.lvF 2 rfl ag_43⟩, rfl, rfl⟩, ?_⟩
    replace hS := (hS.sel 4 [0] rfl)
    exact ⟨by rw [if_neg (num_bad cd1)]; rfl, hS⟩
  · refine WC.skip <| WC.region <| WL.r 2 rfl <| WL.lit rfl rfl (i64s [if z.T.s.opn y = true then z.T.val y else 0]) el_56 hS (by exact ⟨rfl, rfl⟩) (i64s_ok _) rfl (Nat.le_of_ble_eq_true rfl) (fun b3 w hS => ?_)
    refine WL.app rfl rfl 2 (i64s (acc ++ [if z.T.s.opn y = true then z.T.val y else 0])) el_56 hS rfl (hS.srcO 0 rfl) (i64s_app _ _).symm (Rm.of (by first | omega | (simp <;> omega)) (by decide)) rfl rfl (fun a1 c1 w hS => ?_)
    replace hS := hS.n7 L (a0 := Own 3 1 (i64s [if z.T.s.opn y = true then z.T.val y else 0]) (some ⟨b3, 0, none⟩) (List.length (i64s [if z.T.s.opn y = true then z.T.val y else 0]))) (a2 := Own 3 1 (i64s (acc ++ [if z.T.s.opn y = true then z.T.val y else 0])) a1 c1) rfl
    refine WL.r 1 rfl <| WL.nil <| WC.region <| WL.r 2 rfl <| WL.nw 42 rfl (w64 (by omega)) ?_
    refine WL.r 1 rfl <| WL.nil ?_
    exact ⟨_, by omega, k + 1, acc ++ [if z.T.s.opn y = true then z.T.val y else 0], _, _, rfl, (hS.sel 5 [2, 2, 2, 1] rfl), (by omega), (take_all hop hy (num_ok cd1)), (by rw [ha, List.take_add_one, hy, if_pos (num_ok cd1)]; simp), rfl⟩
set_option maxRecDepth 8192 in
theorem qs_com_full {g w : World} {L : List HP} (z : RSt) (x : LsE) (hs : List Int) (pa2 : Option Addr) (pc2 : Nat) (hz : ROk z) (hhs : ∀ y ∈ hs, 0 ≤ y ∧ y ≤ 18446744073709551615) (hsl : hs.length ≤ 10) (hps : okPs hs) (hall : ∀ y ∈ hs, z.T.s.opn y = true) (hrm : z.room < 1) (hS : St g (Shs rsF [z] :: Sh 121 2 (en2 x.es) x.a x.c :: Sh 23 1 (u64s hs) pa2 pc2 :: L) w) :
    Sp Tryz.prog 68 [.agg #[.int .i64 z.cap, .int .i64 z.T.s.cap, .slice z.ra (List.length (u32s z.T.s.rel)) z.rc, .int .i64 (z.T.s.fresh + 1), .slice z.ga (List.length (u32s (z.T.s.gen.drop 1))) z.gc, .slice z.oa (List.length (bos (z.T.s.used.drop 1))) z.oc, .slice z.va (List.length (u32s (z.T.vals.drop 1))) z.vc, .int .i64 z.cap, .slice z.pa (List.length (enP z.P)) z.pc, .slice z.ba (List.length (bos z.B)) z.bc, .slice z.la (List.length (enL z.LL)) z.lc], .slice x.a (List.length (en2 x.es)) x.c, .slice pa2 (List.length (u64s hs)) pc2] w (fun v w' => v = .tuple #[.agg #[.int .i64 z.cap, .int .i64 z.T.s.cap, .slice z.ra (List.length (u32s z.T.s.rel)) z.rc, .int .i64 (z.T.s.fresh + 1), .slice z.ga (List.length (u32s (z.T.s.gen.drop 1))) z.gc, .slice z.oa (List.length (bos (z.T.s.used.drop 1))) z.oc, .slice z.va (List.length (u32s (z.T.vals.drop 1))) z.vc, .int .i64 z.cap, .slice z.pa (List.length (enP z.P)) z.pc, .slice z.ba (List.length (bos z.B)) z.bc, .slice z.la (List.length (enL z.LL)) z.lc], .int .u64 0, .int .i64 2] ∧ St g (Shs rsF [z] :: Sh 121 2 (en2 x.es) x.a x.c :: Sh 23 1 (u64s hs) pa2 pc2 :: L) w') := by
  refine Sp.enter Tryz.func68 rfl (by kernel_rfl) (by kernel_rfl) ?_
  have _ := hsl
  refine WC.seq <| WC.region ?_
  have hpl := u64s_len hs; have hp2 := hps.1
  refine WL.box rfl rfl #[.int .i64 z.cap, .int .i64 z.T.s.cap, .slice z.ra (List.length (u32s z.T.s.rel)) z.rc, .int .i64 (z.T.s.fresh + 1), .slice z.ga (List.length (u32s (z.T.s.gen.drop 1))) z.gc, .slice z.oa (List.length (bos (z.T.s.used.drop 1))) z.oc, .slice z.va (List.length (u32s (z.T.vals.drop 1))) z.vc, .int .i64 z.cap, .slice z.pa (List.length (enP z.P)) z.pc, .slice z.ba (List.length (bos z.B)) z.bc, .slice z.la (List.length (enL z.LL)) z.lc] hS rfl rfl (fun b1 w hS => ?_)
  refine WL.new rfl rfl zv_43 hS (fun b2 w hS => ?_)
  refine WL.r 2 rfl <| WL.nil <| WC.seq <| WC.seq <| WC.cut [1, 2, 3, 6, 7, 8, 35] (fun vs w => ∃ (t35 : Bool), vs = [.slice x.a (List.length (en2 x.es)) x.c, .slice pa2 (List.length (u64s hs)) pc2, .pointer (some ⟨b1, 0, none⟩), .pointer (some ⟨b2, 0, none⟩), .int .u64 0, .int .i64 0, .bool t35] ∧ St g (cel b2 #[.int .i64 0, .int .i64 0, .slice none 0 0, .int .i64 0, .slice none 0 0, .slice none 0 0, .slice none 0 0, .int .i64 0, .slice none 0 0, .slice none 0 0, .slice none 0 0] 43 :: cel b1 #[.int .i64 z.cap, .int .i64 z.T.s.cap, .slice z.ra (List.length (u32s z.T.s.rel)) z.rc, .int .i64 (z.T.s.fresh + 1), .slice z.ga (List.length (u32s (z.T.s.gen.drop 1))) z.gc, .slice z.oa (List.length (bos (z.T.s.used.drop 1))) z.oc, .slice z.va (List.length (u32s (z.T.vals.drop 1))) z.vc, .int .i64 z.cap, .slice z.pa (List.length (enP z.P)) z.pc, .slice z.ba (List.length (bos z.B)) z.bc, .slice z.la (List.length (enL z.LL)) z.lc] 43 :: Shs rsF [z] :: Sh 121 2 (en2 x.es) x.a x.c :: Sh 23 1 (u64s hs) pa2 pc2 :: L) w ∧ (t35 = false)) ?_ ?_
  · refine WC.plan [([0, 1, 2, 3, 4, 5, 6, 7, 8, 11, 9, 12, 10, 13, 14, 15, 16], none)] (by kernel_rfl) (by kernel_rfl) ?_
    refine WQ.r 4 rfl <| WQ.reb 22 (.bool false) (congrArg Value.bool (decide_eq_false ((by omega)))) ?_
    refine WQ.ung rfl rfl rfl <| WQ.r 1 rfl <| WQ.ung rfl rfl rfl <| WQ.r 1 rfl <| WQ.ung rfl rfl rfl <| WQ.r 1 rfl <| WQ.ung rfl rfl rfl <| WQ.r 1 rfl ?_
    by_cases cg1 : (List.length (u64s hs) : Int) = 2
    · refine WQ.reb 26 (.bool true) (congrArg Value.bool (decide_eq_true cg1)) <| WQ.ung rfl rfl rfl <| WQ.r 1 rfl <| WQ.ung rfl rfl rfl <| WQ.r 1 rfl <| WQ.ung rfl rfl rfl ?_
      obtain ⟨p0, h0⟩ : ∃ u, hs[0]? = some u := ⟨_, List.getElem?_eq_getElem (by omega)⟩; obtain ⟨p1, h1⟩ : ∃ u, hs[1]? = some u := ⟨_, List.getElem?_eq_getElem (by omega)⟩
      refine WQ.ix rfl rfl (i := 0) (0) el_45 rfl rfl (by omega) (by omega) (hS.rdS 4 rfl (u64s_at h0)).1 ?_
      refine WQ.ung rfl rfl rfl <| WQ.ix rfl rfl (i := 1) (1) el_45 rfl rfl (by omega) (by omega) (hS.rdS 4 rfl (u64s_at h1)).1 ?_
      refine WQ.ung rfl rfl rfl <| WQ.run 1 [.int .u64 p0] rfl (by exact (hS.rdS 4 rfl (u64s_at h0)).2 0 _ rfl) ?_
      refine WQ.ung rfl rfl rfl <| WQ.run 1 [.int .u64 p1] rfl (by exact (hS.rdS 4 rfl (u64s_at h1)).2 0 _ rfl) ?_
      refine WQ.ung rfl rfl rfl <| WQ.r 1 rfl <| WQ.ung rfl rfl rfl <| WQ.r 2 rfl <| WQ.nil ?_
      intro m1
      replace hS := hS.drewN m1; generalize hwm1 : World.drewN _ _ = w at *; clear hwm1
      exact ⟨decide (p0 = p1), rfl, hS, (decide_eq_false (okPs_ne hps h0 h1))⟩
    · refine WQ.reb 26 (.bool false) (congrArg Value.bool (decide_eq_false cg1)) <| WQ.skp rfl rfl rfl rfl <| WQ.skp rfl rfl rfl rfl <| WQ.skp rfl rfl rfl rfl <| WQ.skp rfl rfl rfl rfl <| WQ.skp rfl rfl rfl rfl <| WQ.skp rfl rfl rfl rfl <| WQ.skp rfl rfl rfl rfl <| WQ.ung rfl rfl rfl <| WQ.r 2 rfl <| WQ.nil ?_
      intro m1
      replace hS := hS.drewN m1; generalize hwm1 : World.drewN _ _ = w at *; clear hwm1
      exact ⟨false, rfl, hS, (rfl)⟩
  clear hS; rintro _ w j ⟨t35, rfl, hS, h35⟩
  refine WC.ifF rfl h35 <| WC.skip <| WC.seq <| WC.region <| WL.r 1 rfl <| WL.nil <| WC.seq <| WC.seq <| WC.region <| WL.r 1 rfl <| WL.nil <| WC.block ?_
  replace hS := hS.nil_ 3 1
  refine WC.loop [1, 2, 3, 6, 9, 10] (fun kM vs w => ∃ (k : Nat) (acc : List Int) (u : Option Addr) (d : Nat), vs = [.slice x.a (List.length (en2 x.es)) x.c, .slice pa2 (List.length (u64s hs)) pc2, .pointer (some ⟨b1, 0, none⟩), .pointer (some ⟨b2, 0, none⟩), .slice u (List.length (i64s acc)) d, .int .i64 (k : Int)] ∧ St g (Own 3 1 (i64s acc) u d :: cel b2 #[.int .i64 0, .int .i64 0, .slice none 0 0, .int .i64 0, .slice none 0 0, .slice none 0 0, .slice none 0 0, .int .i64 0, .slice none 0 0, .slice none 0 0, .slice none 0 0] 43 :: cel b1 #[.int .i64 z.cap, .int .i64 z.T.s.cap, .slice z.ra (List.length (u32s z.T.s.rel)) z.rc, .int .i64 (z.T.s.fresh + 1), .slice z.ga (List.length (u32s (z.T.s.gen.drop 1))) z.gc, .slice z.oa (List.length (bos (z.T.s.used.drop 1))) z.oc, .slice z.va (List.length (u32s (z.T.vals.drop 1))) z.vc, .int .i64 z.cap, .slice z.pa (List.length (enP z.P)) z.pc, .slice z.ba (List.length (bos z.B)) z.bc, .slice z.la (List.length (enL z.LL)) z.lc] 43 :: Shs rsF [z] :: Sh 121 2 (en2 x.es) x.a x.c :: Sh 23 1 (u64s hs) pa2 pc2 :: L) w ∧ (k ≤ hs.length) ∧ (∀ y ∈ hs.take k, z.T.s.opn y = true) ∧ (acc = (hs.take k).map z.T.val) ∧ (hs.length - k) = kM) ((List.length hs) - 0) ⟨0, [], none, 0, rfl, hS, (Nat.zero_le _), (fun _ h => by cases h), (rfl), rfl⟩ ?_
  clear hS; rintro _ _ w j ⟨k, acc, u, d, rfl, hS, hk, hop, ha, rfl⟩
  refine WC.seq <| WC.seq <| WC.region <| WL.r 4 rfl <| WL.nil ?_
  as_aux_lemma =>
  refine WC.ifP rfl (fun cd1 => ?_) (fun cd1 => ?_)
  · refine WC.skip <| WC.seq <| WC.block <| WC.seq <| WC.plan [([0, 1, 2, 3, 4], some (5, [])), ([6, 7, 8, 9, 10], none)] (by kernel_rfl) (by kernel_rfl) ?_
    refine WQ.ldF rfl rfl 2 hS rfl rfl ag_43 <| WQ.r 2 rfl ?_
    have hlt : True := trivial; have hul2 := u64s_len hs; obtain ⟨y, hy⟩ : ∃ u, hs[k]? = some u := ⟨_, List.getElem?_eq_getElem (by omega)⟩; have hyr := hhs y (List.mem_of_getElem? hy); have hacl := i64s_len acc; have hacl2 : acc.length = k := (by rw [ha, List.length_map, List.length_take]; omega)
    refine WQ.ix rfl rfl (i := (k : Int)) (k) el_45 rfl rfl (by omega) (by omega) (hS.rdS 5 rfl (u64s_at hy)).1 ?_
    refine WQ.run 1 [.int .u64 y] rfl (by exact (hS.rdS 5 rfl (u64s_at hy)).2 0 _ rfl) ?_
    refine WQ.nil ?_
    intro m1
    replace hS := hS.drewN m1; generalize hwm1 : World.drewN _ _ = w at *; clear hwm1
    refine WL.call rfl rfl (qs_num (z := z) (h := y) (hz := hz) (hh := hyr) (hS := (hS.sel 4 [3, 0, 0, 0] rfl))) rfl ?_
    clear hS; rintro _ w ⟨rfl, hS⟩
    replace hS := hS.n6 L rfl
    refine WL.nil ?_
    refine ⟨by exact trivial, ?_⟩
    refine WQ.r 5 rfl <| WQ.nil ?_
    intro m2
    replace hS := hS.drewN m2; generalize hwm2 : World.drewN _ _ = w at *; clear hwm2
    refine WC.seq <| WC.seq <| WC.region <| WL.r 2 rfl <| WL.nil ?_
    as_aux_lemma =>
    refine WC.ifF rfl (decide_eq_false ((by rw [if_pos (hall y (List.mem_of_getElem? hy))]; decide))) ?_
    refine WC.skip <| WC.region <| WL.r 2 rfl <| WL.lit rfl rfl (i64s [if z.T.s.opn y = true then z.T.val y else 0]) el_56 hS (by exact ⟨rfl, rfl⟩) (i64s_ok _) rfl (Nat.le_of_ble_eq_true rfl) (fun b3 w hS => ?_)
    refine WL.app rfl rfl 2 (i64s (acc ++ [if z.T.s.opn y = true then z.T.val y else 0])) el_56 hS rfl (hS.srcO 0 rfl) (i64s_app _ _).symm (Rm.of (by first | omega | (simp <;> omega)) (by decide)) rfl rfl (fun a1 c1 w hS => ?_)
    replace hS := hS.n7 L (a0 := Own 3 1 (i64s [if z.T.s.opn y = true then z.T.val y else 0]) (some ⟨b3, 0, none⟩) (List.length (i64s [if z.T.s.opn y = true then z.T.val y else 0]))) (a2 := Own 3 1 (i64s (acc ++ [if z.T.s.opn y = true then z.T.val y else 0])) a1 c1) rfl
    refine WL.r 1 rfl <| WL.nil <| WC.region <| WL.r 2 rfl <| WL.nw 42 rfl (w64 (by omega)) ?_
    refine WL.r 1 rfl <| WL.nil ?_
    exact ⟨_, by omega, k + 1, acc ++ [if z.T.s.opn y = true then z.T.val y else 0], _, _, rfl, (hS.sel 5 [2, 2, 2, 1] rfl), (by omega), (take_all hop hy (hall y (List.mem_of_getElem? hy))), (by rw [ha, List.take_add_one, hy, if_pos (hall y (List.mem_of_getElem? hy))]; simp), rfl⟩
  · refine WC.exit <| WC.seq <| WC.seq <| WC.region <| WL.ldF rfl rfl 2 hS rfl rfl ag_43 <| WL.call rfl rfl (qs_room (z := z) (hz := hz) (hS := (hS.sel 4 [3, 0, 0, 0] rfl))) rfl ?_
    clear hS; rintro _ w ⟨rfl, hS⟩
    replace hS := hS.n6 L rfl
    refine WL.r 1 rfl <| WL.nil <| WC.ifT rfl (decide_eq_true (hrm)) <| WC.seq <| WC.region <| WL.ldF rfl rfl 3 hS rfl rfl ag_43 <| WL.stF rfl rfl rfl 2 hS rfl rfl rfl rfl rfl ag_43 (fun w hS => ?_)
    replace hS := hS.n6 L (a2 := cel b2 #[.int .i64 z.cap, .int .i64 z.T.s.cap, .slice z.ra (List.length (u32s z.T.s.rel)) z.rc, .int .i64 (z.T.s.fresh + 1), .slice z.ga (List.length (u32s (z.T.s.gen.drop 1))) z.gc, .slice z.oa (List.length (bos (z.T.s.used.drop 1))) z.oc, .slice z.va (List.length (u32s (z.T.vals.drop 1))) z.vc, .int .i64 z.cap, .slice z.pa (List.length (enP z.P)) z.pc, .slice z.ba (List.length (bos z.B)) z.bc, .slice z.la (List.length (enL z.LL)) z.lc] 43) rfl
    refine WL.r 2 rfl <| WL.nil <| WC.ret ?_
    refine ⟨[.agg #[.int .i64 z.cap, .int .i64 z.T.s.cap, .slice z.ra (List.length (u32s z.T.s.rel)) z.rc, .int .i64 (z.T.s.fresh + 1), .slice z.ga (List.length (u32s (z.T.s.gen.drop 1))) z.gc, .slice z.oa (List.length (bos (z.T.s.used.drop 1))) z.oc, .slice z.va (List.length (u32s (z.T.vals.drop 1))) z.vc, .int .i64 z.cap, .slice z.pa (List.length (enP z.P)) z.pc, .slice z.ba (List.length (bos z.B)) z.bc, .slice z.la (List.length (enL z.LL)) z.lc], .int .u64 0, .int .i64 2], ⟨⟨_, rfl, hS.lvF 2 rfl ag_43⟩, rfl, rfl⟩, ?_⟩
    replace hS := (hS.sel 4 [0] rfl)
    exact ⟨rfl, hS⟩
set_option maxRecDepth 8192 in
theorem qs_com_ok {g w : World} {L : List HP} (z : RSt) (x : LsE) (hs : List Int) (pa2 : Option Addr) (pc2 : Nat) (hz : ROk z) (hhs : ∀ y ∈ hs, 0 ≤ y ∧ y ≤ 18446744073709551615) (hsl : hs.length ≤ 10) (hps : okPs hs) (hall : ∀ y ∈ hs, z.T.s.opn y = true) (hps2 : okPs (List.map z.T.val hs)) (hlv : ∀ y ∈ hs, liveR z.B (z.T.val y) = true) (hrm : 1 ≤ z.room) (hS : St g (Shs rsF [z] :: Sh 121 2 (en2 x.es) x.a x.c :: Sh 23 1 (u64s hs) pa2 pc2 :: L) w) :
    Sp Tryz.prog 68 [.agg #[.int .i64 z.cap, .int .i64 z.T.s.cap, .slice z.ra (List.length (u32s z.T.s.rel)) z.rc, .int .i64 (z.T.s.fresh + 1), .slice z.ga (List.length (u32s (z.T.s.gen.drop 1))) z.gc, .slice z.oa (List.length (bos (z.T.s.used.drop 1))) z.oc, .slice z.va (List.length (u32s (z.T.vals.drop 1))) z.vc, .int .i64 z.cap, .slice z.pa (List.length (enP z.P)) z.pc, .slice z.ba (List.length (bos z.B)) z.bc, .slice z.la (List.length (enL z.LL)) z.lc], .slice x.a (List.length (en2 x.es)) x.c, .slice pa2 (List.length (u64s hs)) pc2] w (fun v w' => ∃ (ra ga oa va pa ba la e : Option Addr) (rc gc oc vc pc bc lc f : Nat), v = .tuple #[.agg #[.int .i64 (z.add (List.map z.T.val hs) x ra ga oa va pa ba la e rc gc oc vc pc bc lc f).cap, .int .i64 (z.add (List.map z.T.val hs) x ra ga oa va pa ba la e rc gc oc vc pc bc lc f).T.s.cap, .slice (z.add (List.map z.T.val hs) x ra ga oa va pa ba la e rc gc oc vc pc bc lc f).ra (List.length (u32s (z.add (List.map z.T.val hs) x ra ga oa va pa ba la e rc gc oc vc pc bc lc f).T.s.rel)) (z.add (List.map z.T.val hs) x ra ga oa va pa ba la e rc gc oc vc pc bc lc f).rc, .int .i64 ((z.add (List.map z.T.val hs) x ra ga oa va pa ba la e rc gc oc vc pc bc lc f).T.s.fresh + 1), .slice (z.add (List.map z.T.val hs) x ra ga oa va pa ba la e rc gc oc vc pc bc lc f).ga (List.length (u32s ((z.add (List.map z.T.val hs) x ra ga oa va pa ba la e rc gc oc vc pc bc lc f).T.s.gen.drop 1))) (z.add (List.map z.T.val hs) x ra ga oa va pa ba la e rc gc oc vc pc bc lc f).gc, .slice (z.add (List.map z.T.val hs) x ra ga oa va pa ba la e rc gc oc vc pc bc lc f).oa (List.length (bos ((z.add (List.map z.T.val hs) x ra ga oa va pa ba la e rc gc oc vc pc bc lc f).T.s.used.drop 1))) (z.add (List.map z.T.val hs) x ra ga oa va pa ba la e rc gc oc vc pc bc lc f).oc, .slice (z.add (List.map z.T.val hs) x ra ga oa va pa ba la e rc gc oc vc pc bc lc f).va (List.length (u32s ((z.add (List.map z.T.val hs) x ra ga oa va pa ba la e rc gc oc vc pc bc lc f).T.vals.drop 1))) (z.add (List.map z.T.val hs) x ra ga oa va pa ba la e rc gc oc vc pc bc lc f).vc, .int .i64 (z.add (List.map z.T.val hs) x ra ga oa va pa ba la e rc gc oc vc pc bc lc f).cap, .slice (z.add (List.map z.T.val hs) x ra ga oa va pa ba la e rc gc oc vc pc bc lc f).pa (List.length (enP (z.add (List.map z.T.val hs) x ra ga oa va pa ba la e rc gc oc vc pc bc lc f).P)) (z.add (List.map z.T.val hs) x ra ga oa va pa ba la e rc gc oc vc pc bc lc f).pc, .slice (z.add (List.map z.T.val hs) x ra ga oa va pa ba la e rc gc oc vc pc bc lc f).ba (List.length (bos (z.add (List.map z.T.val hs) x ra ga oa va pa ba la e rc gc oc vc pc bc lc f).B)) (z.add (List.map z.T.val hs) x ra ga oa va pa ba la e rc gc oc vc pc bc lc f).bc, .slice (z.add (List.map z.T.val hs) x ra ga oa va pa ba la e rc gc oc vc pc bc lc f).la (List.length (enL (z.add (List.map z.T.val hs) x ra ga oa va pa ba la e rc gc oc vc pc bc lc f).LL)) (z.add (List.map z.T.val hs) x ra ga oa va pa ba la e rc gc oc vc pc bc lc f).lc], .int .u64 z.T.newH, .int .i64 0] ∧ St g (Shs rsF [z.add (List.map z.T.val hs) x ra ga oa va pa ba la e rc gc oc vc pc bc lc f] :: Sh 121 2 (en2 x.es) x.a x.c :: Sh 23 1 (u64s hs) pa2 pc2 :: L) w') := by
  refine Sp.enter Tryz.func68 rfl (by kernel_rfl) (by kernel_rfl) ?_
  have _ := hrm
  have _ := hsl
  refine WC.seq <| WC.region ?_
  have hpl := u64s_len hs; have hp2 := hps.1
  refine WL.box rfl rfl #[.int .i64 z.cap, .int .i64 z.T.s.cap, .slice z.ra (List.length (u32s z.T.s.rel)) z.rc, .int .i64 (z.T.s.fresh + 1), .slice z.ga (List.length (u32s (z.T.s.gen.drop 1))) z.gc, .slice z.oa (List.length (bos (z.T.s.used.drop 1))) z.oc, .slice z.va (List.length (u32s (z.T.vals.drop 1))) z.vc, .int .i64 z.cap, .slice z.pa (List.length (enP z.P)) z.pc, .slice z.ba (List.length (bos z.B)) z.bc, .slice z.la (List.length (enL z.LL)) z.lc] hS rfl rfl (fun b1 w hS => ?_)
  refine WL.new rfl rfl zv_43 hS (fun b2 w hS => ?_)
  refine WL.r 2 rfl <| WL.nil <| WC.seq <| WC.seq <| WC.cut [1, 2, 3, 6, 7, 8, 35] (fun vs w => ∃ (t35 : Bool), vs = [.slice x.a (List.length (en2 x.es)) x.c, .slice pa2 (List.length (u64s hs)) pc2, .pointer (some ⟨b1, 0, none⟩), .pointer (some ⟨b2, 0, none⟩), .int .u64 0, .int .i64 0, .bool t35] ∧ St g (cel b2 #[.int .i64 0, .int .i64 0, .slice none 0 0, .int .i64 0, .slice none 0 0, .slice none 0 0, .slice none 0 0, .int .i64 0, .slice none 0 0, .slice none 0 0, .slice none 0 0] 43 :: cel b1 #[.int .i64 z.cap, .int .i64 z.T.s.cap, .slice z.ra (List.length (u32s z.T.s.rel)) z.rc, .int .i64 (z.T.s.fresh + 1), .slice z.ga (List.length (u32s (z.T.s.gen.drop 1))) z.gc, .slice z.oa (List.length (bos (z.T.s.used.drop 1))) z.oc, .slice z.va (List.length (u32s (z.T.vals.drop 1))) z.vc, .int .i64 z.cap, .slice z.pa (List.length (enP z.P)) z.pc, .slice z.ba (List.length (bos z.B)) z.bc, .slice z.la (List.length (enL z.LL)) z.lc] 43 :: Shs rsF [z] :: Sh 121 2 (en2 x.es) x.a x.c :: Sh 23 1 (u64s hs) pa2 pc2 :: L) w ∧ (t35 = false)) ?_ ?_
  · refine WC.plan [([0, 1, 2, 3, 4, 5, 6, 7, 8, 11, 9, 12, 10, 13, 14, 15, 16], none)] (by kernel_rfl) (by kernel_rfl) ?_
    refine WQ.r 4 rfl <| WQ.reb 22 (.bool false) (congrArg Value.bool (decide_eq_false ((by omega)))) ?_
    refine WQ.ung rfl rfl rfl <| WQ.r 1 rfl <| WQ.ung rfl rfl rfl <| WQ.r 1 rfl <| WQ.ung rfl rfl rfl <| WQ.r 1 rfl <| WQ.ung rfl rfl rfl <| WQ.r 1 rfl ?_
    by_cases cg1 : (List.length (u64s hs) : Int) = 2
    · refine WQ.reb 26 (.bool true) (congrArg Value.bool (decide_eq_true cg1)) <| WQ.ung rfl rfl rfl <| WQ.r 1 rfl <| WQ.ung rfl rfl rfl <| WQ.r 1 rfl <| WQ.ung rfl rfl rfl ?_
      obtain ⟨p0, h0⟩ : ∃ u, hs[0]? = some u := ⟨_, List.getElem?_eq_getElem (by omega)⟩; obtain ⟨p1, h1⟩ : ∃ u, hs[1]? = some u := ⟨_, List.getElem?_eq_getElem (by omega)⟩
      refine WQ.ix rfl rfl (i := 0) (0) el_45 rfl rfl (by omega) (by omega) (hS.rdS 4 rfl (u64s_at h0)).1 ?_
      refine WQ.ung rfl rfl rfl <| WQ.ix rfl rfl (i := 1) (1) el_45 rfl rfl (by omega) (by omega) (hS.rdS 4 rfl (u64s_at h1)).1 ?_
      refine WQ.ung rfl rfl rfl <| WQ.run 1 [.int .u64 p0] rfl (by exact (hS.rdS 4 rfl (u64s_at h0)).2 0 _ rfl) ?_
      refine WQ.ung rfl rfl rfl <| WQ.run 1 [.int .u64 p1] rfl (by exact (hS.rdS 4 rfl (u64s_at h1)).2 0 _ rfl) ?_
      refine WQ.ung rfl rfl rfl <| WQ.r 1 rfl <| WQ.ung rfl rfl rfl <| WQ.r 2 rfl <| WQ.nil ?_
      intro m1
      replace hS := hS.drewN m1; generalize hwm1 : World.drewN _ _ = w at *; clear hwm1
      exact ⟨decide (p0 = p1), rfl, hS, (decide_eq_false (okPs_ne hps h0 h1))⟩
    · refine WQ.reb 26 (.bool false) (congrArg Value.bool (decide_eq_false cg1)) <| WQ.skp rfl rfl rfl rfl <| WQ.skp rfl rfl rfl rfl <| WQ.skp rfl rfl rfl rfl <| WQ.skp rfl rfl rfl rfl <| WQ.skp rfl rfl rfl rfl <| WQ.skp rfl rfl rfl rfl <| WQ.skp rfl rfl rfl rfl <| WQ.ung rfl rfl rfl <| WQ.r 2 rfl <| WQ.nil ?_
      intro m1
      replace hS := hS.drewN m1; generalize hwm1 : World.drewN _ _ = w at *; clear hwm1
      exact ⟨false, rfl, hS, (rfl)⟩
  clear hS; rintro _ w j ⟨t35, rfl, hS, h35⟩
  refine WC.ifF rfl h35 <| WC.skip <| WC.seq <| WC.region <| WL.r 1 rfl <| WL.nil <| WC.seq <| WC.seq <| WC.region <| WL.r 1 rfl <| WL.nil <| WC.block ?_
  replace hS := hS.nil_ 3 1
  refine WC.loop [1, 2, 3, 6, 9, 10] (fun kM vs w => ∃ (k : Nat) (acc : List Int) (u : Option Addr) (d : Nat), vs = [.slice x.a (List.length (en2 x.es)) x.c, .slice pa2 (List.length (u64s hs)) pc2, .pointer (some ⟨b1, 0, none⟩), .pointer (some ⟨b2, 0, none⟩), .slice u (List.length (i64s acc)) d, .int .i64 (k : Int)] ∧ St g (Own 3 1 (i64s acc) u d :: cel b2 #[.int .i64 0, .int .i64 0, .slice none 0 0, .int .i64 0, .slice none 0 0, .slice none 0 0, .slice none 0 0, .int .i64 0, .slice none 0 0, .slice none 0 0, .slice none 0 0] 43 :: cel b1 #[.int .i64 z.cap, .int .i64 z.T.s.cap, .slice z.ra (List.length (u32s z.T.s.rel)) z.rc, .int .i64 (z.T.s.fresh + 1), .slice z.ga (List.length (u32s (z.T.s.gen.drop 1))) z.gc, .slice z.oa (List.length (bos (z.T.s.used.drop 1))) z.oc, .slice z.va (List.length (u32s (z.T.vals.drop 1))) z.vc, .int .i64 z.cap, .slice z.pa (List.length (enP z.P)) z.pc, .slice z.ba (List.length (bos z.B)) z.bc, .slice z.la (List.length (enL z.LL)) z.lc] 43 :: Shs rsF [z] :: Sh 121 2 (en2 x.es) x.a x.c :: Sh 23 1 (u64s hs) pa2 pc2 :: L) w ∧ (k ≤ hs.length) ∧ (∀ y ∈ hs.take k, z.T.s.opn y = true) ∧ (acc = (hs.take k).map z.T.val) ∧ (hs.length - k) = kM) ((List.length hs) - 0) ⟨0, [], none, 0, rfl, hS, (Nat.zero_le _), (fun _ h => by cases h), (rfl), rfl⟩ ?_
  clear hS; rintro _ _ w j ⟨k, acc, u, d, rfl, hS, hk, hop, ha, rfl⟩
  refine WC.seq <| WC.seq <| WC.region <| WL.r 4 rfl <| WL.nil ?_
  as_aux_lemma =>
  refine WC.ifP rfl (fun cd1 => ?_) (fun cd1 => ?_)
  · refine WC.skip <| WC.seq <| WC.block <| WC.seq <| WC.plan [([0, 1, 2, 3, 4], some (5, [])), ([6, 7, 8, 9, 10], none)] (by kernel_rfl) (by kernel_rfl) ?_
    refine WQ.ldF rfl rfl 2 hS rfl rfl ag_43 <| WQ.r 2 rfl ?_
    have hlt : True := trivial; have hul2 := u64s_len hs; obtain ⟨y, hy⟩ : ∃ u, hs[k]? = some u := ⟨_, List.getElem?_eq_getElem (by omega)⟩; have hyr := hhs y (List.mem_of_getElem? hy); have hacl := i64s_len acc; have hacl2 : acc.length = k := (by rw [ha, List.length_map, List.length_take]; omega)
    refine WQ.ix rfl rfl (i := (k : Int)) (k) el_45 rfl rfl (by omega) (by omega) (hS.rdS 5 rfl (u64s_at hy)).1 ?_
    refine WQ.run 1 [.int .u64 y] rfl (by exact (hS.rdS 5 rfl (u64s_at hy)).2 0 _ rfl) ?_
    refine WQ.nil ?_
    intro m1
    replace hS := hS.drewN m1; generalize hwm1 : World.drewN _ _ = w at *; clear hwm1
    refine WL.call rfl rfl (qs_num (z := z) (h := y) (hz := hz) (hh := hyr) (hS := (hS.sel 4 [3, 0, 0, 0] rfl))) rfl ?_
    clear hS; rintro _ w ⟨rfl, hS⟩
    replace hS := hS.n6 L rfl
    refine WL.nil ?_
    refine ⟨by exact trivial, ?_⟩
    refine WQ.r 5 rfl <| WQ.nil ?_
    intro m2
    replace hS := hS.drewN m2; generalize hwm2 : World.drewN _ _ = w at *; clear hwm2
    refine WC.seq <| WC.seq <| WC.region <| WL.r 2 rfl <| WL.nil ?_
    as_aux_lemma =>
    refine WC.ifF rfl (decide_eq_false ((by rw [if_pos (hall y (List.mem_of_getElem? hy))]; decide))) ?_
    refine WC.skip <| WC.region <| WL.r 2 rfl <| WL.lit rfl rfl (i64s [if z.T.s.opn y = true then z.T.val y else 0]) el_56 hS (by exact ⟨rfl, rfl⟩) (i64s_ok _) rfl (Nat.le_of_ble_eq_true rfl) (fun b3 w hS => ?_)
    refine WL.app rfl rfl 2 (i64s (acc ++ [if z.T.s.opn y = true then z.T.val y else 0])) el_56 hS rfl (hS.srcO 0 rfl) (i64s_app _ _).symm (Rm.of (by first | omega | (simp <;> omega)) (by decide)) rfl rfl (fun a1 c1 w hS => ?_)
    replace hS := hS.n7 L (a0 := Own 3 1 (i64s [if z.T.s.opn y = true then z.T.val y else 0]) (some ⟨b3, 0, none⟩) (List.length (i64s [if z.T.s.opn y = true then z.T.val y else 0]))) (a2 := Own 3 1 (i64s (acc ++ [if z.T.s.opn y = true then z.T.val y else 0])) a1 c1) rfl
    refine WL.r 1 rfl <| WL.nil <| WC.region <| WL.r 2 rfl <| WL.nw 42 rfl (w64 (by omega)) ?_
    refine WL.r 1 rfl <| WL.nil ?_
    exact ⟨_, by omega, k + 1, acc ++ [if z.T.s.opn y = true then z.T.val y else 0], _, _, rfl, (hS.sel 5 [2, 2, 2, 1] rfl), (by omega), (take_all hop hy (hall y (List.mem_of_getElem? hy))), (by rw [ha, List.take_add_one, hy, if_pos (hall y (List.mem_of_getElem? hy))]; simp), rfl⟩
  · refine WC.exit <| WC.seq <| WC.seq <| WC.region <| WL.ldF rfl rfl 2 hS rfl rfl ag_43 <| WL.call rfl rfl (qs_room (z := z) (hz := hz) (hS := (hS.sel 4 [3, 0, 0, 0] rfl))) rfl ?_
    clear hS; rintro _ w ⟨rfl, hS⟩
    replace hS := hS.n6 L rfl
    refine WL.r 1 rfl <| WL.nil <| WC.ifF rfl (decide_eq_false ((by omega))) ?_
    refine WC.skip <| WC.seq <| WC.region ?_
    replace hS : St g (Sh 64 1 (u32s z.T.s.rel) z.ra z.rc :: Sh 64 1 (u32s (z.T.s.gen.drop 1)) z.ga z.gc :: Sh 4 1 (bos (z.T.s.used.drop 1)) z.oa z.oc :: Sh 64 1 (u32s (z.T.vals.drop 1)) z.va z.vc :: Sh 56 1 (enP z.P) z.pa z.pc :: Shs prF z.P :: Sh 4 1 (bos z.B) z.ba z.bc :: Sh 49 1 (enL z.LL) z.la z.lc :: Shs leF z.LL :: Shs rsF [z] :: Own 3 1 (i64s acc) u d :: cel b2 #[.int .i64 0, .int .i64 0, .slice none 0 0, .int .i64 0, .slice none 0 0, .slice none 0 0, .slice none 0 0, .int .i64 0, .slice none 0 0, .slice none 0 0, .slice none 0 0] 43 :: cel b1 #[.int .i64 z.cap, .int .i64 z.T.s.cap, .slice z.ra (List.length (u32s z.T.s.rel)) z.rc, .int .i64 (z.T.s.fresh + 1), .slice z.ga (List.length (u32s (z.T.s.gen.drop 1))) z.gc, .slice z.oa (List.length (bos (z.T.s.used.drop 1))) z.oc, .slice z.va (List.length (u32s (z.T.vals.drop 1))) z.vc, .int .i64 z.cap, .slice z.pa (List.length (enP z.P)) z.pc, .slice z.ba (List.length (bos z.B)) z.bc, .slice z.la (List.length (enL z.LL)) z.lc] 43 :: Sh 121 2 (en2 x.es) x.a x.c :: Sh 23 1 (u64s hs) pa2 pc2 :: L) w := hS.rsGet 0 rfl
    have hzn := hz.n; have hzb := hz.b; have hzl := hz.l; have hrr : z.room = min (z.cap - ((numL (pres z.P z.B)).length : Int)) z.T.s.free := rfl; have hml : (List.map z.T.val hs).length = hs.length := List.length_map ..; obtain rfl : acc = List.map z.T.val hs := (by rw [ha, List.take_of_length_le (by omega)])
    refine WL.r 1 rfl <| WL.ldC rfl rfl [.int .i64 z.cap, .slice z.pa (List.length (enP z.P)) z.pc, .slice z.ba (List.length (bos z.B)) z.bc] ag_40 rfl (hS.part 12 rfl rfl) <| WL.r 1 rfl ?_
    replace hS := (hS.at_ 10 rfl).share
    replace hS := hS.n15 L (a0 := Sh 3 1 (i64s (List.map z.T.val hs)) u d) (a1 := Sh 64 1 (u32s z.T.s.rel) z.ra z.rc) (a2 := Sh 64 1 (u32s (z.T.s.gen.drop 1)) z.ga z.gc) (a3 := Sh 4 1 (bos (z.T.s.used.drop 1)) z.oa z.oc) (a4 := Sh 64 1 (u32s (z.T.vals.drop 1)) z.va z.vc) (a5 := Sh 56 1 (enP z.P) z.pa z.pc) (a6 := Shs prF z.P) (a7 := Sh 4 1 (bos z.B) z.ba z.bc) (a8 := Sh 49 1 (enL z.LL) z.la z.lc) (a9 := Shs leF z.LL) rfl
    refine WL.call rfl rfl (radd_ok (cap := z.cap) (P := z.P) (a := z.pa) (c := z.pc) (B := z.B) (b := z.ba) (d := z.bc) (ps := List.map z.T.val hs) (e := u) (f := d) (hP := hz.p) (hl := (by omega)) (hB := hz.b) (hpl := (by omega)) (h0 := fault_0 hps2 (fun y hy => by obtain ⟨y', hy', rfl⟩ := List.mem_map.1 hy; exact hlv y' hy') (by omega)) (hS := (hS.sel 8 [5, 5, 5, 0, 0, 0, 0, 0] rfl))) rfl ?_
    clear hS; rintro _ w ⟨e1, f1, a1, c1, b3, d1, rfl, hS⟩
    replace hS := hS.n15 L (a0 := Sh 56 1 (enP (z.P ++ [PR.mk (List.map z.T.val hs) e1 f1])) a1 c1) (a1 := Shs prF (z.P ++ [PR.mk (List.map z.T.val hs) e1 f1])) (a2 := Sh 4 1 (bos (z.B ++ [true])) b3 d1) rfl
    refine WL.r 4 rfl <| WL.new rfl rfl zv_40 hS (fun b4 w hS => ?_)
    refine WL.stF rfl rfl rfl 0 hS rfl rfl rfl rfl rfl ag_40 (fun w hS => ?_)
    replace hS := hS.n16 L (a0 := cel b4 #[.int .i64 z.cap, .slice a1 (List.length (enP (z.P ++ [PR.mk (List.map z.T.val hs) e1 f1]))) c1, .slice b3 (List.length (bos (z.B ++ [true]))) d1] 40) rfl
    refine WL.r 2 rfl <| WL.nil ?_
    as_aux_lemma =>
    refine WC.seq <| WC.region <| WL.r 1 rfl <| WL.ldC rfl rfl [.int .i64 z.T.s.cap, .slice z.ra (List.length (u32s z.T.s.rel)) z.rc, .int .i64 (z.T.s.fresh + 1), .slice z.ga (List.length (u32s (z.T.s.gen.drop 1))) z.gc, .slice z.oa (List.length (bos (z.T.s.used.drop 1))) z.oc, .slice z.va (List.length (u32s (z.T.vals.drop 1))) z.vc] ag_37 rfl (hS.part 13 rfl rfl) <| WL.r 2 rfl <| WL.nw 76 rfl (wu32 (by omega)) ?_
    refine WL.call rfl rfl (q_open (T := z.T) (ra := z.ra) (ga := z.ga) (oa := z.oa) (va := z.va) (rc := z.rc) (gc := z.gc) (oc := z.oc) (vc := z.vc) (nv := (List.length z.P) + 1) (hT := hz.t) (hf := (by omega)) (hv := (by omega)) (hS := (hS.sel 9 [5, 5, 5, 5, 0, 0, 0, 0, 0] rfl))) rfl ?_
    clear hS; rintro _ w ⟨ra1, ga1, oa1, va1, rc1, gc1, oc1, vc1, rfl, hS⟩
    replace hS := hS.n16 L (a0 := Sh 64 1 (u32s (z.T.open ((List.length z.P) + 1)).s.rel) ra1 rc1) (a1 := Sh 64 1 (u32s ((z.T.open ((List.length z.P) + 1)).s.gen.drop 1)) ga1 gc1) (a2 := Sh 4 1 (bos ((z.T.open ((List.length z.P) + 1)).s.used.drop 1)) oa1 oc1) (a3 := Sh 64 1 (u32s ((z.T.open ((List.length z.P) + 1)).vals.drop 1)) va1 vc1) rfl
    refine WL.r 4 rfl <| WL.new rfl rfl zv_37 hS (fun b5 w hS => ?_)
    refine WL.stF rfl rfl rfl 0 hS rfl rfl rfl rfl rfl ag_37 (fun w hS => ?_)
    replace hS := hS.n17 L (a0 := cel b5 #[.int .i64 (z.T.open ((List.length z.P) + 1)).s.cap, .slice ra1 (List.length (u32s (z.T.open ((List.length z.P) + 1)).s.rel)) rc1, .int .i64 ((z.T.open ((List.length z.P) + 1)).s.fresh + 1), .slice ga1 (List.length (u32s ((z.T.open ((List.length z.P) + 1)).s.gen.drop 1))) gc1, .slice oa1 (List.length (bos ((z.T.open ((List.length z.P) + 1)).s.used.drop 1))) oc1, .slice va1 (List.length (u32s ((z.T.open ((List.length z.P) + 1)).vals.drop 1))) vc1] 37) rfl
    refine WL.r 2 rfl <| WL.nil <| WC.seq <| WC.plan [([0, 1, 2], some (3, [1])), ([4], some (5, []))] (by kernel_rfl) (by kernel_rfl) ?_
    refine WQ.ldF rfl rfl 5 hS rfl rfl ag_40 <| WQ.ldF rfl rfl 0 hS rfl rfl ag_37 <| WQ.r 1 rfl <| WQ.nil ?_
    intro m1
    replace hS := hS.drewN m1; generalize hwm1 : World.drewN _ _ = w at *; clear hwm1
    refine WL.stP (ds := #[.int .i64 z.cap, .int .i64 z.T.s.cap, .slice z.ra (List.length (u32s z.T.s.rel)) z.rc, .int .i64 (z.T.s.fresh + 1), .slice z.ga (List.length (u32s (z.T.s.gen.drop 1))) z.gc, .slice z.oa (List.length (bos (z.T.s.used.drop 1))) z.oc, .slice z.va (List.length (u32s (z.T.vals.drop 1))) z.vc, .int .i64 z.cap, .slice a1 (List.length (enP (z.P ++ [PR.mk (List.map z.T.val hs) e1 f1]))) c1, .slice b3 (List.length (bos (z.B ++ [true]))) d1, .slice z.la (List.length (enL z.LL)) z.lc]) rfl rfl rfl 14 hS rfl rfl rfl rfl (Nat.le_of_ble_eq_true rfl) rfl ag_40 (fun w hS => ?_)
    replace hS := hS.n17 L (a14 := cel b1 #[.int .i64 z.cap, .int .i64 z.T.s.cap, .slice z.ra (List.length (u32s z.T.s.rel)) z.rc, .int .i64 (z.T.s.fresh + 1), .slice z.ga (List.length (u32s (z.T.s.gen.drop 1))) z.gc, .slice z.oa (List.length (bos (z.T.s.used.drop 1))) z.oc, .slice z.va (List.length (u32s (z.T.vals.drop 1))) z.vc, .int .i64 z.cap, .slice a1 (List.length (enP (z.P ++ [PR.mk (List.map z.T.val hs) e1 f1]))) c1, .slice b3 (List.length (bos (z.B ++ [true]))) d1, .slice z.la (List.length (enL z.LL)) z.lc] 43) rfl
    refine WL.nil ?_
    refine ⟨by exact RQ.ldF rfl rfl 0 hS rfl rfl ag_37 rfl rfl, ?_⟩
    refine WQ.r 1 rfl <| WQ.nil ?_
    intro m2
    replace hS := hS.drewN m2; generalize hwm2 : World.drewN _ _ = w at *; clear hwm2
    refine WL.stP (ds := #[.int .i64 z.cap, .int .i64 (z.T.open ((List.length z.P) + 1)).s.cap, .slice ra1 (List.length (u32s (z.T.open ((List.length z.P) + 1)).s.rel)) rc1, .int .i64 ((z.T.open ((List.length z.P) + 1)).s.fresh + 1), .slice ga1 (List.length (u32s ((z.T.open ((List.length z.P) + 1)).s.gen.drop 1))) gc1, .slice oa1 (List.length (bos ((z.T.open ((List.length z.P) + 1)).s.used.drop 1))) oc1, .slice va1 (List.length (u32s ((z.T.open ((List.length z.P) + 1)).vals.drop 1))) vc1, .int .i64 z.cap, .slice a1 (List.length (enP (z.P ++ [PR.mk (List.map z.T.val hs) e1 f1]))) c1, .slice b3 (List.length (bos (z.B ++ [true]))) d1, .slice z.la (List.length (enL z.LL)) z.lc]) rfl rfl rfl 14 hS rfl rfl rfl rfl (Nat.le_of_ble_eq_true rfl) rfl ag_37 (fun w hS => ?_)
    replace hS := hS.n17 L (a14 := cel b1 #[.int .i64 z.cap, .int .i64 (z.T.open ((List.length z.P) + 1)).s.cap, .slice ra1 (List.length (u32s (z.T.open ((List.length z.P) + 1)).s.rel)) rc1, .int .i64 ((z.T.open ((List.length z.P) + 1)).s.fresh + 1), .slice ga1 (List.length (u32s ((z.T.open ((List.length z.P) + 1)).s.gen.drop 1))) gc1, .slice oa1 (List.length (bos ((z.T.open ((List.length z.P) + 1)).s.used.drop 1))) oc1, .slice va1 (List.length (u32s ((z.T.open ((List.length z.P) + 1)).vals.drop 1))) vc1, .int .i64 z.cap, .slice a1 (List.length (enP (z.P ++ [PR.mk (List.map z.T.val hs) e1 f1]))) c1, .slice b3 (List.length (bos (z.B ++ [true]))) d1, .slice z.la (List.length (enL z.LL)) z.lc] 43) rfl
    refine WL.nil ?_
    refine ⟨by exact trivial, ?_⟩
    intro m3
    replace hS := hS.drewN m3; generalize hwm3 : World.drewN _ _ = w at *; clear hwm3
    as_aux_lemma =>
    refine WC.seq <| WC.region <| WL.run 2 [.slice z.la (List.length (enL z.LL)) z.lc] rfl (by exact hS.ld 14 rfl rfl) ?_
    replace hS := hS.nil_ 49 1
    refine WL.app rfl rfl 0 (enL z.LL) el_41 hS rfl (hS.srcS 11 rfl) (List.nil_append _) (Rm.of (by first | omega | (simp <;> omega)) (by decide)) rfl rfl (fun a2 c2 w hS => ?_)
    replace hS := hS.n18 L (a0 := Own 49 1 (enL z.LL) a2 c2) rfl
    refine WL.r 1 rfl <| WL.lit rfl rfl (enL [x]) el_41 hS (by exact ⟨rfl, rfl⟩) (enL_ok _) rfl (Nat.le_of_ble_eq_true rfl) (fun b6 w hS => ?_)
    refine WL.app rfl rfl 1 (enL (z.LL ++ [x])) el_41 hS rfl (hS.srcO 0 rfl) (enL_app _ _).symm (Rm.of (by first | omega | (simp <;> omega)) (by decide)) rfl rfl (fun a3 c3 w hS => ?_)
    replace hS := hS.n19 L (a0 := Own 49 1 (enL [x]) (some ⟨b6, 0, none⟩) (List.length (enL [x]))) (a1 := Own 49 1 (enL (z.LL ++ [x])) a3 c3) rfl
    refine WL.r 1 rfl <| WL.st rfl rfl rfl 16 hS rfl rfl rfl rfl rfl rfl (fun w hS => ?_)
    replace hS := hS.n19 L (a16 := cel b1 #[.int .i64 z.cap, .int .i64 (z.T.open ((List.length z.P) + 1)).s.cap, .slice ra1 (List.length (u32s (z.T.open ((List.length z.P) + 1)).s.rel)) rc1, .int .i64 ((z.T.open ((List.length z.P) + 1)).s.fresh + 1), .slice ga1 (List.length (u32s ((z.T.open ((List.length z.P) + 1)).s.gen.drop 1))) gc1, .slice oa1 (List.length (bos ((z.T.open ((List.length z.P) + 1)).s.used.drop 1))) oc1, .slice va1 (List.length (u32s ((z.T.open ((List.length z.P) + 1)).vals.drop 1))) vc1, .int .i64 z.cap, .slice a1 (List.length (enP (z.P ++ [PR.mk (List.map z.T.val hs) e1 f1]))) c1, .slice b3 (List.length (bos (z.B ++ [true]))) d1, .slice a3 (List.length (enL (z.LL ++ [x]))) c3] 43) rfl
    refine WL.nil <| WC.seq <| WC.region ?_
    replace hS := (hS.at_ 1 rfl).share
    replace hS := hS.n19 L (a0 := Sh 49 1 (enL (z.LL ++ [x])) a3 c3) rfl
    replace hS : St g (Shs leF (z.LL ++ [x]) :: Sh 49 1 (enL (z.LL ++ [x])) a3 c3 :: Own 49 1 (enL [x]) (some ⟨b6, 0, none⟩) (List.length (enL [x])) :: cel b5 #[.int .i64 (z.T.open ((List.length z.P) + 1)).s.cap, .slice ra1 (List.length (u32s (z.T.open ((List.length z.P) + 1)).s.rel)) rc1, .int .i64 ((z.T.open ((List.length z.P) + 1)).s.fresh + 1), .slice ga1 (List.length (u32s ((z.T.open ((List.length z.P) + 1)).s.gen.drop 1))) gc1, .slice oa1 (List.length (bos ((z.T.open ((List.length z.P) + 1)).s.used.drop 1))) oc1, .slice va1 (List.length (u32s ((z.T.open ((List.length z.P) + 1)).vals.drop 1))) vc1] 37 :: Sh 64 1 (u32s (z.T.open ((List.length z.P) + 1)).s.rel) ra1 rc1 :: Sh 64 1 (u32s ((z.T.open ((List.length z.P) + 1)).s.gen.drop 1)) ga1 gc1 :: Sh 4 1 (bos ((z.T.open ((List.length z.P) + 1)).s.used.drop 1)) oa1 oc1 :: Sh 64 1 (u32s ((z.T.open ((List.length z.P) + 1)).vals.drop 1)) va1 vc1 :: cel b4 #[.int .i64 z.cap, .slice a1 (List.length (enP (z.P ++ [PR.mk (List.map z.T.val hs) e1 f1]))) c1, .slice b3 (List.length (bos (z.B ++ [true]))) d1] 40 :: Sh 56 1 (enP (z.P ++ [PR.mk (List.map z.T.val hs) e1 f1])) a1 c1 :: Shs prF (z.P ++ [PR.mk (List.map z.T.val hs) e1 f1]) :: Sh 4 1 (bos (z.B ++ [true])) b3 d1 :: Sh 3 1 (i64s (List.map z.T.val hs)) u d :: Sh 49 1 (enL z.LL) z.la z.lc :: Shs leF z.LL :: Shs rsF [z] :: cel b2 #[.int .i64 0, .int .i64 0, .slice none 0 0, .int .i64 0, .slice none 0 0, .slice none 0 0, .slice none 0 0, .int .i64 0, .slice none 0 0, .slice none 0 0, .slice none 0 0] 43 :: cel b1 #[.int .i64 z.cap, .int .i64 (z.T.open ((List.length z.P) + 1)).s.cap, .slice ra1 (List.length (u32s (z.T.open ((List.length z.P) + 1)).s.rel)) rc1, .int .i64 ((z.T.open ((List.length z.P) + 1)).s.fresh + 1), .slice ga1 (List.length (u32s ((z.T.open ((List.length z.P) + 1)).s.gen.drop 1))) gc1, .slice oa1 (List.length (bos ((z.T.open ((List.length z.P) + 1)).s.used.drop 1))) oc1, .slice va1 (List.length (u32s ((z.T.open ((List.length z.P) + 1)).vals.drop 1))) vc1, .int .i64 z.cap, .slice a1 (List.length (enP (z.P ++ [PR.mk (List.map z.T.val hs) e1 f1]))) c1, .slice b3 (List.length (bos (z.B ++ [true]))) d1, .slice a3 (List.length (enL (z.LL ++ [x]))) c3] 43 :: Sh 121 2 (en2 x.es) x.a x.c :: Sh 23 1 (u64s hs) pa2 pc2 :: L) w := St.shsSub (zs' := z.LL ++ [x]) (St.shsCons (hS.shsDup 13 rfl) (z := x) (leF_sh _) [17] rfl) (fun y hy => by rcases List.mem_append.1 hy with hy | hy <;> simp at hy ⊢ <;> simp [hy])
    replace hS : St g (Shs rsF [z.add (List.map z.T.val hs) x ra1 ga1 oa1 va1 a1 b3 a3 e1 rc1 gc1 oc1 vc1 c1 d1 c3 f1] :: Shs leF (z.LL ++ [x]) :: Sh 49 1 (enL (z.LL ++ [x])) a3 c3 :: Own 49 1 (enL [x]) (some ⟨b6, 0, none⟩) (List.length (enL [x])) :: cel b5 #[.int .i64 (z.T.open ((List.length z.P) + 1)).s.cap, .slice ra1 (List.length (u32s (z.T.open ((List.length z.P) + 1)).s.rel)) rc1, .int .i64 ((z.T.open ((List.length z.P) + 1)).s.fresh + 1), .slice ga1 (List.length (u32s ((z.T.open ((List.length z.P) + 1)).s.gen.drop 1))) gc1, .slice oa1 (List.length (bos ((z.T.open ((List.length z.P) + 1)).s.used.drop 1))) oc1, .slice va1 (List.length (u32s ((z.T.open ((List.length z.P) + 1)).vals.drop 1))) vc1] 37 :: Sh 64 1 (u32s (z.T.open ((List.length z.P) + 1)).s.rel) ra1 rc1 :: Sh 64 1 (u32s ((z.T.open ((List.length z.P) + 1)).s.gen.drop 1)) ga1 gc1 :: Sh 4 1 (bos ((z.T.open ((List.length z.P) + 1)).s.used.drop 1)) oa1 oc1 :: Sh 64 1 (u32s ((z.T.open ((List.length z.P) + 1)).vals.drop 1)) va1 vc1 :: cel b4 #[.int .i64 z.cap, .slice a1 (List.length (enP (z.P ++ [PR.mk (List.map z.T.val hs) e1 f1]))) c1, .slice b3 (List.length (bos (z.B ++ [true]))) d1] 40 :: Sh 56 1 (enP (z.P ++ [PR.mk (List.map z.T.val hs) e1 f1])) a1 c1 :: Shs prF (z.P ++ [PR.mk (List.map z.T.val hs) e1 f1]) :: Sh 4 1 (bos (z.B ++ [true])) b3 d1 :: Sh 3 1 (i64s (List.map z.T.val hs)) u d :: Sh 49 1 (enL z.LL) z.la z.lc :: Shs leF z.LL :: Shs rsF [z] :: cel b2 #[.int .i64 0, .int .i64 0, .slice none 0 0, .int .i64 0, .slice none 0 0, .slice none 0 0, .slice none 0 0, .int .i64 0, .slice none 0 0, .slice none 0 0, .slice none 0 0] 43 :: cel b1 #[.int .i64 z.cap, .int .i64 (z.T.open ((List.length z.P) + 1)).s.cap, .slice ra1 (List.length (u32s (z.T.open ((List.length z.P) + 1)).s.rel)) rc1, .int .i64 ((z.T.open ((List.length z.P) + 1)).s.fresh + 1), .slice ga1 (List.length (u32s ((z.T.open ((List.length z.P) + 1)).s.gen.drop 1))) gc1, .slice oa1 (List.length (bos ((z.T.open ((List.length z.P) + 1)).s.used.drop 1))) oc1, .slice va1 (List.length (u32s ((z.T.open ((List.length z.P) + 1)).vals.drop 1))) vc1, .int .i64 z.cap, .slice a1 (List.length (enP (z.P ++ [PR.mk (List.map z.T.val hs) e1 f1]))) c1, .slice b3 (List.length (bos (z.B ++ [true]))) d1, .slice a3 (List.length (enL (z.LL ++ [x]))) c3] 43 :: Sh 121 2 (en2 x.es) x.a x.c :: Sh 23 1 (u64s hs) pa2 pc2 :: L) w := hS.rsPut (z.add (List.map z.T.val hs) x ra1 ga1 oa1 va1 a1 b3 a3 e1 rc1 gc1 oc1 vc1 c1 d1 c3 f1) [4, 4, 4, 4, 5, 5, 5, 1, 0] rfl
    refine WL.ldF rfl rfl 18 hS rfl rfl ag_43 <| WL.r 1 rfl <| WL.stF rfl rfl rfl 17 hS rfl rfl rfl rfl rfl ag_43 (fun w hS => ?_)
    replace hS := hS.n21 L (a0 := Shs rsF [z.add (List.map z.T.val hs) x ra1 ga1 oa1 va1 a1 b3 a3 e1 rc1 gc1 oc1 vc1 c1 d1 c3 f1]) (a1 := Shs leF (z.LL ++ [x])) (a17 := cel b2 #[.int .i64 z.cap, .int .i64 (z.T.open ((List.length z.P) + 1)).s.cap, .slice ra1 (List.length (u32s (z.T.open ((List.length z.P) + 1)).s.rel)) rc1, .int .i64 ((z.T.open ((List.length z.P) + 1)).s.fresh + 1), .slice ga1 (List.length (u32s ((z.T.open ((List.length z.P) + 1)).s.gen.drop 1))) gc1, .slice oa1 (List.length (bos ((z.T.open ((List.length z.P) + 1)).s.used.drop 1))) oc1, .slice va1 (List.length (u32s ((z.T.open ((List.length z.P) + 1)).vals.drop 1))) vc1, .int .i64 z.cap, .slice a1 (List.length (enP (z.P ++ [PR.mk (List.map z.T.val hs) e1 f1]))) c1, .slice b3 (List.length (bos (z.B ++ [true]))) d1, .slice a3 (List.length (enL (z.LL ++ [x]))) c3] 43) rfl
    refine WL.r 2 rfl <| WL.nil ?_
    as_aux_lemma =>
    refine WC.ret ?_
    refine ⟨[.agg #[.int .i64 z.cap, .int .i64 (z.T.open ((List.length z.P) + 1)).s.cap, .slice ra1 (List.length (u32s (z.T.open ((List.length z.P) + 1)).s.rel)) rc1, .int .i64 ((z.T.open ((List.length z.P) + 1)).s.fresh + 1), .slice ga1 (List.length (u32s ((z.T.open ((List.length z.P) + 1)).s.gen.drop 1))) gc1, .slice oa1 (List.length (bos ((z.T.open ((List.length z.P) + 1)).s.used.drop 1))) oc1, .slice va1 (List.length (u32s ((z.T.open ((List.length z.P) + 1)).vals.drop 1))) vc1, .int .i64 z.cap, .slice a1 (List.length (enP (z.P ++ [PR.mk (List.map z.T.val hs) e1 f1]))) c1, .slice b3 (List.length (bos (z.B ++ [true]))) d1, .slice a3 (List.length (enL (z.LL ++ [x]))) c3], .int .u64 z.T.newH, .int .i64 0], ⟨⟨_, rfl, hS.lvF 17 rfl ag_43⟩, rfl, rfl⟩, ?_⟩
    replace hS := (hS.sel 19 [0] rfl)
    exact ⟨_, _, _, _, _, _, _, _, _, _, _, _, _, _, _, _, rfl, hS⟩
end Go.Proofs.YtbeacjcmdijdmaaGreat
/-! ## W1 -/
namespace Go.Proofs.YtbeacjcmdijdmaaGreat
open Go Go.V
set_option maxRecDepth 8192 in
theorem tr_rel {g w : World} {L : List HP} (a : Nat) (A : AM) (R : List Int) (i : Int) (hA : ARf A (i :: R)) (hR : R.length ≤ 900000000) (hS : St g (Arn a A :: L) w) :
    Sp Tryz.prog 34 [.pointer (some ⟨a, 0, none⟩), .int .u32 i] w (fun v w' => ∃ (A2 : AM) (f : Int), v = .tuple #[.int .i64 f, .int .i64 0] ∧ St g (Arn a A2 :: L) w' ∧ (Rl A A2 R) ∧ (f = A2.s.free - A.s.free)) := by
  exact (ar_rel a A R i hA hR hS).mono fun v w' ⟨A2, f, hv, hS', h1, h2, h3, h4⟩ => ⟨A2, f, hv, hS', ⟨h1, h2.kp h1, by omega, h2.cap⟩, h3⟩
set_option maxRecDepth 8192 in
theorem tr_size {g w : World} {L : List HP} (a : Nat) (A : AM) (R : List Int) (i : Int) (t : Tr) (hA : ARf A R) (hi : Is A t i) (hS : St g (Arn a A :: L) w) :
    Sp Tryz.prog 103 [.pointer (some ⟨a, 0, none⟩), .int .u32 i] w (fun v w' => v = .int .i64 (t.n : Int) ∧ St g (Arn a A :: L) w') := by
  have h := hA.okrng hi.ref
  rw [← Is.sz hA t i hi]
  exact ar_size a A i hA.toAWf (by omega) hS
set_option maxRecDepth 8192 in
theorem tw_node {g w : World} {L : List HP} (a : Nat) (A : AM) (R : List Int) (l r k z : Int) (tl tr : Tr) (hA : ARf A (l :: r :: R)) (hl : Is A tl l) (hr : Is A tr r) (hf : 0 < A.s.free) (hz : R.length + tl.n + tr.n ≤ 850000000) (hS : St g (Arn a A :: L) w) :
    Sp Tryz.prog 173 [.pointer (some ⟨a, 0, none⟩), .int .u32 l, .agg #[.int .i64 k, .int .i64 z], .int .u32 r] w (fun v w' => ∃ (A2 : AM) (i : Int), v = .int .u32 i ∧ St g (Arn a A2 :: L) w' ∧ (TOp A A2 R i (.node tl k z tr) 1)) := by
  refine Sp.enter Tryz.func173 rfl (by kernel_rfl) (by kernel_rfl) ?_
  have _ := hz
  refine WC.seq <| WC.region ?_
  have hM := Mk.of (k := k) (v := z) hA hl hr hf (by omega) (by omega); have hrl := hA.rng (r := l) (by simp); have hrr := hA.rng (r := r) (by simp)
  refine WL.box rfl rfl #[.int .i64 k, .int .i64 z] hS rfl rfl (fun b1 w hS => ?_)
  refine WL.r 1 rfl <| WL.nil <| WC.seq <| WC.region <| WL.run 7 [.int .i64 k, .int .i64 z] rfl (by exact ⟨hS.ld 0 rfl rfl, hS.ld 0 rfl rfl⟩) ?_
  refine WL.call rfl rfl (ar_make (a := a) (A := A) (key := k) (val := z) (l := l) (r := r) (hA := hA.toAWf) (hK := hM.kd) (hf := hf) (hS := (hS.sel 2 [1, 0] rfl))) rfl ?_
  clear hS; rintro _ w ⟨rfl, hS⟩
  replace hS : St g (Arn a (A.make (A.nodeOf k z l r)) :: cel b1 #[.int .i64 k, .int .i64 z] 121 :: L) w := hS
  refine WL.r 5 rfl <| WL.nil <| WC.seq <| WC.region <| WL.r 2 rfl <| WL.call rfl rfl (tr_rel (a := a) (A := A.make (A.nodeOf k z l r)) (R := A.s.next :: r :: R) (i := l) (hA := hM.p1) (hR := (by simp only [List.length_cons]; omega)) (hS := hS)) rfl ?_
  clear hS; rintro _ w ⟨A1, f1, rfl, hS, f2, f3⟩
  replace hS := hS.n2 L (a0 := Arn a A1) rfl
  refine WL.nil <| WC.seq <| WC.region <| WL.r 2 rfl <| WL.call rfl rfl (tr_rel (a := a) (A := A1) (R := A.s.next :: R) (i := r) (hA := f2.p1) (hR := (by simp only [List.length_cons]; omega)) (hS := hS)) rfl ?_
  clear hS; rintro _ w ⟨A2, f4, rfl, hS, f5, f6⟩
  replace hS := hS.n2 L (a0 := Arn a A2) rfl
  refine WL.nil ?_
  as_aux_lemma =>
  refine WC.seq <| WC.region <| WL.r 2 rfl <| WL.nil <| WC.ret ?_
  refine ⟨[.int .u32 A.s.next], rfl, ?_⟩
  replace hS := (hS.sel 2 [0] rfl)
  exact ⟨_, _, rfl, hS, hM.op f2 f5⟩
theorem perm3 (x y i : Int) (R : List Int) : (y :: x :: i :: R).Perm (i :: x :: y :: R) :=
  ((List.Perm.swap x y _).trans (List.Perm.cons x (List.Perm.swap i y R))).trans (List.Perm.swap i x _)
set_option maxRecDepth 8192 in
theorem tw_open {g w : World} {L : List HP} (a : Nat) (A : AM) (R : List Int) (i k z : Int) (l r : Tr) (hA : ARf A (i :: R)) (hi : Is A (.node l k z r) i) (hz : R.length ≤ 850000000) (hS : St g (Arn a A :: L) w) :
    Sp Tryz.prog 174 [.pointer (some ⟨a, 0, none⟩), .int .u32 i] w (fun v w' => ∃ (A2 : AM) (x y : Int), v = .tuple #[.int .u32 x, .agg #[.int .i64 k, .int .i64 z], .int .u32 y] ∧ St g (Arn a A2 :: L) w' ∧ (Opn A A2 R x y l r)) := by
  refine Sp.enter Tryz.func174 rfl (by kernel_rfl) (by kernel_rfl) ?_
  have _ := hz
  refine WC.seq <| WC.region ?_
  obtain ⟨hi1, hi2, hik, hiv, hil, hir⟩ := hi; have hri := hA.rng (r := i) (by simp); have hrl := hA.okrng hil.ref; have hrr := hA.okrng hir.ref
  have hr1 := AM.ret_eq hA hil.ref (by simp; omega); have hr2 := AM.ret_eq hr1.1 (hir.ret (A.nd i).lf).ref (by simp; omega)
  refine WL.r 1 rfl <| WL.new rfl rfl zv_121 hS (fun b1 w hS => ?_)
  refine WL.r 1 rfl <| WL.nil <| WC.seq <| WC.region <| WL.r 2 rfl <| WL.call rfl rfl (ar_node (a := a) (A := A) (i := i) (hA := hA.toAWf) (hi := (by omega)) (hio := hi2) (hS := (hS.sel 2 [1, 0] rfl))) rfl ?_
  clear hS; rintro _ w ⟨rfl, hS⟩
  replace hS := hS.n2 L (a1 := cel b1 #[.int .i64 0, .int .i64 0] 121) rfl
  refine WL.r 3 rfl <| WL.new rfl rfl zv_172 hS (fun b2 w hS => ?_)
  refine WL.stF rfl rfl rfl 0 hS rfl rfl rfl rfl rfl ag_172 (fun w hS => ?_)
  replace hS := hS.n3 L (a0 := cel b2 #[.int .i64 (A.nd i).key, .int .i64 (A.nd i).val, .int .u32 (A.nd i).lf, .int .u32 (A.nd i).rg, .int .i64 (A.nd i).size, .int .i64 (A.nd i).sum, .int .i64 (A.nd i).mn, .int .i64 (A.nd i).mx] 172) rfl
  refine WL.r 1 rfl <| WL.nil <| WC.seq <| WC.seq <| WC.region <| WL.r 2 rfl <| WL.nil ?_
  as_aux_lemma =>
  refine WC.ifF rfl rfl <| WC.skip <| WC.seq <| WC.region <| WL.run 3 [.int .u32 (A.nd i).lf] rfl (by exact hS.ld 0 rfl rfl) ?_
  refine WL.call rfl rfl (ar_retain (a := a) (A := A) (i := (A.nd i).lf) (hA := hA.toAWf) (hi := (by omega)) (hS := (hS.sel 2 [1, 0] rfl))) rfl ?_
  clear hS; rintro _ w ⟨rfl, hS⟩
  replace hS := hS.n3 L (a0 := Arn a (A.ret (A.nd i).lf)) rfl
  refine WL.nil <| WC.seq <| WC.region <| WL.run 3 [.int .u32 (A.nd i).rg] rfl (by exact hS.ld 1 rfl rfl) ?_
  refine WL.call rfl rfl (ar_retain (a := a) (A := A.ret (A.nd i).lf) (i := (A.nd i).rg) (hA := hr1.1.toAWf) (hi := (by omega)) (hS := hS)) rfl ?_
  clear hS; rintro _ w ⟨rfl, hS⟩
  replace hS := hS.n3 L (a0 := Arn a ((A.ret (A.nd i).lf).ret (A.nd i).rg)) rfl
  refine WL.nil <| WC.seq <| WC.region <| WL.r 2 rfl <| WL.call rfl rfl (tr_rel (a := a) (A := (A.ret (A.nd i).lf).ret (A.nd i).rg) (R := (A.nd i).lf :: (A.nd i).rg :: R) (i := i) (hA := (hr2.1.perm (perm3 _ _ _ _))) (hR := (by simp only [List.length_cons]; omega)) (hS := hS)) rfl ?_
  clear hS; rintro _ w ⟨A1, f1, rfl, hS, f2, f3⟩
  replace hS := hS.n3 L (a0 := Arn a A1) rfl
  refine WL.nil <| WC.seq <| WC.plan [([0, 2, 4, 7, 1, 3, 5, 8, 9], some (6, [0, 1, 7, 8, 9])), ([], some (10, [7, 8])), ([11], none)] (by kernel_rfl) (by kernel_rfl) ?_
  refine WQ.run 9 [.int .u32 (A.nd i).lf, .int .i64 (A.nd i).key, .int .i64 (A.nd i).val, .int .u32 (A.nd i).rg] rfl (by exact ⟨hS.ld 1 rfl rfl, hS.ld 1 rfl rfl, hS.ld 1 rfl rfl, hS.ld 1 rfl rfl⟩) ?_
  refine WQ.nil ?_
  intro m1
  replace hS := hS.drewN m1; generalize hwm1 : World.drewN _ _ = w at *; clear hwm1
  refine WL.build rfl rfl (cs := [.int .i64 (A.nd i).key, .int .i64 (A.nd i).val]) zv_121 rfl rfl <| WL.nil ?_
  refine ⟨by exact ⟨RQ.pure rfl rfl rfl rfl, RQ.load rfl rfl rfl rfl (hS.ld 1 rfl rfl), RQ.pure rfl rfl rfl rfl, RQ.load rfl rfl rfl rfl (hS.ld 1 rfl rfl), RQ.pure rfl rfl rfl rfl⟩, ?_⟩
  refine WQ.nil ?_
  intro m2
  replace hS := hS.drewN m2; generalize hwm2 : World.drewN _ _ = w at *; clear hwm2
  refine WL.stF rfl rfl rfl 2 hS rfl rfl rfl rfl rfl ag_121 (fun w hS => ?_)
  replace hS := hS.n3 L (a2 := cel b1 #[.int .i64 (A.nd i).key, .int .i64 (A.nd i).val] 121) rfl
  refine WL.nil ?_
  refine ⟨by exact ⟨RQ.pure rfl rfl rfl rfl, RQ.load rfl rfl rfl rfl (hS.ld 1 rfl rfl)⟩, ?_⟩
  refine WQ.r 1 rfl <| WQ.nil ?_
  intro m3
  replace hS := hS.drewN m3; generalize hwm3 : World.drewN _ _ = w at *; clear hwm3
  as_aux_lemma =>
  refine WC.ret ?_
  refine ⟨[.int .u32 (A.nd i).lf, .agg #[.int .i64 (A.nd i).key, .int .i64 (A.nd i).val], .int .u32 (A.nd i).rg], ⟨rfl, ⟨_, rfl, hS.lvF 2 rfl ag_121⟩, rfl⟩, ?_⟩
  replace hS := (hS.sel 3 [0] rfl)
  exact ⟨_, _, _, by rw [← hik, ← hiv]; rfl, hS, Opn.of ⟨hi1, hi2, hik, hiv, hil, hir⟩ f2⟩
theorem bif_and (p q : Prop) [Decidable p] [Decidable q] : (bif decide p then decide q else false) = decide (p ∧ q) := by
  by_cases h1 : p <;> by_cases h2 : q <;> simp [h1, h2]
set_option maxRecDepth 8192 in
theorem bal_spec {g w : World} {L : List HP} (x y : Int) (hx : 0 ≤ x ∧ x ≤ 2000000000) (hy : 0 ≤ y ∧ y ≤ 2000000000) (hS : St g (L) w) :
    Sp Tryz.prog 209 [.int .i64 x, .int .i64 y] w (fun v w' => v = .bool (decide (x + 1 ≤ 3 * (y + 1) ∧ y + 1 ≤ 3 * (x + 1))) ∧ St g (L) w') := by
  refine Sp.enter Tryz.func209 rfl (by kernel_rfl) (by kernel_rfl) ?_
  have _ := hy
  have _ := hx
  refine WC.seq <| WC.region <| WL.r 1 rfl <| WL.nil <| WC.seq <| WC.seq <| WC.region <| WL.r 2 rfl <| WL.rG 12 rfl (fun j => ?_)
  refine WL.prop 18 rfl (bor (bor (bor (dd _) (dd _)) (dd _)) (dd _)) <| WL.nil <| WC.ifF rfl (decide_eq_false ((by omega))) ?_
  refine WC.skip <| WC.seq <| WC.region <| WL.r 2 rfl <| WL.nw 20 rfl (w64 (by omega)) ?_
  refine WL.r 2 rfl <| WL.nw 22 rfl (w64 (by omega)) ?_
  refine WL.r 1 rfl <| WL.nw 23 rfl (w64 (by omega)) ?_
  refine WL.r 1 rfl <| WL.rG 9 rfl (fun j => ?_)
  refine WL.prop 32 rfl (band (dd _) (dd _)) <| WL.nil ?_
  as_aux_lemma =>
  refine WC.ret ?_
  refine ⟨[.bool (bif (decide ((x + 1) ≤ (3 * (y + 1)))) then (decide ((IntKind.i64.wrap (y + 1)) ≤ (IntKind.i64.wrap (3 * (IntKind.i64.wrap (x + 1)))))) else false)], rfl, ?_⟩
  exact ⟨congrArg Value.bool (by rw [w64 (z := y + 1) (by omega), w64 (z := x + 1) (by omega), w64 (z := 3 * (x + 1)) (by omega), bif_and]), hS⟩
end Go.Proofs.YtbeacjcmdijdmaaGreat
/-! ## W2 -/
namespace Go.Proofs.YtbeacjcmdijdmaaGreat
open Go Go.V
theorem not_nil {t : Tr} (h : t.n ≠ 0) : ∃ l k v r, t = .node l k v r := by
  cases t with
  | nil => exact absurd rfl h
  | node l k v r => exact ⟨l, k, v, r, rfl⟩
theorem dec_congr {a b : Prop} [Decidable a] [Decidable b] (h : a ↔ b) : decide a = decide b := by
  by_cases h1 : a
  · rw [decide_eq_true h1, decide_eq_true (h.1 h1)]
  · rw [decide_eq_false h1, decide_eq_false (fun h2 => h1 (h.2 h2))]
set_option maxHeartbeats 1000000 in
set_option maxRecDepth 8192 in
theorem tw_litL {g w : World} {L : List HP} (a : Nat) (A : AM) (R : List Int) (l r k z : Int) (tl tm ts : Tr) (fk fz : Int) (hA : ARf A (l :: r :: R)) (hl : Is A tl l) (hr : Is A (.node tm fk fz ts) r) (hf : 3 ≤ A.s.free) (hz : R.length + tl.n + tm.n + ts.n ≤ 800000000) (hS : St g (Arn a A :: L) w) :
    Sp Tryz.prog 246 [.pointer (some ⟨a, 0, none⟩), .int .i64 (tl.n : Int), .int .u32 l, .agg #[.int .i64 k, .int .i64 z], .int .u32 r] w (fun v w' => ∃ (A2 : AM) (i : Int), v = .int .u32 i ∧ St g (Arn a A2 :: L) w' ∧ (TOp A A2 R i (Tr.litL tl k z (.node tm fk fz ts)) 3)) := by
  refine Sp.enter Tryz.func246 rfl (by kernel_rfl) (by kernel_rfl) ?_
  have _ := hz
  have _ := hf
  refine WC.seq <| WC.region <| WL.box rfl rfl #[.int .i64 k, .int .i64 z] hS rfl rfl (fun b1 w hS => ?_)
  refine WL.r 1 rfl <| WL.nil <| WC.seq <| WC.region <| WL.r 2 rfl <| WL.call rfl rfl (tw_open (a := a) (A := A) (R := l :: R) (i := r) (k := fk) (z := fz) (l := tm) (r := ts) (hA := hA.sw) (hi := hr) (hz := (by simp only [List.length_cons]; omega)) (hS := (hS.sel 2 [1, 0] rfl))) rfl ?_
  clear hS; rintro _ w ⟨A1, x1, y1, rfl, hS, f1⟩
  replace hS : St g (Arn a A1 :: cel b1 #[.int .i64 k, .int .i64 z] 121 :: L) w := hS
  refine WL.r 4 rfl <| WL.new rfl rfl zv_121 hS (fun b2 w hS => ?_)
  refine WL.r 1 rfl <| WL.stF rfl rfl rfl 0 hS rfl rfl rfl rfl rfl ag_121 (fun w hS => ?_)
  replace hS := hS.n3 L (a0 := cel b2 #[.int .i64 fk, .int .i64 fz] 121) rfl
  refine WL.r 1 rfl <| WL.nil <| WC.seq <| WC.region ?_
  have hr1 := f1.rng; have hl1 := f1.kp l (by simp) tl hl; have hx0 := Is.nil_iff f1.il; have hfr1 := f1.fr
  refine WL.r 2 rfl <| WL.call rfl rfl (tr_size (a := a) (A := A1) (R := x1 :: y1 :: l :: R) (i := x1) (t := tm) (hA := f1.ref) (hi := f1.il) (hS := (hS.sel 2 [1, 0] rfl))) rfl ?_
  clear hS; rintro _ w ⟨rfl, hS⟩
  replace hS := hS.n3 L rfl
  refine WL.r 1 rfl <| WL.nil ?_
  as_aux_lemma =>
  refine WC.seq <| WC.seq <| WC.cut [0, 2, 8, 10, 11, 12, 13, 45] (fun vs w => ∃ (tb : Bool), vs = [.pointer (some ⟨a, 0, none⟩), .int .u32 l, .pointer (some ⟨b1, 0, none⟩), .int .u32 0, .int .u32 x1, .pointer (some ⟨b2, 0, none⟩), .int .u32 y1, .bool tb] ∧ St g (Arn a A1 :: cel b2 #[.int .i64 fk, .int .i64 fz] 121 :: cel b1 #[.int .i64 k, .int .i64 z] 121 :: L) w ∧ (tb = decide (tm.n = 0 ∨ (Bal tl.n tm.n ∧ Bal (tl.n + tm.n + 1) ts.n)))) ?_ ?_
  · refine WC.region <| WL.r 3 rfl ?_
    by_cases cg1 : x1 = 0
    · refine WL.reb 31 (.bool true) (congrArg Value.bool (decide_eq_true cg1)) <| WL.skp rfl rfl rfl rfl <| WL.skp rfl rfl rfl rfl <| WL.skp rfl rfl rfl rfl <| WL.skp rfl rfl rfl rfl <| WL.skU rfl rfl rfl <| WL.skU rfl rfl rfl <| WL.skU rfl rfl rfl <| WL.skU rfl rfl rfl <| WL.skU rfl rfl rfl <| WL.skU rfl rfl rfl <| WL.skU rfl rfl rfl ?_
      refine WL.skU rfl rfl rfl <| WL.skp rfl rfl rfl rfl <| WL.r 1 rfl <| WL.nil ?_
      exact ⟨true, rfl, hS, (decide_eq_true (.inl (by rw [hx0.1 cg1]; rfl))).symm⟩
    · refine WL.reb 31 (.bool false) (congrArg Value.bool (decide_eq_false cg1)) <| WL.ung rfl rfl rfl <| WL.r 1 rfl <| WL.ung rfl rfl rfl <| WL.r 1 rfl <| WL.ung rfl rfl rfl <| WL.call rfl rfl (bal_spec (x := (tl.n : Int)) (y := (tm.n : Int)) (hx := (by omega)) (hy := (by omega)) (hS := hS)) rfl ?_
      clear hS; rintro _ w ⟨rfl, hS⟩
      replace hS := hS.n3 L rfl
      refine WL.ung rfl rfl rfl <| WL.r 1 rfl ?_
      by_cases cg2 : (tl.n : Int) + 1 ≤ 3 * ((tm.n : Int) + 1) ∧ (tm.n : Int) + 1 ≤ 3 * ((tl.n : Int) + 1)
      · refine WL.reb 35 (.bool true) (congrArg Value.bool (decide_eq_true cg2)) <| WL.ung rfl rfl rfl <| WL.r 1 rfl <| WL.ung rfl rfl rfl <| WL.r 1 rfl <| WL.ung rfl rfl rfl <| WL.r 1 rfl <| WL.nw 38 rfl (w64 (by omega)) ?_
        refine WL.ung rfl rfl rfl <| WL.r 1 rfl <| WL.nw 39 rfl (w64 (by omega)) ?_
        refine WL.ung rfl rfl rfl <| WL.r 1 rfl <| WL.ung rfl rfl rfl <| WL.r 1 rfl <| WL.ung rfl rfl rfl <| WL.call rfl rfl (tr_size (a := a) (A := A1) (R := x1 :: y1 :: l :: R) (i := y1) (t := ts) (hA := f1.ref) (hi := f1.ir) (hS := hS)) rfl ?_
        clear hS; rintro _ w ⟨rfl, hS⟩
        replace hS := hS.n3 L rfl
        refine WL.ung rfl rfl rfl <| WL.call rfl rfl (bal_spec (x := ((tl.n : Int) + (tm.n : Int)) + 1) (y := (ts.n : Int)) (hx := (by omega)) (hy := (by omega)) (hS := hS)) rfl ?_
        clear hS; rintro _ w ⟨rfl, hS⟩
        replace hS := hS.n3 L rfl
        refine WL.ung rfl rfl rfl <| WL.r 2 rfl <| WL.nil ?_
        exact ⟨decide ((((tl.n : Int) + (tm.n : Int)) + 1) + 1 ≤ 3 * ((ts.n : Int) + 1) ∧ (ts.n : Int) + 1 ≤ 3 * ((((tl.n : Int) + (tm.n : Int)) + 1) + 1)), rfl, hS, (dec_congr (by have h9 : tm.n ≠ 0 := fun e => cg1 (hx0.2 (Tr.n0 e)); unfold Bal; omega))⟩
      · refine WL.reb 35 (.bool false) (congrArg Value.bool (decide_eq_false cg2)) <| WL.skp rfl rfl rfl rfl <| WL.skp rfl rfl rfl rfl <| WL.skp rfl rfl rfl rfl <| WL.skp rfl rfl rfl rfl <| WL.skp rfl rfl rfl rfl <| WL.skp rfl rfl rfl rfl <| WL.skp rfl rfl rfl rfl <| WL.skp rfl rfl rfl rfl <| WL.ung rfl rfl rfl <| WL.r 2 rfl <| WL.nil ?_
        exact ⟨false, rfl, hS, (decide_eq_false (by have h9 : tm.n ≠ 0 := fun e => cg1 (hx0.2 (Tr.n0 e)); unfold Bal; omega)).symm⟩
  clear hS; rintro _ w j ⟨tb, rfl, hS, hb⟩
  refine WC.if_ rfl (fun hc => ?_) (fun hc => ?_)
  · refine WC.seq <| WC.plan [([0, 1, 2, 3, 4, 6, 7], some (5, [0, 6, 7])), ([], some (8, [])), ([9], none)] (by kernel_rfl) (by kernel_rfl) ?_
    refine WQ.r 3 rfl <| WQ.ldF rfl rfl 2 hS rfl rfl ag_121 <| WQ.r 1 rfl <| WQ.ldF rfl rfl 1 hS rfl rfl ag_121 <| WQ.r 1 rfl <| WQ.nil ?_
    intro m1
    replace hS := hS.drewN m1; generalize hwm1 : World.drewN _ _ = w at *; clear hwm1
    refine WL.call rfl rfl (tw_node (a := a) (A := A1) (R := y1 :: R) (l := l) (r := x1) (k := k) (z := z) (tl := tl) (tr := tm) (hA := f1.ref.r3) (hl := hl1) (hr := f1.il) (hf := (by omega)) (hz := (by simp only [List.length_cons]; omega)) (hS := hS)) rfl ?_
    clear hS; rintro _ w ⟨A2, i1, rfl, hS, f2⟩
    replace hS := hS.n3 L (a0 := Arn a A2) rfl
    refine WL.nil ?_
    refine ⟨by exact ⟨RQ.pure rfl rfl rfl rfl, RQ.ldF rfl rfl 1 hS rfl rfl ag_121 rfl rfl, RQ.pure rfl rfl rfl rfl⟩, ?_⟩
    refine WQ.nil ?_
    intro m2
    replace hS := hS.drewN m2; generalize hwm2 : World.drewN _ _ = w at *; clear hwm2
    refine WL.call rfl rfl (tw_node (a := a) (A := A2) (R := R) (l := i1) (r := y1) (k := fk) (z := fz) (tl := .node tl k z tm) (tr := ts) (hA := f2.ref) (hl := f2.is) (hr := (f2.kp y1 (by simp) ts f1.ir)) (hf := (by have := f2.fr; omega)) (hz := (by simp only [Tr.n]; omega)) (hS := hS)) rfl ?_
    clear hS; rintro _ w ⟨A3, i2, rfl, hS, f3⟩
    replace hS := hS.n3 L (a0 := Arn a A3) rfl
    refine WL.nil ?_
    refine ⟨by exact trivial, ?_⟩
    refine WQ.r 1 rfl <| WQ.nil ?_
    intro m3
    replace hS := hS.drewN m3; generalize hwm3 : World.drewN _ _ = w at *; clear hwm3
    as_aux_lemma =>
    refine WC.ret ?_
    refine ⟨[.int .u32 i2], rfl, ?_⟩
    replace hS := (hS.sel 3 [0] rfl)
    exact ⟨_, _, rfl, hS, by rw [Tr.litL, if_pos (of_decide_eq_true (hb ▸ hc))]; exact f3.after (f1.ch.trans f2.ch sb1 sb1) sb0 (by omega)⟩
  · refine WC.skip <| WC.seq <| WC.region ?_
    have hcn := of_decide_eq_false (hb.symm.trans hc); obtain ⟨tx, gk, gz, ty, htm⟩ := not_nil (t := tm) (fun e => hcn (.inl e)); have him : Is A1 (.node tx gk gz ty) x1 := htm ▸ f1.il; have htn : tm.n = tx.n + ty.n + 1 := (by rw [htm]; rfl)
    refine WL.r 2 rfl <| WL.call rfl rfl (tw_open (a := a) (A := A1) (R := y1 :: l :: R) (i := x1) (k := gk) (z := gz) (l := tx) (r := ty) (hA := f1.ref) (hi := him) (hz := (by simp only [List.length_cons]; omega)) (hS := hS)) rfl ?_
    clear hS; rintro _ w ⟨A2, x2, y2, rfl, hS, f2⟩
    replace hS := hS.n3 L (a0 := Arn a A2) rfl
    refine WL.r 4 rfl <| WL.new rfl rfl zv_121 hS (fun b3 w hS => ?_)
    refine WL.r 1 rfl <| WL.stF rfl rfl rfl 0 hS rfl rfl rfl rfl rfl ag_121 (fun w hS => ?_)
    replace hS := hS.n4 L (a0 := cel b3 #[.int .i64 gk, .int .i64 gz] 121) rfl
    refine WL.r 1 rfl <| WL.nil <| WC.seq <| WC.region ?_
    have hr2 := f2.rng; have hl2 := f2.kp l (by simp) tl hl1; have hs2 := f2.kp y1 (by simp) ts f1.ir; have hfr2 := f2.fr
    refine WL.r 2 rfl <| WL.ldF rfl rfl 3 hS rfl rfl ag_121 <| WL.r 1 rfl <| WL.call rfl rfl (tw_node (a := a) (A := A2) (R := y2 :: y1 :: R) (l := l) (r := x2) (k := k) (z := z) (tl := tl) (tr := tx) (hA := f2.ref.r4) (hl := hl2) (hr := f2.il) (hf := (by omega)) (hz := (by simp only [List.length_cons]; omega)) (hS := (hS.sel 2 [1, 0] rfl))) rfl ?_
    clear hS; rintro _ w ⟨A3, i1, rfl, hS, f3⟩
    replace hS := hS.n4 L (a0 := Arn a A3) rfl
    refine WL.r 1 rfl <| WL.nil ?_
    as_aux_lemma =>
    refine WC.seq <| WC.plan [([0, 1, 2, 3, 4, 5, 6], some (7, [0, 1, 2])), ([], some (8, [])), ([9], none)] (by kernel_rfl) (by kernel_rfl) ?_
    have hr3 := f3.rng; have hfr3 := f3.fr
    refine WQ.r 2 rfl <| WQ.ldF rfl rfl 1 hS rfl rfl ag_121 <| WQ.r 2 rfl <| WQ.ldF rfl rfl 2 hS rfl rfl ag_121 <| WQ.r 1 rfl <| WQ.nil ?_
    intro m1
    replace hS := hS.drewN m1; generalize hwm1 : World.drewN _ _ = w at *; clear hwm1
    refine WL.call rfl rfl (tw_node (a := a) (A := A3) (R := i1 :: R) (l := y2) (r := y1) (k := fk) (z := fz) (tl := ty) (tr := ts) (hA := f3.ref.r3.r3) (hl := (f3.kp y2 (by simp) ty f2.ir)) (hr := (f3.kp y1 (by simp) ts hs2)) (hf := (by omega)) (hz := (by simp only [List.length_cons]; omega)) (hS := hS)) rfl ?_
    clear hS; rintro _ w ⟨A4, i2, rfl, hS, f4⟩
    replace hS := hS.n4 L (a0 := Arn a A4) rfl
    refine WL.nil ?_
    refine ⟨by exact ⟨RQ.pure rfl rfl rfl rfl, RQ.pure rfl rfl rfl rfl, RQ.ldF rfl rfl 1 hS rfl rfl ag_121 rfl rfl⟩, ?_⟩
    refine WQ.nil ?_
    intro m2
    replace hS := hS.drewN m2; generalize hwm2 : World.drewN _ _ = w at *; clear hwm2
    refine WL.call rfl rfl (tw_node (a := a) (A := A4) (R := R) (l := i1) (r := i2) (k := gk) (z := gz) (tl := .node tl k z tx) (tr := .node ty fk fz ts) (hA := f4.ref.sw) (hl := (f4.kp i1 (by simp) _ f3.is)) (hr := f4.is) (hf := (by have := f4.fr; omega)) (hz := (by simp only [Tr.n]; omega)) (hS := hS)) rfl ?_
    clear hS; rintro _ w ⟨A5, i3, rfl, hS, f5⟩
    replace hS := hS.n4 L (a0 := Arn a A5) rfl
    refine WL.nil ?_
    refine ⟨by exact trivial, ?_⟩
    refine WQ.r 1 rfl <| WQ.nil ?_
    intro m3
    replace hS := hS.drewN m3; generalize hwm3 : World.drewN _ _ = w at *; clear hwm3
    as_aux_lemma =>
    refine WC.ret ?_
    refine ⟨[.int .u32 i3], rfl, ?_⟩
    replace hS := (hS.sel 4 [0] rfl)
    exact ⟨_, _, rfl, hS, by rw [Tr.litL, if_neg hcn, htm]; exact f5.after ((f1.ch.trans f2.ch sb1 sb2).trans (f3.ch.trans f4.ch sb2 sb1) sb0 sb0) sb0 (by omega)⟩
set_option maxHeartbeats 1000000 in
set_option maxRecDepth 8192 in
theorem tw_litR {g w : World} {L : List HP} (a : Nat) (A : AM) (R : List Int) (l r k z : Int) (tr tm ts : Tr) (fk fz : Int) (hA : ARf A (l :: r :: R)) (hl : Is A (.node ts fk fz tm) l) (hr : Is A tr r) (hf : 3 ≤ A.s.free) (hz : R.length + tr.n + tm.n + ts.n ≤ 800000000) (hS : St g (Arn a A :: L) w) :
    Sp Tryz.prog 247 [.pointer (some ⟨a, 0, none⟩), .int .i64 (tr.n : Int), .int .u32 l, .agg #[.int .i64 k, .int .i64 z], .int .u32 r] w (fun v w' => ∃ (A2 : AM) (i : Int), v = .int .u32 i ∧ St g (Arn a A2 :: L) w' ∧ (TOp A A2 R i (Tr.litR tr k z (.node ts fk fz tm)) 3)) := by
  refine Sp.enter Tryz.func247 rfl (by kernel_rfl) (by kernel_rfl) ?_
  have _ := hz
  have _ := hf
  refine WC.seq <| WC.region <| WL.box rfl rfl #[.int .i64 k, .int .i64 z] hS rfl rfl (fun b1 w hS => ?_)
  refine WL.r 1 rfl <| WL.nil <| WC.seq <| WC.region <| WL.r 2 rfl <| WL.call rfl rfl (tw_open (a := a) (A := A) (R := r :: R) (i := l) (k := fk) (z := fz) (l := ts) (r := tm) (hA := hA) (hi := hl) (hz := (by simp only [List.length_cons]; omega)) (hS := (hS.sel 2 [1, 0] rfl))) rfl ?_
  clear hS; rintro _ w ⟨A1, x1, y1, rfl, hS, f1⟩
  replace hS : St g (Arn a A1 :: cel b1 #[.int .i64 k, .int .i64 z] 121 :: L) w := hS
  refine WL.r 4 rfl <| WL.new rfl rfl zv_121 hS (fun b2 w hS => ?_)
  refine WL.r 1 rfl <| WL.stF rfl rfl rfl 0 hS rfl rfl rfl rfl rfl ag_121 (fun w hS => ?_)
  replace hS := hS.n3 L (a0 := cel b2 #[.int .i64 fk, .int .i64 fz] 121) rfl
  refine WL.r 1 rfl <| WL.nil <| WC.seq <| WC.region ?_
  have hr1 := f1.rng; have hl1 := f1.kp r (by simp) tr hr; have hx0 := Is.nil_iff f1.ir; have hfr1 := f1.fr
  refine WL.r 2 rfl <| WL.call rfl rfl (tr_size (a := a) (A := A1) (R := x1 :: y1 :: r :: R) (i := y1) (t := tm) (hA := f1.ref) (hi := f1.ir) (hS := (hS.sel 2 [1, 0] rfl))) rfl ?_
  clear hS; rintro _ w ⟨rfl, hS⟩
  replace hS := hS.n3 L rfl
  refine WL.r 1 rfl <| WL.nil ?_
  as_aux_lemma =>
  refine WC.seq <| WC.seq <| WC.cut [0, 4, 8, 10, 11, 12, 13, 45] (fun vs w => ∃ (tb : Bool), vs = [.pointer (some ⟨a, 0, none⟩), .int .u32 r, .pointer (some ⟨b1, 0, none⟩), .int .u32 0, .int .u32 x1, .pointer (some ⟨b2, 0, none⟩), .int .u32 y1, .bool tb] ∧ St g (Arn a A1 :: cel b2 #[.int .i64 fk, .int .i64 fz] 121 :: cel b1 #[.int .i64 k, .int .i64 z] 121 :: L) w ∧ (tb = decide (tm.n = 0 ∨ (Bal tm.n tr.n ∧ Bal ts.n (tm.n + tr.n + 1))))) ?_ ?_
  · refine WC.region <| WL.r 3 rfl ?_
    by_cases cg1 : y1 = 0
    · refine WL.reb 31 (.bool true) (congrArg Value.bool (decide_eq_true cg1)) <| WL.skp rfl rfl rfl rfl <| WL.skp rfl rfl rfl rfl <| WL.skp rfl rfl rfl rfl <| WL.skp rfl rfl rfl rfl <| WL.skU rfl rfl rfl <| WL.skU rfl rfl rfl <| WL.skU rfl rfl rfl <| WL.skU rfl rfl rfl <| WL.skU rfl rfl rfl <| WL.skU rfl rfl rfl <| WL.skU rfl rfl rfl ?_
      refine WL.skU rfl rfl rfl <| WL.skp rfl rfl rfl rfl <| WL.r 1 rfl <| WL.nil ?_
      exact ⟨true, rfl, hS, (decide_eq_true (.inl (by rw [hx0.1 cg1]; rfl))).symm⟩
    · refine WL.reb 31 (.bool false) (congrArg Value.bool (decide_eq_false cg1)) <| WL.ung rfl rfl rfl <| WL.r 1 rfl <| WL.ung rfl rfl rfl <| WL.r 1 rfl <| WL.ung rfl rfl rfl <| WL.call rfl rfl (bal_spec (x := (tm.n : Int)) (y := (tr.n : Int)) (hx := (by omega)) (hy := (by omega)) (hS := hS)) rfl ?_
      clear hS; rintro _ w ⟨rfl, hS⟩
      replace hS := hS.n3 L rfl
      refine WL.ung rfl rfl rfl <| WL.r 1 rfl ?_
      by_cases cg2 : (tm.n : Int) + 1 ≤ 3 * ((tr.n : Int) + 1) ∧ (tr.n : Int) + 1 ≤ 3 * ((tm.n : Int) + 1)
      · refine WL.reb 35 (.bool true) (congrArg Value.bool (decide_eq_true cg2)) <| WL.ung rfl rfl rfl <| WL.r 1 rfl <| WL.ung rfl rfl rfl <| WL.r 1 rfl <| WL.ung rfl rfl rfl <| WL.call rfl rfl (tr_size (a := a) (A := A1) (R := x1 :: y1 :: r :: R) (i := x1) (t := ts) (hA := f1.ref) (hi := f1.il) (hS := hS)) rfl ?_
        clear hS; rintro _ w ⟨rfl, hS⟩
        replace hS := hS.n3 L rfl
        refine WL.ung rfl rfl rfl <| WL.r 1 rfl <| WL.ung rfl rfl rfl <| WL.r 1 rfl <| WL.ung rfl rfl rfl <| WL.r 1 rfl <| WL.nw 41 rfl (w64 (by omega)) ?_
        refine WL.ung rfl rfl rfl <| WL.r 1 rfl <| WL.nw 42 rfl (w64 (by omega)) ?_
        refine WL.ung rfl rfl rfl <| WL.call rfl rfl (bal_spec (x := (ts.n : Int)) (y := ((tm.n : Int) + (tr.n : Int)) + 1) (hx := (by omega)) (hy := (by omega)) (hS := hS)) rfl ?_
        clear hS; rintro _ w ⟨rfl, hS⟩
        replace hS := hS.n3 L rfl
        refine WL.ung rfl rfl rfl <| WL.r 2 rfl <| WL.nil ?_
        exact ⟨decide ((ts.n : Int) + 1 ≤ 3 * ((((tm.n : Int) + (tr.n : Int)) + 1) + 1) ∧ (((tm.n : Int) + (tr.n : Int)) + 1) + 1 ≤ 3 * ((ts.n : Int) + 1)), rfl, hS, (dec_congr (by have h9 : tm.n ≠ 0 := fun e => cg1 (hx0.2 (Tr.n0 e)); unfold Bal; omega))⟩
      · refine WL.reb 35 (.bool false) (congrArg Value.bool (decide_eq_false cg2)) <| WL.skp rfl rfl rfl rfl <| WL.skp rfl rfl rfl rfl <| WL.skp rfl rfl rfl rfl <| WL.skp rfl rfl rfl rfl <| WL.skp rfl rfl rfl rfl <| WL.skp rfl rfl rfl rfl <| WL.skp rfl rfl rfl rfl <| WL.skp rfl rfl rfl rfl <| WL.ung rfl rfl rfl <| WL.r 2 rfl <| WL.nil ?_
        exact ⟨false, rfl, hS, (decide_eq_false (by have h9 : tm.n ≠ 0 := fun e => cg1 (hx0.2 (Tr.n0 e)); unfold Bal; omega)).symm⟩
  clear hS; rintro _ w j ⟨tb, rfl, hS, hb⟩
  refine WC.if_ rfl (fun hc => ?_) (fun hc => ?_)
  · refine WC.seq <| WC.plan [([0, 1, 2, 3, 4, 5, 6], some (7, [0, 1, 2])), ([], some (8, [])), ([9], none)] (by kernel_rfl) (by kernel_rfl) ?_
    refine WQ.r 2 rfl <| WQ.ldF rfl rfl 1 hS rfl rfl ag_121 <| WQ.r 2 rfl <| WQ.ldF rfl rfl 2 hS rfl rfl ag_121 <| WQ.r 1 rfl <| WQ.nil ?_
    intro m1
    replace hS := hS.drewN m1; generalize hwm1 : World.drewN _ _ = w at *; clear hwm1
    refine WL.call rfl rfl (tw_node (a := a) (A := A1) (R := x1 :: R) (l := y1) (r := r) (k := k) (z := z) (tl := tm) (tr := tr) (hA := f1.ref.r3.r3) (hl := f1.ir) (hr := hl1) (hf := (by omega)) (hz := (by simp only [List.length_cons]; omega)) (hS := hS)) rfl ?_
    clear hS; rintro _ w ⟨A2, i1, rfl, hS, f2⟩
    replace hS := hS.n3 L (a0 := Arn a A2) rfl
    refine WL.nil ?_
    refine ⟨by exact ⟨RQ.pure rfl rfl rfl rfl, RQ.pure rfl rfl rfl rfl, RQ.ldF rfl rfl 1 hS rfl rfl ag_121 rfl rfl⟩, ?_⟩
    refine WQ.nil ?_
    intro m2
    replace hS := hS.drewN m2; generalize hwm2 : World.drewN _ _ = w at *; clear hwm2
    refine WL.call rfl rfl (tw_node (a := a) (A := A2) (R := R) (l := x1) (r := i1) (k := fk) (z := fz) (tl := ts) (tr := .node tm k z tr) (hA := f2.ref.sw) (hl := (f2.kp x1 (by simp) ts f1.il)) (hr := f2.is) (hf := (by have := f2.fr; omega)) (hz := (by simp only [Tr.n]; omega)) (hS := hS)) rfl ?_
    clear hS; rintro _ w ⟨A3, i2, rfl, hS, f3⟩
    replace hS := hS.n3 L (a0 := Arn a A3) rfl
    refine WL.nil ?_
    refine ⟨by exact trivial, ?_⟩
    refine WQ.r 1 rfl <| WQ.nil ?_
    intro m3
    replace hS := hS.drewN m3; generalize hwm3 : World.drewN _ _ = w at *; clear hwm3
    as_aux_lemma =>
    refine WC.ret ?_
    refine ⟨[.int .u32 i2], rfl, ?_⟩
    replace hS := (hS.sel 3 [0] rfl)
    exact ⟨_, _, rfl, hS, by rw [Tr.litR, if_pos (of_decide_eq_true (hb ▸ hc))]; exact f3.after (f1.ch.trans f2.ch sb1 sb1) sb0 (by omega)⟩
  · refine WC.skip <| WC.seq <| WC.region ?_
    have hcn := of_decide_eq_false (hb.symm.trans hc); obtain ⟨tx, gk, gz, ty, htm⟩ := not_nil (t := tm) (fun e => hcn (.inl e)); have him : Is A1 (.node tx gk gz ty) y1 := htm ▸ f1.ir; have htn : tm.n = tx.n + ty.n + 1 := (by rw [htm]; rfl)
    refine WL.r 2 rfl <| WL.call rfl rfl (tw_open (a := a) (A := A1) (R := x1 :: r :: R) (i := y1) (k := gk) (z := gz) (l := tx) (r := ty) (hA := f1.swap) (hi := him) (hz := (by simp only [List.length_cons]; omega)) (hS := hS)) rfl ?_
    clear hS; rintro _ w ⟨A2, x2, y2, rfl, hS, f2⟩
    replace hS := hS.n3 L (a0 := Arn a A2) rfl
    refine WL.r 4 rfl <| WL.new rfl rfl zv_121 hS (fun b3 w hS => ?_)
    refine WL.r 1 rfl <| WL.stF rfl rfl rfl 0 hS rfl rfl rfl rfl rfl ag_121 (fun w hS => ?_)
    replace hS := hS.n4 L (a0 := cel b3 #[.int .i64 gk, .int .i64 gz] 121) rfl
    refine WL.r 1 rfl <| WL.nil <| WC.seq <| WC.region ?_
    have hr2 := f2.rng; have hl2 := f2.kp r (by simp) tr hl1; have hs2 := f2.kp x1 (by simp) ts f1.il; have hfr2 := f2.fr
    refine WL.r 2 rfl <| WL.ldF rfl rfl 2 hS rfl rfl ag_121 <| WL.r 1 rfl <| WL.call rfl rfl (tw_node (a := a) (A := A2) (R := y2 :: r :: R) (l := x1) (r := x2) (k := fk) (z := fz) (tl := ts) (tr := tx) (hA := f2.ref.r3) (hl := hs2) (hr := f2.il) (hf := (by omega)) (hz := (by simp only [List.length_cons]; omega)) (hS := (hS.sel 2 [1, 0] rfl))) rfl ?_
    clear hS; rintro _ w ⟨A3, i1, rfl, hS, f3⟩
    replace hS := hS.n4 L (a0 := Arn a A3) rfl
    refine WL.r 1 rfl <| WL.nil ?_
    as_aux_lemma =>
    refine WC.seq <| WC.plan [([0, 1, 2, 3, 4, 5, 6], some (7, [0, 1, 2])), ([], some (8, [])), ([9], none)] (by kernel_rfl) (by kernel_rfl) ?_
    have hr3 := f3.rng; have hfr3 := f3.fr
    refine WQ.r 2 rfl <| WQ.ldF rfl rfl 1 hS rfl rfl ag_121 <| WQ.r 2 rfl <| WQ.ldF rfl rfl 3 hS rfl rfl ag_121 <| WQ.r 1 rfl <| WQ.nil ?_
    intro m1
    replace hS := hS.drewN m1; generalize hwm1 : World.drewN _ _ = w at *; clear hwm1
    refine WL.call rfl rfl (tw_node (a := a) (A := A3) (R := i1 :: R) (l := y2) (r := r) (k := k) (z := z) (tl := ty) (tr := tr) (hA := f3.ref.r3.r3) (hl := (f3.kp y2 (by simp) ty f2.ir)) (hr := (f3.kp r (by simp) tr hl2)) (hf := (by omega)) (hz := (by simp only [List.length_cons]; omega)) (hS := hS)) rfl ?_
    clear hS; rintro _ w ⟨A4, i2, rfl, hS, f4⟩
    replace hS := hS.n4 L (a0 := Arn a A4) rfl
    refine WL.nil ?_
    refine ⟨by exact ⟨RQ.pure rfl rfl rfl rfl, RQ.pure rfl rfl rfl rfl, RQ.ldF rfl rfl 1 hS rfl rfl ag_121 rfl rfl⟩, ?_⟩
    refine WQ.nil ?_
    intro m2
    replace hS := hS.drewN m2; generalize hwm2 : World.drewN _ _ = w at *; clear hwm2
    refine WL.call rfl rfl (tw_node (a := a) (A := A4) (R := R) (l := i1) (r := i2) (k := gk) (z := gz) (tl := .node ts fk fz tx) (tr := .node ty k z tr) (hA := f4.ref.sw) (hl := (f4.kp i1 (by simp) _ f3.is)) (hr := f4.is) (hf := (by have := f4.fr; omega)) (hz := (by simp only [Tr.n]; omega)) (hS := hS)) rfl ?_
    clear hS; rintro _ w ⟨A5, i3, rfl, hS, f5⟩
    replace hS := hS.n4 L (a0 := Arn a A5) rfl
    refine WL.nil ?_
    refine ⟨by exact trivial, ?_⟩
    refine WQ.r 1 rfl <| WQ.nil ?_
    intro m3
    replace hS := hS.drewN m3; generalize hwm3 : World.drewN _ _ = w at *; clear hwm3
    as_aux_lemma =>
    refine WC.ret ?_
    refine ⟨[.int .u32 i3], rfl, ?_⟩
    replace hS := (hS.sel 4 [0] rfl)
    exact ⟨_, _, rfl, hS, by rw [Tr.litR, if_neg hcn, htm]; exact f5.after ((f1.ch.trans f2.ch sb1 sb2).trans (f3.ch.trans f4.ch sb2 sb1) sb0 sb0) sb0 (by omega)⟩
set_option maxHeartbeats 1000000 in
set_option maxRecDepth 8192 in
theorem tw_bal {g w : World} {L : List HP} (a : Nat) (A : AM) (R : List Int) (l r k z : Int) (tl tr : Tr) (hA : ARf A (l :: r :: R)) (hl : Is A tl l) (hr : Is A tr r) (hf : 3 ≤ A.s.free) (hz : R.length + tl.n + tr.n ≤ 800000000) (hS : St g (Arn a A :: L) w) :
    Sp Tryz.prog 210 [.pointer (some ⟨a, 0, none⟩), .int .u32 l, .agg #[.int .i64 k, .int .i64 z], .int .u32 r] w (fun v w' => ∃ (A2 : AM) (i : Int), v = .int .u32 i ∧ St g (Arn a A2 :: L) w' ∧ (TOp A A2 R i (Tr.bal tl k z tr) 3)) := by
  refine Sp.enter Tryz.func210 rfl (by kernel_rfl) (by kernel_rfl) ?_
  have _ := hz
  refine WC.seq <| WC.region <| WL.box rfl rfl #[.int .i64 k, .int .i64 z] hS rfl rfl (fun b1 w hS => ?_)
  refine WL.r 1 rfl <| WL.nil <| WC.seq <| WC.region <| WL.r 2 rfl <| WL.call rfl rfl (tr_size (a := a) (A := A) (R := l :: r :: R) (i := l) (t := tl) (hA := hA) (hi := hl) (hS := (hS.sel 2 [1, 0] rfl))) rfl ?_
  clear hS; rintro _ w ⟨rfl, hS⟩
  replace hS := hS.n2 L (a1 := cel b1 #[.int .i64 k, .int .i64 z] 121) rfl
  refine WL.r 2 rfl <| WL.call rfl rfl (tr_size (a := a) (A := A) (R := l :: r :: R) (i := r) (t := tr) (hA := hA) (hi := hr) (hS := hS)) rfl ?_
  clear hS; rintro _ w ⟨rfl, hS⟩
  replace hS := hS.n2 L rfl
  refine WL.r 2 rfl <| WL.nil <| WC.seq <| WC.block <| WC.seq <| WC.region <| WL.r 2 rfl <| WL.call rfl rfl (bal_spec (x := (tl.n : Int)) (y := (tr.n : Int)) (hx := (by omega)) (hy := (by omega)) (hS := hS)) rfl ?_
  clear hS; rintro _ w ⟨rfl, hS⟩
  replace hS := hS.n2 L rfl
  refine WL.r 1 rfl <| WL.nil ?_
  as_aux_lemma =>
  refine WC.ifP rfl (fun hb => ?_) (fun hb => ?_)
  · refine WC.seq <| WC.region <| WL.r 2 rfl <| WL.ldF rfl rfl 1 hS rfl rfl ag_121 <| WL.r 1 rfl <| WL.call rfl rfl (tw_node (a := a) (A := A) (R := R) (l := l) (r := r) (k := k) (z := z) (tl := tl) (tr := tr) (hA := hA) (hl := hl) (hr := hr) (hf := (by omega)) (hz := (by omega)) (hS := hS)) rfl ?_
    clear hS; rintro _ w ⟨A1, i1, rfl, hS, f1⟩
    replace hS := hS.n2 L (a0 := Arn a A1) rfl
    refine WL.r 1 rfl <| WL.nil <| WC.ret ?_
    refine ⟨[.int .u32 i1], rfl, ?_⟩
    replace hS := (hS.sel 2 [0] rfl)
    exact ⟨_, _, rfl, hS, by unfold Tr.bal; rw [if_pos (show Bal tl.n tr.n by unfold Bal; omega)]; exact f1.weak (by omega)⟩
  · refine WC.seq <| WC.region <| WL.r 4 rfl <| WL.nil <| WC.ifP rfl (fun hlt => ?_) (fun hlt => ?_)
    · refine WC.seq <| WC.region ?_
      have hbn : ¬ Bal tl.n tr.n := (by unfold Bal; omega); obtain ⟨tm, fk, fz, ts, htr⟩ := not_nil (t := tr) (by omega); have htn : tr.n = tm.n + ts.n + 1 := (by rw [htr]; rfl); have hr2 : Is A (.node tm fk fz ts) r := htr ▸ hr
      refine WL.r 3 rfl <| WL.ldF rfl rfl 1 hS rfl rfl ag_121 <| WL.r 1 rfl <| WL.call rfl rfl (tw_litL (a := a) (A := A) (R := R) (l := l) (r := r) (k := k) (z := z) (tl := tl) (tm := tm) (ts := ts) (fk := fk) (fz := fz) (hA := hA) (hl := hl) (hr := hr2) (hf := hf) (hz := (by omega)) (hS := hS)) rfl ?_
      clear hS; rintro _ w ⟨A1, i1, rfl, hS, f1⟩
      replace hS := hS.n2 L (a0 := Arn a A1) rfl
      refine WL.r 1 rfl <| WL.nil <| WC.ret ?_
      refine ⟨[.int .u32 i1], rfl, ?_⟩
      replace hS := (hS.sel 2 [0] rfl)
      exact ⟨_, _, rfl, hS, by unfold Tr.bal; rw [if_neg hbn, if_pos (show tl.n < tr.n by omega), htr]; exact f1⟩
    · refine WC.skip <| WC.seq <| WC.region ?_
      have hbn : ¬ Bal tl.n tr.n := (by unfold Bal; omega); obtain ⟨ts, fk, fz, tm, htr⟩ := not_nil (t := tl) (by omega); have htn : tl.n = ts.n + tm.n + 1 := (by rw [htr]; rfl); have hl2 : Is A (.node ts fk fz tm) l := htr ▸ hl
      refine WL.r 3 rfl <| WL.ldF rfl rfl 1 hS rfl rfl ag_121 <| WL.r 1 rfl <| WL.call rfl rfl (tw_litR (a := a) (A := A) (R := R) (l := l) (r := r) (k := k) (z := z) (tr := tr) (tm := tm) (ts := ts) (fk := fk) (fz := fz) (hA := hA) (hl := hl2) (hr := hr) (hf := hf) (hz := (by omega)) (hS := hS)) rfl ?_
      clear hS; rintro _ w ⟨A1, i1, rfl, hS, f1⟩
      replace hS := hS.n2 L (a0 := Arn a A1) rfl
      refine WL.r 1 rfl <| WL.nil <| WC.ret ?_
      refine ⟨[.int .u32 i1], rfl, ?_⟩
      replace hS := (hS.sel 2 [0] rfl)
      exact ⟨_, _, rfl, hS, by unfold Tr.bal; rw [if_neg hbn, if_neg (show ¬ tl.n < tr.n by omega), htr]; exact f1⟩
end Go.Proofs.YtbeacjcmdijdmaaGreat
/-! ## W3 -/
namespace Go.Proofs.YtbeacjcmdijdmaaGreat
open Go Go.V
theorem join_bal {l r : Tr} {k v : Int} (h : Bal l.n r.n) : Tr.join l k v r = .node l k v r := by
  cases l with
  | nil =>
    cases r with
    | nil => rw [Tr.join]
    | node m a b s => rw [Tr.join, if_pos (by simpa [Tr.n] using h)]
  | node s a b m =>
    cases r with
    | nil => rw [Tr.join, if_pos (by simpa [Tr.n] using h)]
    | node m' a' b' s' => rw [Tr.join, if_pos (by simpa [Tr.n] using h)]
theorem join_gt {s m r : Tr} {fk fv k v : Int} (h : ¬ Bal (Tr.node s fk fv m).n r.n) (hg : r.n < (Tr.node s fk fv m).n) : Tr.join (.node s fk fv m) k v r = Tr.bal s fk fv (Tr.join m k v r) ∧ Tr.jc (.node s fk fv m) r = Tr.jc m r + 3 := by
  cases r with
  | nil => rw [Tr.join, if_neg (by simpa [Tr.n] using h), Tr.jc, if_neg (by simpa [Tr.n] using h)]; exact ⟨rfl, rfl⟩
  | node m' a' b' s' =>
    have h2 : m'.n + s'.n < s.n + m.n := by simp only [Tr.n] at hg; omega
    rw [Tr.join, if_neg (by simpa [Tr.n] using h), if_pos h2, Tr.jc, if_neg (by simpa [Tr.n] using h), if_pos h2]; exact ⟨rfl, rfl⟩
theorem join_lt {l m s : Tr} {fk fv k v : Int} (h : ¬ Bal l.n (Tr.node m fk fv s).n) (hg : ¬ (Tr.node m fk fv s).n < l.n) : Tr.join l k v (.node m fk fv s) = Tr.bal (Tr.join l k v m) fk fv s ∧ Tr.jc l (.node m fk fv s) = Tr.jc l m + 3 := by
  cases l with
  | nil => rw [Tr.join, if_neg (by simpa [Tr.n] using h), Tr.jc, if_neg (by simpa [Tr.n] using h)]; exact ⟨rfl, rfl⟩
  | node s' a' b' m' =>
    have h2 : ¬ m.n + s.n < s'.n + m'.n := by simp only [Tr.n] at hg; omega
    rw [Tr.join, if_neg (by simpa [Tr.n] using h), if_neg h2, Tr.jc, if_neg (by simpa [Tr.n] using h), if_neg h2]; exact ⟨rfl, rfl⟩
theorem jc_pos (l r : Tr) : 1 ≤ Tr.jc l r := by
  cases l <;> cases r <;> rw [Tr.jc] <;> (repeat' split) <;> omega
set_option maxHeartbeats 1000000 in
set_option maxRecDepth 8192 in
theorem tw_join_step (nM : Nat) (ih : ∀ mM : Nat, mM < nM → ∀ (g w : World) (L : List HP) (a : Nat) (A : AM) (R : List Int) (l r k z : Int) (tl tr : Tr), (ARf A (l :: r :: R)) → (Is A tl l) → (Is A tr r) → ((Tr.jc tl tr : Int) ≤ A.s.free) → (R.length + tl.n + tr.n ≤ 700000000) → tl.n + tr.n = mM → St g (Arn a A :: L) w → Sp Tryz.prog 175 [.pointer (some ⟨a, 0, none⟩), .int .u32 l, .agg #[.int .i64 k, .int .i64 z], .int .u32 r] w (fun v w' => ∃ (A2 : AM) (i : Int), v = .int .u32 i ∧ St g (Arn a A2 :: L) w' ∧ (TOp A A2 R i (Tr.join tl k z tr) (Tr.jc tl tr)))) {g w : World} {L : List HP} (a : Nat) (A : AM) (R : List Int) (l r k z : Int) (tl tr : Tr) (hA : ARf A (l :: r :: R)) (hl : Is A tl l) (hr : Is A tr r) (hf : (Tr.jc tl tr : Int) ≤ A.s.free) (hz : R.length + tl.n + tr.n ≤ 700000000) (hM : tl.n + tr.n = nM) (hS : St g (Arn a A :: L) w) :
    Sp Tryz.prog 175 [.pointer (some ⟨a, 0, none⟩), .int .u32 l, .agg #[.int .i64 k, .int .i64 z], .int .u32 r] w (fun v w' => ∃ (A2 : AM) (i : Int), v = .int .u32 i ∧ St g (Arn a A2 :: L) w' ∧ (TOp A A2 R i (Tr.join tl k z tr) (Tr.jc tl tr))) := by
  refine Sp.enter Tryz.func175 rfl (by kernel_rfl) (by kernel_rfl) ?_
  have _ := hz
  have _ := hf
  refine WC.seq <| WC.region <| WL.box rfl rfl #[.int .i64 k, .int .i64 z] hS rfl rfl (fun b1 w hS => ?_)
  refine WL.r 1 rfl <| WL.nil <| WC.seq <| WC.region ?_
  have hjp := jc_pos tl tr
  refine WL.r 2 rfl <| WL.call rfl rfl (tr_size (a := a) (A := A) (R := l :: r :: R) (i := l) (t := tl) (hA := hA) (hi := hl) (hS := (hS.sel 2 [1, 0] rfl))) rfl ?_
  clear hS; rintro _ w ⟨rfl, hS⟩
  replace hS := hS.n2 L (a1 := cel b1 #[.int .i64 k, .int .i64 z] 121) rfl
  refine WL.r 2 rfl <| WL.call rfl rfl (tr_size (a := a) (A := A) (R := l :: r :: R) (i := r) (t := tr) (hA := hA) (hi := hr) (hS := hS)) rfl ?_
  clear hS; rintro _ w ⟨rfl, hS⟩
  replace hS := hS.n2 L rfl
  refine WL.r 2 rfl <| WL.nil <| WC.seq <| WC.block <| WC.seq <| WC.region <| WL.r 2 rfl <| WL.call rfl rfl (bal_spec (x := (tl.n : Int)) (y := (tr.n : Int)) (hx := (by omega)) (hy := (by omega)) (hS := hS)) rfl ?_
  clear hS; rintro _ w ⟨rfl, hS⟩
  replace hS := hS.n2 L rfl
  refine WL.r 1 rfl <| WL.nil ?_
  as_aux_lemma =>
  refine WC.ifP rfl (fun hb => ?_) (fun hb => ?_)
  · refine WC.seq <| WC.region <| WL.r 2 rfl <| WL.ldF rfl rfl 1 hS rfl rfl ag_121 <| WL.r 1 rfl <| WL.call rfl rfl (tw_node (a := a) (A := A) (R := R) (l := l) (r := r) (k := k) (z := z) (tl := tl) (tr := tr) (hA := hA) (hl := hl) (hr := hr) (hf := (by omega)) (hz := (by omega)) (hS := hS)) rfl ?_
    clear hS; rintro _ w ⟨A1, i1, rfl, hS, f1⟩
    replace hS := hS.n2 L (a0 := Arn a A1) rfl
    refine WL.r 1 rfl <| WL.nil <| WC.ret ?_
    refine ⟨[.int .u32 i1], rfl, ?_⟩
    replace hS := (hS.sel 2 [0] rfl)
    exact ⟨_, _, rfl, hS, by have h9 : Bal tl.n tr.n := (by unfold Bal; omega); rw [join_bal h9, Tr.jc_bal h9]; exact f1⟩
  · refine WC.seq <| WC.region <| WL.r 4 rfl <| WL.nil <| WC.ifP rfl (fun hlt => ?_) (fun hlt => ?_)
    · refine WC.seq <| WC.region ?_
      have hbn : ¬ Bal tl.n tr.n := (by unfold Bal; omega); obtain ⟨ts, fk, fz, tm, htl⟩ := not_nil (t := tl) (by omega); have htn : tl.n = ts.n + tm.n + 1 := (by rw [htl]; rfl); have hl2 : Is A (.node ts fk fz tm) l := htl ▸ hl; have hj := join_gt (k := k) (v := z) (r := tr) (by rw [← htl]; exact hbn) (by rw [← htl]; omega); rw [← htl] at hj
      refine WL.r 2 rfl <| WL.call rfl rfl (tw_open (a := a) (A := A) (R := r :: R) (i := l) (k := fk) (z := fz) (l := ts) (r := tm) (hA := hA) (hi := hl2) (hz := (by simp only [List.length_cons]; omega)) (hS := hS)) rfl ?_
      clear hS; rintro _ w ⟨A1, x1, y1, rfl, hS, f1⟩
      replace hS := hS.n2 L (a0 := Arn a A1) rfl
      refine WL.r 4 rfl <| WL.new rfl rfl zv_121 hS (fun b2 w hS => ?_)
      refine WL.r 1 rfl <| WL.stF rfl rfl rfl 0 hS rfl rfl rfl rfl rfl ag_121 (fun w hS => ?_)
      replace hS := hS.n3 L (a0 := cel b2 #[.int .i64 fk, .int .i64 fz] 121) rfl
      refine WL.r 1 rfl <| WL.nil <| WC.seq <| WC.plan [([0, 1, 2, 3, 4, 5, 6], some (7, [0, 1, 2])), ([], some (8, [])), ([9], none)] (by kernel_rfl) (by kernel_rfl) ?_
      have hr1 := f1.rng; have hr2 := f1.kp r (by simp) tr hr; have hfr1 := f1.fr
      refine WQ.r 2 rfl <| WQ.ldF rfl rfl 0 hS rfl rfl ag_121 <| WQ.r 2 rfl <| WQ.ldF rfl rfl 2 hS rfl rfl ag_121 <| WQ.r 1 rfl <| WQ.nil ?_
      intro m1
      replace hS := hS.drewN m1; generalize hwm1 : World.drewN _ _ = w at *; clear hwm1
      refine WL.call rfl rfl (ih (tm.n + tr.n) (by omega) _ _ _ a A1 (x1 :: R) y1 r k z tm tr (f1.ref.r3.r3) (f1.ir) (hr2) ((by omega)) ((by simp only [List.length_cons]; omega)) rfl (hS.sel 2 [1, 0] rfl)) rfl ?_
      clear hS; rintro _ w ⟨A2, i1, rfl, hS, f2⟩
      replace hS := hS.n3 L (a0 := Arn a A2) rfl
      refine WL.nil ?_
      refine ⟨by exact ⟨RQ.pure rfl rfl rfl rfl, RQ.pure rfl rfl rfl rfl, RQ.ldF rfl rfl 1 hS rfl rfl ag_121 rfl rfl⟩, ?_⟩
      refine WQ.nil ?_
      intro m2
      replace hS := hS.drewN m2; generalize hwm2 : World.drewN _ _ = w at *; clear hwm2
      refine WL.call rfl rfl (tw_bal (a := a) (A := A2) (R := R) (l := x1) (r := i1) (k := fk) (z := fz) (tl := ts) (tr := Tr.join tm k z tr) (hA := f2.ref.sw) (hl := (f2.kp x1 (by simp) ts f1.il)) (hr := f2.is) (hf := (by have := f2.fr; omega)) (hz := (by rw [(Tr.join_n _ _ _ _).1]; omega)) (hS := hS)) rfl ?_
      clear hS; rintro _ w ⟨A3, i2, rfl, hS, f3⟩
      replace hS := hS.n3 L (a0 := Arn a A3) rfl
      refine WL.nil ?_
      refine ⟨by exact trivial, ?_⟩
      refine WQ.r 1 rfl <| WQ.nil ?_
      intro m3
      replace hS := hS.drewN m3; generalize hwm3 : World.drewN _ _ = w at *; clear hwm3
      as_aux_lemma =>
      refine WC.ret ?_
      refine ⟨[.int .u32 i2], rfl, ?_⟩
      replace hS := (hS.sel 3 [0] rfl)
      exact ⟨_, _, rfl, hS, by rw [hj.1, hj.2]; exact f3.after (f1.ch.trans f2.ch sb1 sb1) sb0 (by omega)⟩
    · refine WC.skip <| WC.seq <| WC.region ?_
      have hbn : ¬ Bal tl.n tr.n := (by unfold Bal; omega); obtain ⟨tm, fk, fz, ts, htr⟩ := not_nil (t := tr) (by omega); have htn : tr.n = tm.n + ts.n + 1 := (by rw [htr]; rfl); have hr2 : Is A (.node tm fk fz ts) r := htr ▸ hr; have hj := join_lt (k := k) (v := z) (l := tl) (by rw [← htr]; exact hbn) (by rw [← htr]; omega); rw [← htr] at hj
      refine WL.r 2 rfl <| WL.call rfl rfl (tw_open (a := a) (A := A) (R := l :: R) (i := r) (k := fk) (z := fz) (l := tm) (r := ts) (hA := hA.sw) (hi := hr2) (hz := (by simp only [List.length_cons]; omega)) (hS := hS)) rfl ?_
      clear hS; rintro _ w ⟨A1, x1, y1, rfl, hS, f1⟩
      replace hS := hS.n2 L (a0 := Arn a A1) rfl
      refine WL.r 4 rfl <| WL.new rfl rfl zv_121 hS (fun b2 w hS => ?_)
      refine WL.r 1 rfl <| WL.stF rfl rfl rfl 0 hS rfl rfl rfl rfl rfl ag_121 (fun w hS => ?_)
      replace hS := hS.n3 L (a0 := cel b2 #[.int .i64 fk, .int .i64 fz] 121) rfl
      refine WL.r 1 rfl <| WL.nil <| WC.seq <| WC.plan [([0, 1, 2, 3, 4, 6, 7], some (5, [0, 6, 7])), ([], some (8, [])), ([9], none)] (by kernel_rfl) (by kernel_rfl) ?_
      have hr1 := f1.rng; have hl2 := f1.kp l (by simp) tl hl; have hfr1 := f1.fr
      refine WQ.r 3 rfl <| WQ.ldF rfl rfl 2 hS rfl rfl ag_121 <| WQ.r 1 rfl <| WQ.ldF rfl rfl 0 hS rfl rfl ag_121 <| WQ.r 1 rfl <| WQ.nil ?_
      intro m1
      replace hS := hS.drewN m1; generalize hwm1 : World.drewN _ _ = w at *; clear hwm1
      refine WL.call rfl rfl (ih (tl.n + tm.n) (by omega) _ _ _ a A1 (y1 :: R) l x1 k z tl tm (f1.ref.r3) (hl2) (f1.il) ((by omega)) ((by simp only [List.length_cons]; omega)) rfl (hS.sel 2 [1, 0] rfl)) rfl ?_
      clear hS; rintro _ w ⟨A2, i1, rfl, hS, f2⟩
      replace hS := hS.n3 L (a0 := Arn a A2) rfl
      refine WL.nil ?_
      refine ⟨by exact ⟨RQ.pure rfl rfl rfl rfl, RQ.ldF rfl rfl 1 hS rfl rfl ag_121 rfl rfl, RQ.pure rfl rfl rfl rfl⟩, ?_⟩
      refine WQ.nil ?_
      intro m2
      replace hS := hS.drewN m2; generalize hwm2 : World.drewN _ _ = w at *; clear hwm2
      refine WL.call rfl rfl (tw_bal (a := a) (A := A2) (R := R) (l := i1) (r := y1) (k := fk) (z := fz) (tl := Tr.join tl k z tm) (tr := ts) (hA := f2.ref) (hl := f2.is) (hr := (f2.kp y1 (by simp) ts f1.ir)) (hf := (by have := f2.fr; omega)) (hz := (by rw [(Tr.join_n _ _ _ _).1]; omega)) (hS := hS)) rfl ?_
      clear hS; rintro _ w ⟨A3, i2, rfl, hS, f3⟩
      replace hS := hS.n3 L (a0 := Arn a A3) rfl
      refine WL.nil ?_
      refine ⟨by exact trivial, ?_⟩
      refine WQ.r 1 rfl <| WQ.nil ?_
      intro m3
      replace hS := hS.drewN m3; generalize hwm3 : World.drewN _ _ = w at *; clear hwm3
      as_aux_lemma =>
      refine WC.ret ?_
      refine ⟨[.int .u32 i2], rfl, ?_⟩
      replace hS := (hS.sel 3 [0] rfl)
      exact ⟨_, _, rfl, hS, by rw [hj.1, hj.2]; exact f3.after (f1.ch.trans f2.ch sb1 sb1) sb0 (by omega)⟩
theorem tw_join_all (nM : Nat) : ∀ (g w : World) (L : List HP) (a : Nat) (A : AM) (R : List Int) (l r k z : Int) (tl tr : Tr), (ARf A (l :: r :: R)) → (Is A tl l) → (Is A tr r) → ((Tr.jc tl tr : Int) ≤ A.s.free) → (R.length + tl.n + tr.n ≤ 700000000) → tl.n + tr.n = nM → St g (Arn a A :: L) w → Sp Tryz.prog 175 [.pointer (some ⟨a, 0, none⟩), .int .u32 l, .agg #[.int .i64 k, .int .i64 z], .int .u32 r] w (fun v w' => ∃ (A2 : AM) (i : Int), v = .int .u32 i ∧ St g (Arn a A2 :: L) w' ∧ (TOp A A2 R i (Tr.join tl k z tr) (Tr.jc tl tr))) := by
  induction nM using Nat.strongRecOn with
  | _ nM ih => intro g w L a A R l r k z tl tr hA hl hr hf hz hM hS; exact tw_join_step nM ih a A R l r k z tl tr hA hl hr hf hz hM hS
theorem tw_join {g w : World} {L : List HP} (a : Nat) (A : AM) (R : List Int) (l r k z : Int) (tl tr : Tr) (hA : ARf A (l :: r :: R)) (hl : Is A tl l) (hr : Is A tr r) (hf : (Tr.jc tl tr : Int) ≤ A.s.free) (hz : R.length + tl.n + tr.n ≤ 700000000) (hS : St g (Arn a A :: L) w) :
    Sp Tryz.prog 175 [.pointer (some ⟨a, 0, none⟩), .int .u32 l, .agg #[.int .i64 k, .int .i64 z], .int .u32 r] w (fun v w' => ∃ (A2 : AM) (i : Int), v = .int .u32 i ∧ St g (Arn a A2 :: L) w' ∧ (TOp A A2 R i (Tr.join tl k z tr) (Tr.jc tl tr))) := tw_join_all _ g w L a A R l r k z tl tr hA hl hr hf hz rfl hS
end Go.Proofs.YtbeacjcmdijdmaaGreat
/-! ## W4 -/
namespace Go.Proofs.YtbeacjcmdijdmaaGreat
open Go Go.V
theorem nil_or {t : Tr} (h : t ≠ .nil) : ∃ l k v r, t = .node l k v r := by
  cases t with
  | nil => exact absurd rfl h
  | node l k v r => exact ⟨l, k, v, r, rfl⟩
set_option maxHeartbeats 1000000 in
set_option maxRecDepth 8192 in
theorem tw_ins_step (nM : Nat) (ih : ∀ mM : Nat, mM < nM → ∀ (g w : World) (L : List HP) (a : Nat) (A : AM) (R : List Int) (i k z : Int) (t : Tr), (ARf A (i :: R)) → (Is A t i) → ((Tr.ic k z t : Int) ≤ A.s.free) → (R.length + t.n ≤ 600000000) → t.n = mM → St g (Arn a A :: L) w → Sp Tryz.prog 105 [.pointer (some ⟨a, 0, none⟩), .int .u32 i, .agg #[.int .i64 k, .int .i64 z]] w (fun v w' => ∃ (A2 : AM) (j : Int), v = .int .u32 j ∧ St g (Arn a A2 :: L) w' ∧ (TOp A A2 R j (Tr.ins k z t) (Tr.ic k z t)))) {g w : World} {L : List HP} (a : Nat) (A : AM) (R : List Int) (i k z : Int) (t : Tr) (hA : ARf A (i :: R)) (hi : Is A t i) (hf : (Tr.ic k z t : Int) ≤ A.s.free) (hz : R.length + t.n ≤ 600000000) (hM : t.n = nM) (hS : St g (Arn a A :: L) w) :
    Sp Tryz.prog 105 [.pointer (some ⟨a, 0, none⟩), .int .u32 i, .agg #[.int .i64 k, .int .i64 z]] w (fun v w' => ∃ (A2 : AM) (j : Int), v = .int .u32 j ∧ St g (Arn a A2 :: L) w' ∧ (TOp A A2 R j (Tr.ins k z t) (Tr.ic k z t))) := by
  refine Sp.enter Tryz.func105 rfl (by kernel_rfl) (by kernel_rfl) ?_
  have _ := hz
  have _ := hf
  refine WC.seq <| WC.region <| WL.box rfl rfl #[.int .i64 k, .int .i64 z] hS rfl rfl (fun b1 w hS => ?_)
  refine WL.r 1 rfl <| WL.nil <| WC.seq <| WC.seq <| WC.region ?_
  have hx0 := Is.nil_iff hi
  refine WL.r 2 rfl <| WL.nil <| WC.ifP rfl (fun hx => ?_) (fun hx => ?_)
  · refine WC.seq <| WC.region ?_
    have h9 := hx0.1 hx; subst h9; have hA0 : ARf A (0 :: 0 :: R) := (by rw [hx] at hA; exact hA.cons0 (by simp; omega)); have hf1 : Tr.ic k z .nil = 1 := rfl
    refine WL.r 1 rfl <| WL.ldF rfl rfl 0 hS rfl rfl ag_121 <| WL.call rfl rfl (tw_node (a := a) (A := A) (R := R) (l := 0) (r := 0) (k := k) (z := z) (tl := .nil) (tr := .nil) (hA := hA0) (hl := rfl) (hr := rfl) (hf := (by omega)) (hz := (by simp only [Tr.n]; omega)) (hS := (hS.sel 2 [1, 0] rfl))) rfl ?_
    clear hS; rintro _ w ⟨A1, i1, rfl, hS, f1⟩
    replace hS : St g (Arn a A1 :: cel b1 #[.int .i64 k, .int .i64 z] 121 :: L) w := hS
    refine WL.r 1 rfl <| WL.nil <| WC.ret ?_
    refine ⟨[.int .u32 i1], rfl, ?_⟩
    replace hS := (hS.sel 2 [0] rfl)
    exact ⟨_, _, rfl, hS, f1⟩
  · refine WC.skip <| WC.seq <| WC.region ?_
    obtain ⟨tl, fk, fz, tr, ht⟩ := nil_or (t := t) (fun e => hx (hx0.2 e)); have htn : t.n = tl.n + tr.n + 1 := (by rw [ht]; rfl); have hi2 : Is A (.node tl fk fz tr) i := ht ▸ hi
    refine WL.r 2 rfl <| WL.call rfl rfl (tw_open (a := a) (A := A) (R := R) (i := i) (k := fk) (z := fz) (l := tl) (r := tr) (hA := hA) (hi := hi2) (hz := (by omega)) (hS := (hS.sel 2 [1, 0] rfl))) rfl ?_
    clear hS; rintro _ w ⟨A1, x1, y1, rfl, hS, f1⟩
    replace hS : St g (Arn a A1 :: cel b1 #[.int .i64 k, .int .i64 z] 121 :: L) w := hS
    refine WL.r 4 rfl <| WL.new rfl rfl zv_121 hS (fun b2 w hS => ?_)
    refine WL.r 1 rfl <| WL.stF rfl rfl rfl 0 hS rfl rfl rfl rfl rfl ag_121 (fun w hS => ?_)
    replace hS := hS.n3 L (a0 := cel b2 #[.int .i64 fk, .int .i64 fz] 121) rfl
    refine WL.r 1 rfl <| WL.nil ?_
    as_aux_lemma =>
    refine WC.seq <| WC.block <| WC.seq <| WC.region ?_
    have hr1 := f1.rng; have hfr1 := f1.fr
    refine WL.run 6 [.int .i64 k, .int .i64 fk] rfl (by exact ⟨hS.ld 2 rfl rfl, hS.ld 0 rfl rfl⟩) ?_
    refine WL.nil <| WC.ifP rfl (fun hlt => ?_) (fun hlt => ?_)
    · refine WC.seq <| WC.plan [([0, 1, 2, 3, 5, 6], some (4, [0, 5, 6])), ([], some (7, [])), ([8], none)] (by kernel_rfl) (by kernel_rfl) ?_
      have hie : Tr.ic k z t = Tr.ic k z tl + Tr.jc (Tr.ins k z tl) tr := (by rw [ht, Tr.ic, if_pos hlt]); have hne : Tr.ins k z t = Tr.join (Tr.ins k z tl) fk fz tr := (by rw [ht, Tr.ins, if_pos hlt]); have hin := Tr.ins_n k z tl
      refine WQ.r 3 rfl <| WQ.ldF rfl rfl 2 hS rfl rfl ag_121 <| WQ.ldF rfl rfl 0 hS rfl rfl ag_121 <| WQ.r 1 rfl <| WQ.nil ?_
      intro m1
      replace hS := hS.drewN m1; generalize hwm1 : World.drewN _ _ = w at *; clear hwm1
      refine WL.call rfl rfl (ih (tl.n) (by omega) _ _ _ a A1 (y1 :: R) x1 k z tl (f1.ref) (f1.il) ((by omega)) ((by simp only [List.length_cons]; omega)) rfl (hS.sel 2 [1, 0] rfl)) rfl ?_
      clear hS; rintro _ w ⟨A2, j1, rfl, hS, f2⟩
      replace hS := hS.n3 L (a0 := Arn a A2) rfl
      refine WL.nil ?_
      refine ⟨by exact ⟨RQ.pure rfl rfl rfl rfl, RQ.ldF rfl rfl 1 hS rfl rfl ag_121 rfl rfl, RQ.pure rfl rfl rfl rfl⟩, ?_⟩
      refine WQ.nil ?_
      intro m2
      replace hS := hS.drewN m2; generalize hwm2 : World.drewN _ _ = w at *; clear hwm2
      refine WL.call rfl rfl (tw_join (a := a) (A := A2) (R := R) (l := j1) (r := y1) (k := fk) (z := fz) (tl := Tr.ins k z tl) (tr := tr) (hA := f2.ref) (hl := f2.is) (hr := (f2.kp y1 (by simp) tr f1.ir)) (hf := (by have := f2.fr; omega)) (hz := (by split at hin <;> omega)) (hS := hS)) rfl ?_
      clear hS; rintro _ w ⟨A3, i1, rfl, hS, f3⟩
      replace hS := hS.n3 L (a0 := Arn a A3) rfl
      refine WL.nil ?_
      refine ⟨by exact trivial, ?_⟩
      refine WQ.r 1 rfl <| WQ.nil ?_
      intro m3
      replace hS := hS.drewN m3; generalize hwm3 : World.drewN _ _ = w at *; clear hwm3
      as_aux_lemma =>
      refine WC.ret ?_
      refine ⟨[.int .u32 i1], rfl, ?_⟩
      replace hS := (hS.sel 3 [0] rfl)
      exact ⟨_, _, rfl, hS, by rw [hne, hie]; exact f3.after (f1.ch.trans f2.ch sb0 sb1) sb0 (by omega)⟩
    · refine WC.seq <| WC.region <| WL.run 6 [.int .i64 k, .int .i64 fk] rfl (by exact ⟨hS.ld 2 rfl rfl, hS.ld 0 rfl rfl⟩) ?_
      refine WL.nil <| WC.ifP rfl (fun hgt => ?_) (fun hgt => ?_)
      · refine WC.seq <| WC.plan [([0, 1, 2, 3, 4, 5], some (6, [0, 1, 2])), ([], some (7, [])), ([8], none)] (by kernel_rfl) (by kernel_rfl) ?_
        have hie : Tr.ic k z t = Tr.ic k z tr + Tr.jc tl (Tr.ins k z tr) := (by rw [ht, Tr.ic, if_neg hlt, if_pos hgt]); have hne : Tr.ins k z t = Tr.join tl fk fz (Tr.ins k z tr) := (by rw [ht, Tr.ins, if_neg hlt, if_pos hgt]); have hin := Tr.ins_n k z tr
        refine WQ.r 2 rfl <| WQ.ldF rfl rfl 0 hS rfl rfl ag_121 <| WQ.r 2 rfl <| WQ.ldF rfl rfl 2 hS rfl rfl ag_121 <| WQ.nil ?_
        intro m1
        replace hS := hS.drewN m1; generalize hwm1 : World.drewN _ _ = w at *; clear hwm1
        refine WL.call rfl rfl (ih (tr.n) (by omega) _ _ _ a A1 (x1 :: R) y1 k z tr (f1.swap) (f1.ir) ((by omega)) ((by simp only [List.length_cons]; omega)) rfl (hS.sel 2 [1, 0] rfl)) rfl ?_
        clear hS; rintro _ w ⟨A2, j1, rfl, hS, f2⟩
        replace hS := hS.n3 L (a0 := Arn a A2) rfl
        refine WL.nil ?_
        refine ⟨by exact ⟨RQ.pure rfl rfl rfl rfl, RQ.pure rfl rfl rfl rfl, RQ.ldF rfl rfl 1 hS rfl rfl ag_121 rfl rfl⟩, ?_⟩
        refine WQ.nil ?_
        intro m2
        replace hS := hS.drewN m2; generalize hwm2 : World.drewN _ _ = w at *; clear hwm2
        refine WL.call rfl rfl (tw_join (a := a) (A := A2) (R := R) (l := x1) (r := j1) (k := fk) (z := fz) (tl := tl) (tr := Tr.ins k z tr) (hA := f2.ref.sw) (hl := (f2.kp x1 (by simp) tl f1.il)) (hr := f2.is) (hf := (by have := f2.fr; omega)) (hz := (by split at hin <;> omega)) (hS := hS)) rfl ?_
        clear hS; rintro _ w ⟨A3, i1, rfl, hS, f3⟩
        replace hS := hS.n3 L (a0 := Arn a A3) rfl
        refine WL.nil ?_
        refine ⟨by exact trivial, ?_⟩
        refine WQ.r 1 rfl <| WQ.nil ?_
        intro m3
        replace hS := hS.drewN m3; generalize hwm3 : World.drewN _ _ = w at *; clear hwm3
        as_aux_lemma =>
        refine WC.ret ?_
        refine ⟨[.int .u32 i1], rfl, ?_⟩
        replace hS := (hS.sel 3 [0] rfl)
        exact ⟨_, _, rfl, hS, by rw [hne, hie]; exact f3.after (f1.ch.trans f2.ch sb0 sb1) sb0 (by omega)⟩
      · refine WC.skip <| WC.seq <| WC.region ?_
        have hie : Tr.ic k z t = 1 := (by rw [ht, Tr.ic, if_neg hlt, if_neg hgt]); have hne : Tr.ins k z t = .node tl k z tr := (by rw [ht, Tr.ins, if_neg hlt, if_neg hgt])
        refine WL.r 2 rfl <| WL.ldF rfl rfl 2 hS rfl rfl ag_121 <| WL.r 1 rfl <| WL.call rfl rfl (tw_node (a := a) (A := A1) (R := R) (l := x1) (r := y1) (k := k) (z := z) (tl := tl) (tr := tr) (hA := f1.ref) (hl := f1.il) (hr := f1.ir) (hf := (by omega)) (hz := (by omega)) (hS := (hS.sel 2 [1, 0] rfl))) rfl ?_
        clear hS; rintro _ w ⟨A2, i1, rfl, hS, f2⟩
        replace hS := hS.n3 L (a0 := Arn a A2) rfl
        refine WL.r 1 rfl <| WL.nil ?_
        as_aux_lemma =>
        refine WC.ret ?_
        refine ⟨[.int .u32 i1], rfl, ?_⟩
        replace hS := (hS.sel 3 [0] rfl)
        exact ⟨_, _, rfl, hS, by rw [hne, hie]; exact f2.after f1.ch sb0 (by omega)⟩
theorem tw_ins_all (nM : Nat) : ∀ (g w : World) (L : List HP) (a : Nat) (A : AM) (R : List Int) (i k z : Int) (t : Tr), (ARf A (i :: R)) → (Is A t i) → ((Tr.ic k z t : Int) ≤ A.s.free) → (R.length + t.n ≤ 600000000) → t.n = nM → St g (Arn a A :: L) w → Sp Tryz.prog 105 [.pointer (some ⟨a, 0, none⟩), .int .u32 i, .agg #[.int .i64 k, .int .i64 z]] w (fun v w' => ∃ (A2 : AM) (j : Int), v = .int .u32 j ∧ St g (Arn a A2 :: L) w' ∧ (TOp A A2 R j (Tr.ins k z t) (Tr.ic k z t))) := by
  induction nM using Nat.strongRecOn with
  | _ nM ih => intro g w L a A R i k z t hA hi hf hz hM hS; exact tw_ins_step nM ih a A R i k z t hA hi hf hz hM hS
theorem tw_ins {g w : World} {L : List HP} (a : Nat) (A : AM) (R : List Int) (i k z : Int) (t : Tr) (hA : ARf A (i :: R)) (hi : Is A t i) (hf : (Tr.ic k z t : Int) ≤ A.s.free) (hz : R.length + t.n ≤ 600000000) (hS : St g (Arn a A :: L) w) :
    Sp Tryz.prog 105 [.pointer (some ⟨a, 0, none⟩), .int .u32 i, .agg #[.int .i64 k, .int .i64 z]] w (fun v w' => ∃ (A2 : AM) (j : Int), v = .int .u32 j ∧ St g (Arn a A2 :: L) w' ∧ (TOp A A2 R j (Tr.ins k z t) (Tr.ic k z t))) := tw_ins_all _ g w L a A R i k z t hA hi hf hz rfl hS
set_option maxRecDepth 8192 in
theorem tw_hold {g w : World} {L : List HP} (a : Nat) (A : AM) (R : List Int) (i : Int) (hA : ARf A R) (hi : i = 0 ∨ (1 ≤ i ∧ A.s.ok i = true)) (hz : R.length ≤ 900000000) (hS : St g (Arn a A :: L) w) :
    Sp Tryz.prog 104 [.pointer (some ⟨a, 0, none⟩), .int .u32 i] w (fun v w' => v = .int .u32 i ∧ St g (Arn a (A.ret i) :: L) w' ∧ (ARf (A.ret i) (i :: R))) := by
  refine Sp.enter Tryz.func104 rfl (by kernel_rfl) (by kernel_rfl) ?_
  have _ := hz
  refine WC.seq <| WC.region <| WL.r 1 rfl <| WL.nil <| WC.seq <| WC.region ?_
  have hri := hA.okrng hi
  refine WL.r 2 rfl <| WL.call rfl rfl (ar_retain (a := a) (A := A) (i := i) (hA := hA.toAWf) (hi := (by omega)) (hS := hS)) rfl ?_
  clear hS; rintro _ w ⟨rfl, hS⟩
  replace hS : St g (Arn a (A.ret i) :: L) w := hS
  refine WL.nil <| WC.seq <| WC.region <| WL.r 2 rfl <| WL.nil <| WC.ret ?_
  refine ⟨[.int .u32 i], rfl, ?_⟩
  exact ⟨rfl, hS, (AM.ret_eq hA hi (by omega)).1⟩
set_option maxRecDepth 8192 in
theorem tw_room {g w : World} {L : List HP} (a : Nat) (A : AM) (n : Int) (hA : AWf A) (hS : St g (Arn a A :: L) w) :
    Sp Tryz.prog 101 [.pointer (some ⟨a, 0, none⟩), .int .i64 n] w (fun v w' => v = .bool (decide (0 ≤ n ∧ n ≤ A.s.free)) ∧ St g (Arn a A :: L) w') := by
  refine Sp.enter Tryz.func101 rfl (by kernel_rfl) (by kernel_rfl) ?_
  refine WC.seq <| WC.region <| WL.r 1 rfl <| WL.nil <| WC.seq <| WC.region <| WL.r 3 rfl ?_
  by_cases cg1 : 0 ≤ n
  · refine WL.reb 7 (.bool true) (congrArg Value.bool (decide_eq_true cg1)) <| WL.ung rfl rfl rfl <| WL.r 1 rfl <| WL.ung rfl rfl rfl <| WL.call rfl rfl (ar_free (a := a) (A := A) (hA := hA) (hS := hS)) rfl ?_
    clear hS; rintro _ w ⟨rfl, hS⟩
    replace hS := hS.n1 L rfl
    refine WL.ung rfl rfl rfl <| WL.r 1 rfl <| WL.ung rfl rfl rfl <| WL.r 3 rfl <| WL.nil <| WC.ret ?_
    refine ⟨[.bool (decide (n ≤ A.s.free))], rfl, ?_⟩
    first | exact ⟨congrArg Value.bool (dec_congr (by omega)), hS⟩ | exact ⟨congrArg Value.bool (decide_eq_false (by omega)).symm, hS⟩
  · refine WL.reb 7 (.bool false) (congrArg Value.bool (decide_eq_false cg1)) <| WL.skp rfl rfl rfl rfl <| WL.skp rfl rfl rfl rfl <| WL.skp rfl rfl rfl rfl <| WL.skp rfl rfl rfl rfl <| WL.r 2 rfl <| WL.nil <| WC.ret ?_
    refine ⟨[.bool false], rfl, ?_⟩
    first | exact ⟨congrArg Value.bool (dec_congr (by omega)), hS⟩ | exact ⟨congrArg Value.bool (decide_eq_false (by omega)).symm, hS⟩
end Go.Proofs.YtbeacjcmdijdmaaGreat
/-! ## Bl -/
namespace Go.V
open Go Go.RowKit
def Tr.bldN : Nat → Kvs → Tr
  | 0, _ => .nil
  | f + 1, l => match l[l.length / 2]? with
    | none => .nil
    | some e => .node (Tr.bldN f (l.take (l.length / 2))) e.1 e.2 (Tr.bldN f (l.drop (l.length / 2 + 1)))
theorem Tr.bldN_eq : ∀ (f g : Nat) (l : Kvs), l.length ≤ f → l.length ≤ g → Tr.bldN f l = Tr.bldN g l
  | 0, 0, _, _, _ => rfl
  | 0, g + 1, l, h, _ => by
    have : l = [] := List.eq_nil_of_length_eq_zero (by omega)
    subst this; rfl
  | f + 1, 0, l, _, h => by
    have : l = [] := List.eq_nil_of_length_eq_zero (by omega)
    subst this; rfl
  | f + 1, g + 1, l, h, k => by
    unfold Tr.bldN
    cases hm : l[l.length / 2]? with
    | none => rfl
    | some e =>
      have hlt := (List.getElem?_eq_some_iff.1 hm).1
      simp only
      rw [Tr.bldN_eq f g (l.take (l.length / 2)) (by rw [List.length_take]; omega) (by rw [List.length_take]; omega), Tr.bldN_eq f g (l.drop (l.length / 2 + 1)) (by rw [List.length_drop]; omega) (by rw [List.length_drop]; omega)]
def Tr.bld (l : Kvs) : Tr := Tr.bldN l.length l
theorem Tr.bld_go {l : Kvs} {e : Int × Int} (h : l[l.length / 2]? = some e) : Tr.bld l = .node (Tr.bld (l.take (l.length / 2))) e.1 e.2 (Tr.bld (l.drop (l.length / 2 + 1))) := by
  have hlt := (List.getElem?_eq_some_iff.1 h).1
  unfold Tr.bld
  rw [Tr.bldN_eq l.length (l.length + 1) l (Nat.le_refl _) (Nat.le_succ _)]
  conv => lhs; unfold Tr.bldN
  rw [h]
  simp only
  rw [Tr.bldN_eq l.length (l.take (l.length / 2)).length _ (by rw [List.length_take]; omega) (Nat.le_refl _), Tr.bldN_eq l.length (l.drop (l.length / 2 + 1)).length _ (by rw [List.length_drop]; omega) (Nat.le_refl _)]
theorem Tr.bld_ls : ∀ (n : Nat) (l : Kvs), l.length ≤ n → (Tr.bld l).ls = l
  | 0, l, h => by
    have : l = [] := List.eq_nil_of_length_eq_zero (by omega)
    subst this; rfl
  | n + 1, l, h => by
    cases hm : l[l.length / 2]? with
    | none =>
      have : l = [] := List.eq_nil_of_length_eq_zero (by have := List.getElem?_eq_none_iff.1 hm; omega)
      subst this; rfl
    | some e =>
      have hlt := (List.getElem?_eq_some_iff.1 hm).1
      rw [Tr.bld_go hm]
      show (Tr.bld _).ls ++ (e.1, e.2) :: (Tr.bld _).ls = l
      rw [Tr.bld_ls n _ (by rw [List.length_take]; omega), Tr.bld_ls n _ (by rw [List.length_drop]; omega)]
      have he : l[l.length / 2] = e := (List.getElem?_eq_some_iff.1 hm).2
      conv => rhs; rw [← List.take_append_drop (l.length / 2) l, List.drop_eq_getElem_cons hlt, he]
theorem Tr.bld_n (l : Kvs) : (Tr.bld l).n = l.length := by rw [← Tr.ls_len, Tr.bld_ls _ l (Nat.le_refl _)]
theorem Tr.bld_ok : ∀ (n : Nat) (l : Kvs), l.length ≤ n → (Tr.bld l).ok
  | 0, l, h => by
    have : l = [] := List.eq_nil_of_length_eq_zero (by omega)
    subst this; trivial
  | n + 1, l, h => by
    cases hm : l[l.length / 2]? with
    | none =>
      have : l = [] := List.eq_nil_of_length_eq_zero (by have := List.getElem?_eq_none_iff.1 hm; omega)
      subst this; trivial
    | some e =>
      have hlt := (List.getElem?_eq_some_iff.1 hm).1
      rw [Tr.bld_go hm]
      refine ⟨?_, Tr.bld_ok n _ (by rw [List.length_take]; omega), Tr.bld_ok n _ (by rw [List.length_drop]; omega)⟩
      rw [Tr.bld_n, Tr.bld_n, List.length_take, List.length_drop]
      unfold Bal; omega
theorem srt_at {l : Kvs} (h : Srt l) {i j : Nat} {x y : Int × Int} (hx : l[i]? = some x) (hy : l[j]? = some y) (hij : i < j) : x.1 < y.1 := by
  obtain ⟨hi, rfl⟩ := List.getElem?_eq_some_iff.1 hx
  obtain ⟨hj, rfl⟩ := List.getElem?_eq_some_iff.1 hy
  exact List.pairwise_iff_getElem.1 h i j hi hj hij
theorem used_le {A : AM} {R : List Int} (h : ARf A R) (T : Int → Tr) (hT : ∀ r ∈ R, Is A (T r) r) : A.s.cap - A.s.free ≤ ((R.map fun r => (T r).n).foldr (· + ·) 0 : Nat) := by
  have h1 := AM.cnt_live h.s
  have hsub : ∀ j ∈ A.live, j ∈ R.flatMap fun r => ixs A (T r) r := fun j hj => by
    obtain ⟨h0, h2⟩ := (A.mem_live j).1 hj
    have h3 := (SM.ok_rng h.s h0 h2).1
    refine reach h (fun j => j ∈ R.flatMap fun r => ixs A (T r) r) (fun x hx hne => List.mem_flatMap.2 ⟨x, hx, ixs_root (hT x hx) hne⟩) (fun j _ _ hj c hc hne => ?_) j h3 h2
    obtain ⟨r, hr, hj⟩ := List.mem_flatMap.1 hj
    exact List.mem_flatMap.2 ⟨r, hr, ixs_kid (T r) r (hT r hr) j hj c hc hne⟩
  have h4 := nd_le A.live_nodup hsub
  have h5 : ∀ (l : List Int), (∀ r ∈ l, Is A (T r) r) → (l.flatMap fun r => ixs A (T r) r).length = (l.map fun r => (T r).n).foldr (· + ·) 0 := by
    intro l
    induction l with
    | nil => intro _; rfl
    | cons r l ih => intro hl; rw [List.flatMap_cons, List.length_append, ixs_len A (hl r (by simp)), ih (fun x hx => hl x (by simp [hx]))]; rfl
  rw [h5 R hT] at h4
  omega
end Go.V
/-! ## Bk -/
namespace Go.Proofs.YtbeacjcmdijdmaaGreat
open Go Go.V Go.RowKit
theorem TOp.after0 {A B C : AM} {R : List Int} {x i : Int} {t u : Tr} {c d : Nat} (h : TOp A B R x t c) (k : TOp B C (x :: R) i u d) : ARf C (i :: x :: R) ∧ Is C t x := ⟨k.ref, k.kp x (by simp) t h.is⟩
set_option maxRecDepth 8192 in
theorem bk_bld_step (nM : Nat) (ih : ∀ mM : Nat, mM < nM → ∀ (g w : World) (L : List HP) (a : Nat) (A : AM) (R : List Int) (l : Kvs) (u : Option Addr) (d : Nat), (ARf A R) → ((l.length : Int) ≤ A.s.free) → (l.length ≤ 65536) → (R.length + l.length ≤ 500000000) → l.length = mM → St g (Arn a A :: Sh 121 2 (en2 l) u d :: L) w → Sp Tryz.prog 132 [.pointer (some ⟨a, 0, none⟩), .slice u (List.length (en2 l)) d] w (fun v w' => ∃ (A2 : AM) (i : Int), v = .int .u32 i ∧ St g (Arn a A2 :: Sh 121 2 (en2 l) u d :: L) w' ∧ (TOp A A2 R i (Tr.bld l) l.length))) {g w : World} {L : List HP} (a : Nat) (A : AM) (R : List Int) (l : Kvs) (u : Option Addr) (d : Nat) (hA : ARf A R) (hf : (l.length : Int) ≤ A.s.free) (hl : l.length ≤ 65536) (hz : R.length + l.length ≤ 500000000) (hM : l.length = nM) (hS : St g (Arn a A :: Sh 121 2 (en2 l) u d :: L) w) :
    Sp Tryz.prog 132 [.pointer (some ⟨a, 0, none⟩), .slice u (List.length (en2 l)) d] w (fun v w' => ∃ (A2 : AM) (i : Int), v = .int .u32 i ∧ St g (Arn a A2 :: Sh 121 2 (en2 l) u d :: L) w' ∧ (TOp A A2 R i (Tr.bld l) l.length)) := by
  refine Sp.enter Tryz.func132 rfl (by kernel_rfl) (by kernel_rfl) ?_
  have _ := hz
  have _ := hl
  have _ := hf
  refine WC.seq <| WC.region <| WL.r 1 rfl <| WL.nil <| WC.seq <| WC.seq <| WC.region ?_
  have hll := en2_len l
  refine WL.r 3 rfl <| WL.nil <| WC.ifP rfl (fun h0 => ?_) (fun h0 => ?_)
  · refine WC.seq <| WC.region <| WL.r 1 rfl <| WL.nil <| WC.ret ?_
    refine ⟨[.int .u32 0], rfl, ?_⟩
    have e9 : l = [] := List.eq_nil_of_length_eq_zero (by omega); subst e9; exact ⟨A, 0, rfl, hS, hA.cons0 (by omega), rfl, Kp.refl _ _, by omega, rfl⟩
  · refine WC.skip <| WC.seq <| WC.region ?_
    have hm0 : 1 ≤ l.length := by omega
    refine WL.r 3 rfl <| WL.reb 12 (.int .i64 ((List.length (en2 l) : Int) / 2)) (congrArg (Value.int .i64) (quo_i64 (p := (List.length (en2 l) : Int)) (q := 2) (by omega))) ?_
    refine WL.r 1 rfl <| WL.nil <| WC.seq <| WC.region ?_
    obtain ⟨e, he⟩ : ∃ e, l[l.length / 2]? = some e := ⟨_, List.getElem?_eq_getElem (by omega)⟩; have hml : (l.take (l.length / 2)).length = l.length / 2 := (by rw [List.length_take]; omega); have hmr : (l.drop (l.length / 2 + 1)).length = l.length - (l.length / 2 + 1) := List.length_drop
    refine WL.r 3 rfl <| WL.slHi rfl rfl (v := (List.length (en2 l) : Int) / 2) 1 (l.length / 2) (en2 (l.take (l.length / 2))) el_49 hS rfl rfl rfl (by omega) (by omega) (en2_take _ _) (fun a1 hS => ?_)
    replace hS := hS.n3 L (a0 := Sh 121 2 (en2 (l.take ((List.length l) / 2))) a1 d) rfl
    refine WL.call rfl rfl (ih (List.length (l.take ((List.length l) / 2))) (by omega) _ _ _ a A _ (l.take ((List.length l) / 2)) a1 d (hA) ((by omega)) ((by omega)) ((by omega)) rfl (hS.sel 2 [1, 0] rfl)) rfl ?_
    clear hS; rintro _ w ⟨A1, i1, rfl, hS, f1⟩
    replace hS := hS.n3 L (a0 := Arn a A1) rfl
    refine WL.r 1 rfl <| WL.nil ?_
    as_aux_lemma =>
    refine WC.seq <| WC.plan [([0, 1, 2, 3, 6, 7, 8, 4, 9, 5, 10], some (11, [0, 1, 2, 3, 4, 5])), ([], some (12, [])), ([13], none)] (by kernel_rfl) (by kernel_rfl) ?_
    refine WQ.r 7 rfl <| WQ.ix rfl rfl (i := (List.length (en2 l) : Int) / 2) (l.length / 2) el_49 rfl rfl (by omega) (by omega) (hS.rdS 2 rfl (en2_at he)).1 ?_
    refine WQ.r 1 rfl <| WQ.nw 27 rfl (w64 (by omega)) ?_
    refine WQ.ldC rfl rfl [.int .i64 e.1, .int .i64 e.2] ag_121 rfl (hS.rdS 2 rfl (en2_at he)).2 <| WQ.slLo rfl rfl (v := ((List.length (en2 l) : Int) / 2) + 1) 2 (l.length / 2 + 1) (en2 (l.drop (l.length / 2 + 1))) el_49 hS rfl rfl rfl (by omega) (by omega) (en2_drop _ _) (fun a2 qa2 hS => ?_)
    replace hS := hS.n4 L (a0 := Sh 121 2 (en2 (l.drop ((List.length l) / 2 + 1))) a2 (d - ((List.length l) / 2 + 1))) rfl
    refine WQ.nil ?_
    intro m1
    replace hS := hS.drewN m1; generalize hwm1 : World.drewN _ _ = w at *; clear hwm1
    refine WL.call rfl rfl (ih (List.length (l.drop ((List.length l) / 2 + 1))) (by omega) _ _ _ a A1 (i1 :: R) (l.drop ((List.length l) / 2 + 1)) a2 (d - ((List.length l) / 2 + 1)) (f1.ref) ((by have := f1.fr; omega)) ((by omega)) ((by simp only [List.length_cons]; omega)) rfl (hS.sel 2 [1, 0] rfl)) rfl ?_
    clear hS; rintro _ w ⟨A2, i2, rfl, hS, f2⟩
    replace hS := hS.n4 L (a0 := Arn a A2) rfl
    refine WL.nil ?_
    refine ⟨by exact ⟨RQ.pure rfl rfl rfl rfl, RQ.pure rfl rfl rfl rfl, RQ.pure rfl rfl rfl rfl, RQ.pure rfl rfl rfl rfl, RQ.ix rfl rfl (i := (List.length (en2 l) : Int) / 2) (l.length / 2) el_49 rfl rfl (by omega) (by omega) (hS.rdS 3 rfl (en2_at he)).1 rfl rfl, RQ.ldC rfl rfl [.int .i64 e.1, .int .i64 e.2] ag_121 rfl (hS.rdS 3 rfl (en2_at he)).2 rfl rfl⟩, ?_⟩
    refine WQ.nil ?_
    intro m2
    replace hS := hS.drewN m2; generalize hwm2 : World.drewN _ _ = w at *; clear hwm2
    refine WL.call rfl rfl (tw_node (a := a) (A := A2) (R := R) (l := i1) (r := i2) (k := e.1) (z := e.2) (tl := Tr.bld (l.take ((List.length l) / 2))) (tr := Tr.bld (l.drop ((List.length l) / 2 + 1))) (hA := f2.ref.sw) (hl := (TOp.after0 f1 f2).2) (hr := f2.is) (hf := (by have := f1.fr; have := f2.fr; omega)) (hz := (by rw [Tr.bld_n, Tr.bld_n]; omega)) (hS := hS)) rfl ?_
    clear hS; rintro _ w ⟨A3, i3, rfl, hS, f3⟩
    replace hS := hS.n4 L (a0 := Arn a A3) rfl
    refine WL.nil ?_
    refine ⟨by exact trivial, ?_⟩
    refine WQ.r 1 rfl <| WQ.nil ?_
    intro m3
    replace hS := hS.drewN m3; generalize hwm3 : World.drewN _ _ = w at *; clear hwm3
    as_aux_lemma =>
    refine WC.ret ?_
    refine ⟨[.int .u32 i3], rfl, ?_⟩
    replace hS := (hS.sel 3 [0] rfl)
    exact ⟨_, _, rfl, hS, by rw [Tr.bld_go he]; exact ⟨f3.ref, f3.is, (f1.kp.trans f2.kp.cons).trans f3.kp, by have := f1.fr; have := f2.fr; have := f3.fr; omega, f3.cap.trans (f2.cap.trans f1.cap)⟩⟩
theorem bk_bld_all (nM : Nat) : ∀ (g w : World) (L : List HP) (a : Nat) (A : AM) (R : List Int) (l : Kvs) (u : Option Addr) (d : Nat), (ARf A R) → ((l.length : Int) ≤ A.s.free) → (l.length ≤ 65536) → (R.length + l.length ≤ 500000000) → l.length = nM → St g (Arn a A :: Sh 121 2 (en2 l) u d :: L) w → Sp Tryz.prog 132 [.pointer (some ⟨a, 0, none⟩), .slice u (List.length (en2 l)) d] w (fun v w' => ∃ (A2 : AM) (i : Int), v = .int .u32 i ∧ St g (Arn a A2 :: Sh 121 2 (en2 l) u d :: L) w' ∧ (TOp A A2 R i (Tr.bld l) l.length)) := by
  induction nM using Nat.strongRecOn with
  | _ nM ih => intro g w L a A R l u d hA hf hl hz hM hS; exact bk_bld_step nM ih a A R l u d hA hf hl hz hM hS
theorem bk_bld {g w : World} {L : List HP} (a : Nat) (A : AM) (R : List Int) (l : Kvs) (u : Option Addr) (d : Nat) (hA : ARf A R) (hf : (l.length : Int) ≤ A.s.free) (hl : l.length ≤ 65536) (hz : R.length + l.length ≤ 500000000) (hS : St g (Arn a A :: Sh 121 2 (en2 l) u d :: L) w) :
    Sp Tryz.prog 132 [.pointer (some ⟨a, 0, none⟩), .slice u (List.length (en2 l)) d] w (fun v w' => ∃ (A2 : AM) (i : Int), v = .int .u32 i ∧ St g (Arn a A2 :: Sh 121 2 (en2 l) u d :: L) w' ∧ (TOp A A2 R i (Tr.bld l) l.length)) := bk_bld_all _ g w L a A R l u d hA hf hl hz rfl hS
set_option maxRecDepth 8192 in
theorem bk_build {g w : World} {L : List HP} (a : Nat) (A : AM) (R : List Int) (l : Kvs) (u : Option Addr) (d : Nat) (hA : ARf A R) (hs : Srt l) (hf : (l.length : Int) ≤ A.s.free) (hl : l.length ≤ 65536) (hz : R.length + l.length ≤ 500000000) (hS : St g (Arn a A :: Sh 121 2 (en2 l) u d :: L) w) :
    Sp Tryz.prog 66 [.pointer (some ⟨a, 0, none⟩), .slice u (List.length (en2 l)) d] w (fun v w' => ∃ (A2 : AM) (i : Int), v = .tuple #[.int .u32 i, .int .i64 0] ∧ St g (Arn a A2 :: Sh 121 2 (en2 l) u d :: L) w' ∧ (TOp A A2 R i (Tr.bld l) l.length)) := by
  refine Sp.enter Tryz.func66 rfl (by kernel_rfl) (by kernel_rfl) ?_
  refine WC.seq <| WC.region <| WL.r 2 rfl <| WL.nil <| WC.seq <| WC.seq <| WC.region ?_
  have hll := en2_len l
  refine WL.r 1 rfl <| WL.nil <| WC.block <| WC.loop [0, 1, 6] (fun kM vs w => ∃ (k : Nat), vs = [.pointer (some ⟨a, 0, none⟩), .slice u (List.length (en2 l)) d, .int .i64 ((k : Int) + 1)] ∧ St g (Arn a A :: Sh 121 2 (en2 l) u d :: L) w ∧ (l.length - k) = kM) ((List.length l) - 0) ⟨0, rfl, hS, rfl⟩ ?_
  clear hS; rintro _ _ w j ⟨k, rfl, hS, rfl⟩
  refine WC.seq <| WC.seq <| WC.region ?_
  have hll := en2_len l
  refine WL.r 4 rfl <| WL.nil <| WC.ifP rfl (fun cd1 => ?_) (fun cd1 => ?_)
  · refine WC.skip <| WC.seq <| WC.block <| WC.seq <| WC.plan [([0, 1, 5, 6, 2, 7, 3, 8, 4, 9, 10, 11], none)] (by kernel_rfl) (by kernel_rfl) ?_
    obtain ⟨x, hx⟩ : ∃ e, l[k + 1]? = some e := ⟨_, List.getElem?_eq_getElem (by omega)⟩; obtain ⟨y, hy⟩ : ∃ e, l[k]? = some e := ⟨_, List.getElem?_eq_getElem (by omega)⟩; have hxy := srt_at hs hy hx (by omega)
    refine WQ.r 4 rfl <| WQ.ix rfl rfl (i := (k : Int) + 1) (k + 1) el_49 rfl rfl (by omega) (by omega) (hS.rdS 1 rfl (en2_at hx)).1 ?_
    refine WQ.r 1 rfl <| WQ.nw 20 rfl (w64 (by omega)) ?_
    refine WQ.r 1 rfl <| WQ.ix rfl rfl (i := ((k : Int) + 1) - 1) (k) el_49 rfl rfl (by omega) (by omega) (hS.rdS 1 rfl (en2_at hy)).1 ?_
    refine WQ.run 4 [.int .i64 x.1, .int .i64 y.1] rfl (by exact ⟨(hS.rdS 1 rfl (en2_at hx)).2 0 _ rfl, (hS.rdS 1 rfl (en2_at hy)).2 0 _ rfl⟩) ?_
    refine WQ.nil ?_
    intro m1
    replace hS := hS.drewN m1; generalize hwm1 : World.drewN _ _ = w at *; clear hwm1
    as_aux_lemma =>
    refine WC.ifF rfl (decide_eq_false ((by omega))) ?_
    refine WC.skip <| WC.region <| WL.r 2 rfl <| WL.nw 12 rfl (w64 (by omega)) ?_
    refine WL.r 1 rfl <| WL.nil ?_
    exact ⟨_, by omega, k + 1, rfl, hS, rfl⟩
  · refine WC.exit <| WC.seq <| WC.seq <| WC.region <| WL.r 1 rfl <| WL.call rfl rfl (ar_free (a := a) (A := A) (hA := hA.toAWf) (hS := hS)) rfl ?_
    clear hS; rintro _ w ⟨rfl, hS⟩
    replace hS := hS.n2 L rfl
    refine WL.r 3 rfl <| WL.nil ?_
    as_aux_lemma =>
    refine WC.ifF rfl (decide_eq_false ((by omega))) ?_
    refine WC.skip <| WC.seq <| WC.region <| WL.r 2 rfl <| WL.call rfl rfl (bk_bld (a := a) (A := A) (l := l) (u := u) (d := d) (hA := hA) (hf := hf) (hl := hl) (hz := hz) (hS := hS)) rfl ?_
    clear hS; rintro _ w ⟨A1, i1, rfl, hS, f1⟩
    replace hS := hS.n2 L (a0 := Arn a A1) rfl
    refine WL.r 2 rfl <| WL.nil <| WC.ret ?_
    refine ⟨[.int .u32 i1, .int .i64 0], ⟨rfl, rfl⟩, ?_⟩
    exact ⟨_, _, rfl, hS, f1⟩
end Go.Proofs.YtbeacjcmdijdmaaGreat
/-! ## W5 -/
namespace Go.Proofs.YtbeacjcmdijdmaaGreat
open Go Go.V
set_option maxRecDepth 8192 in
theorem lk_get {g w : World} {L : List HP} (a : Nat) (A : AM) (R : List Int) (i k : Int) (t : Tr) (hA : ARf A R) (hi : Is A t i) (hS : St g (Arn a A :: L) w) :
    Sp Tryz.prog 96 [.pointer (some ⟨a, 0, none⟩), .int .u32 i, .int .i64 k] w (fun v w' => v = .tuple #[.int .i64 ((Tr.get k t).getD 0), .bool (Tr.get k t).isSome] ∧ St g (Arn a A :: L) w') := by
  refine Sp.enter Tryz.func96 rfl (by kernel_rfl) (by kernel_rfl) ?_
  refine WC.seq <| WC.region <| WL.r 2 rfl <| WL.nil <| WC.seq <| WC.seq <| WC.region <| WL.r 2 rfl <| WL.nil <| WC.block <| WC.loop [0, 2, 8] (fun kM vs w => ∃ (j : Int) (u : Tr), vs = [.pointer (some ⟨a, 0, none⟩), .int .i64 k, .int .u32 j] ∧ St g (Arn a A :: L) w ∧ (Is A u j) ∧ (Tr.get k u = Tr.get k t) ∧ (u.n) = kM) (t.n) ⟨i, t, rfl, hS, (hi), (rfl), rfl⟩ ?_
  clear hS; rintro _ _ w j ⟨j, u, rfl, hS, hu, hg, rfl⟩
  refine WC.seq <| WC.seq <| WC.region <| WL.r 2 rfl <| WL.nil <| WC.ifP rfl (fun cd1 => ?_) (fun cd1 => ?_)
  · refine WC.skip <| WC.block <| WC.seq <| WC.region ?_
    obtain ⟨ul, uk, uz, ur, hue⟩ := nil_or (t := u) (fun e => cd1 ((Is.nil_iff hu).2 e)); have hu2 : Is A (.node ul uk uz ur) j := hue ▸ hu; have hrj := hA.okrng hu.ref; have hlr := hA.okrng hu2.2.2.2.2.1.ref; have hrr := hA.okrng hu2.2.2.2.2.2.ref; have hun : u.n = ul.n + ur.n + 1 := (by rw [hue]; rfl)
    refine WL.r 2 rfl <| WL.call rfl rfl (ar_node (a := a) (A := A) (i := j) (hA := hA.toAWf) (hi := (by omega)) (hio := hu2.2.1) (hS := hS)) rfl ?_
    clear hS; rintro _ w ⟨rfl, hS⟩
    replace hS := hS.n1 L rfl
    refine WL.r 3 rfl <| WL.new rfl rfl zv_172 hS (fun b1 w hS => ?_)
    refine WL.stF rfl rfl rfl 0 hS rfl rfl rfl rfl rfl ag_172 (fun w hS => ?_)
    replace hS := hS.n2 L (a0 := cel b1 #[.int .i64 (A.nd j).key, .int .i64 (A.nd j).val, .int .u32 (A.nd j).lf, .int .u32 (A.nd j).rg, .int .i64 (A.nd j).size, .int .i64 (A.nd j).sum, .int .i64 (A.nd j).mn, .int .i64 (A.nd j).mx] 172) rfl
    refine WL.r 1 rfl <| WL.nil ?_
    as_aux_lemma =>
    refine WC.block <| WC.seq <| WC.region <| WL.r 3 rfl <| WL.nil <| WC.ifF rfl rfl <| WC.seq <| WC.region <| WL.run 5 [.int .i64 (A.nd j).key] rfl (by exact hS.ld 0 rfl rfl) ?_
    refine WL.nil <| WC.ifP rfl (fun hlt => ?_) (fun hlt => ?_)
    · refine WC.region <| WL.run 3 [.int .u32 (A.nd j).lf] rfl (by exact hS.ld 0 rfl rfl) ?_
      refine WL.nil ?_
      exact ⟨_, by omega, (A.nd j).lf, ul, rfl, (hS.sel 1 [] rfl), (hu2.2.2.2.2.1), (by rw [← hg, hue, Tr.get, if_pos (by rw [← hu2.2.2.1]; exact hlt)]), rfl⟩
    · refine WC.seq <| WC.region <| WL.run 5 [.int .i64 (A.nd j).key] rfl (by exact hS.ld 0 rfl rfl) ?_
      refine WL.nil <| WC.ifP rfl (fun hgt => ?_) (fun hgt => ?_)
      · refine WC.region <| WL.run 3 [.int .u32 (A.nd j).rg] rfl (by exact hS.ld 0 rfl rfl) ?_
        refine WL.nil ?_
        exact ⟨_, by omega, (A.nd j).rg, ur, rfl, (hS.sel 1 [] rfl), (hu2.2.2.2.2.2), (by rw [← hg, hue, Tr.get, if_neg (by rw [← hu2.2.2.1]; exact hlt), if_pos (by rw [← hu2.2.2.1]; exact hgt)]), rfl⟩
      · refine WC.seq <| WC.region <| WL.run 4 [.int .i64 (A.nd j).val] rfl (by exact hS.ld 0 rfl rfl) ?_
        refine WL.nil <| WC.ret ?_
        refine ⟨[.int .i64 (A.nd j).val, .bool true], ⟨rfl, rfl⟩, ?_⟩
        replace hS := (hS.sel 1 [] rfl)
        have hgv : Tr.get k t = some (A.nd j).val := (by rw [← hg, hue, Tr.get, if_neg (by rw [← hu2.2.2.1]; exact hlt), if_neg (by rw [← hu2.2.2.1]; exact hgt), hu2.2.2.2.1]); exact ⟨by rw [hgv]; rfl, hS⟩
  · refine WC.exit <| WC.seq <| WC.region <| WL.r 2 rfl <| WL.nil <| WC.ret ?_
    refine ⟨[.int .i64 0, .bool false], ⟨rfl, rfl⟩, ?_⟩
    have hgv : Tr.get k t = none := (by rw [← hg, (Is.nil_iff hu).1 (Classical.not_not.1 cd1)]; rfl); exact ⟨by rw [hgv]; rfl, hS⟩
theorem wt_step {h : Nat} (hw : Tr.wt h ≤ 2147483648) : IntKind.i64.wrap ((Tr.wt h : Int) + ((Tr.wt h : Int) + 2) / 3) = (Tr.wt (h + 1) : Int) := by
  rw [w64 (by omega), show Tr.wt (h + 1) = Tr.wt h + (Tr.wt h + 2) / 3 from rfl]; omega
theorem mxA_stop {keys h : Nat} (hh : h < 80) (hs : keys + 1 < Tr.wt (h + 1)) : Tr.mxA keys (80 - h) h = h := by
  rw [show 80 - h = (80 - (h + 1)) + 1 by omega, Tr.mxA, if_pos hs]
theorem mxA_go {keys h : Nat} (hh : h < 80) (hs : ¬ keys + 1 < Tr.wt (h + 1)) : Tr.mxA keys (80 - (h + 1)) (h + 1) = Tr.mxA keys (80 - h) h := by
  rw [show 80 - h = (80 - (h + 1)) + 1 by omega, Tr.mxA, if_neg hs]
theorem wt_small {h : Nat} (hw : Tr.wt h ≤ 2147483648) : Tr.wt (h + 1) ≤ 3000000000 := by
  rw [show Tr.wt (h + 1) = Tr.wt h + (Tr.wt h + 2) / 3 from rfl]; omega
set_option maxRecDepth 8192 in
theorem mx_height {g w : World} {L : List HP} (keys : Nat) (hk : keys ≤ 2147483647) (hS : St g (L) w) :
    Sp Tryz.prog 208 [.int .i64 (keys : Int)] w (fun v w' => v = .int .i64 (Tr.mxH keys : Int) ∧ St g (L) w') := by
  refine Sp.enter Tryz.func208 rfl (by kernel_rfl) (by kernel_rfl) ?_
  have _ := hk
  refine WC.seq <| WC.region <| WL.r 1 rfl <| WL.nil <| WC.seq <| WC.seq <| WC.region <| WL.r 2 rfl <| WL.rG 4 rfl (fun j => ?_)
  refine WL.prop 10 rfl (bor (dd _) (dd _)) <| WL.nil <| WC.ifF rfl (decide_eq_false ((by omega))) ?_
  refine WC.skip <| WC.seq <| WC.region <| WL.r 2 rfl <| WL.nil <| WC.seq <| WC.block <| WC.loop [0, 2, 3, 4] (fun kM vs w => ∃ (h : Nat), vs = [.int .i64 (keys : Int), .int .i64 0, .int .i64 (h : Int), .int .i64 (Tr.wt h : Int)] ∧ St g (L) w ∧ (h ≤ 80) ∧ (Tr.wt h ≤ keys + 1) ∧ (Tr.mxA keys (80 - h) h = Tr.mxH keys) ∧ (80 - h) = kM) (80 - 0) ⟨0, rfl, hS, (by omega), (by simp [Tr.wt]), (rfl), rfl⟩ ?_
  clear hS; rintro _ _ w j ⟨h, rfl, hS, hh, hw, hm, rfl⟩
  refine WC.seq <| WC.seq <| WC.region <| WL.r 2 rfl <| WL.nil ?_
  as_aux_lemma =>
  refine WC.ifP rfl (fun cd1 => ?_) (fun cd1 => ?_)
  · refine WC.skip <| WC.block <| WC.seq <| WC.region ?_
    have hws := wt_small (h := h) (by omega)
    refine WL.r 3 rfl <| WL.nw 15 rfl (w64 (by omega)) ?_
    refine WL.r 1 rfl <| WL.reb 16 (.int .i64 (((Tr.wt h : Int) + 2) / 3)) (congrArg (Value.int .i64) (quo_i64 (p := (Tr.wt h : Int) + 2) (q := 3) (by omega))) ?_
    refine WL.r 1 rfl <| WL.reb 17 (.int .i64 (Tr.wt (h + 1) : Int)) (congrArg (Value.int .i64) (by exact wt_step (by omega))) ?_
    refine WL.r 1 rfl <| WL.nil <| WC.seq <| WC.seq <| WC.region <| WL.r 2 rfl <| WL.nw 19 rfl (w64 (by omega)) ?_
    refine WL.r 2 rfl <| WL.nil <| WC.ifP rfl (fun cd2 => ?_) (fun cd2 => ?_)
    · refine WC.exit <| WC.seq <| WC.region <| WL.r 2 rfl <| WL.nil ?_
      as_aux_lemma =>
      refine WC.ret ?_
      refine ⟨[.int .i64 (h : Int)], rfl, ?_⟩
      exact ⟨congrArg (fun n : Nat => Value.int .i64 n) ((mxA_stop (keys := keys) (by omega) (by omega)).symm.trans hm), hS⟩
    · refine WC.skip <| WC.region <| WL.r 2 rfl <| WL.nw 23 rfl (w64 (by omega)) ?_
      refine WL.r 1 rfl <| WL.nil ?_
      exact ⟨_, by omega, h + 1, rfl, hS, (by omega), (by omega), (by rw [mxA_go (by omega) (by omega)]; exact hm), rfl⟩
  · refine WC.exit <| WC.seq <| WC.region <| WL.r 2 rfl <| WL.nil <| WC.ret ?_
    refine ⟨[.int .i64 (h : Int)], rfl, ?_⟩
    exact ⟨congrArg (fun n : Nat => Value.int .i64 n) (by rw [← hm, show 80 - h = 0 by omega]; rfl), hS⟩
set_option maxRecDepth 8192 in
theorem rs_valid {g w : World} {L : List HP} (l : List Int) (b : Option Addr) (c : Nat) (hl : l.length ≤ 10) (hS : St g (Sh 3 1 (i64s l) b c :: L) w) :
    Sp Tryz.prog 171 [.slice b (List.length (i64s l)) c] w (fun v w' => v = .bool (l.all fun n => decide (0 ≤ n ∧ n ≤ 65536)) ∧ St g (Sh 3 1 (i64s l) b c :: L) w') := by
  refine Sp.enter Tryz.func171 rfl (by kernel_rfl) (by kernel_rfl) ?_
  have _ := hl
  refine WC.seq <| WC.region <| WL.r 1 rfl <| WL.nil <| WC.seq <| WC.seq <| WC.region ?_
  have hll := i64s_len l
  refine WL.r 3 rfl <| WL.nil <| WC.block <| WC.loop [5, 6, 7] (fun kM vs w => ∃ (k : Nat), vs = [.slice b (List.length (i64s l)) c, .int .i64 (List.length (i64s l) : Int), .int .i64 (k : Int)] ∧ St g (Sh 3 1 (i64s l) b c :: L) w ∧ (k ≤ l.length) ∧ (∀ x ∈ l.take k, 0 ≤ x ∧ x ≤ 65536) ∧ (l.length - k) = kM) ((List.length l) - 0) ⟨0, rfl, hS, (Nat.zero_le _), (by simp), rfl⟩ ?_
  clear hS; rintro _ _ w j ⟨k, rfl, hS, hk, ha, rfl⟩
  refine WC.seq <| WC.region ?_
  have hll := i64s_len l
  refine WL.r 1 rfl <| WL.nil <| WC.seq <| WC.ifP rfl (fun cd1 => ?_) (fun cd1 => ?_)
  · refine WC.skip <| WC.seq <| WC.block <| WC.seq <| WC.region ?_
    obtain ⟨x, hx⟩ : ∃ x, l[k]? = some x := ⟨_, List.getElem?_eq_getElem (by omega)⟩
    refine WL.ix rfl rfl (i := (k : Int)) (k) el_56 rfl rfl (by omega) (by omega) (hS.rdS 0 rfl (i64s_at hx)).1 ?_
    refine WL.run 2 [.int .i64 x] rfl (by exact (hS.rdS 0 rfl (i64s_at hx)).2 0 _ rfl) ?_
    refine WL.nil ?_
    as_aux_lemma =>
    refine WC.seq <| WC.region <| WL.r 2 rfl <| WL.rG 4 rfl (fun j => ?_)
    refine WL.prop 16 rfl (bor (dd _) (dd _)) <| WL.nil <| WC.ifP rfl (fun cd2 => ?_) (fun cd2 => ?_)
    · refine WC.seq <| WC.region <| WL.r 1 rfl <| WL.nil <| WC.ret ?_
      refine ⟨[.bool false], rfl, ?_⟩
      exact ⟨congrArg Value.bool (by rw [Eq.comm, List.all_eq_false]; exact ⟨x, List.mem_of_getElem? hx, by simp; omega⟩), hS⟩
    · refine WC.skip <| WC.region <| WL.r 1 rfl <| WL.nw 17 rfl (w64 (by omega)) ?_
      refine WL.r 1 rfl <| WL.nil ?_
      exact ⟨_, by omega, k + 1, rfl, hS, (by omega), (by rw [List.take_add_one, hx]; intro y hy; rcases List.mem_append.1 hy with hy | hy; exact ha y hy; simp at hy; subst hy; omega), rfl⟩
  · refine WC.exit <| WC.seq <| WC.region <| WL.r 1 rfl <| WL.nil ?_
    as_aux_lemma =>
    refine WC.ret ?_
    refine ⟨[.bool true], rfl, ?_⟩
    exact ⟨congrArg Value.bool (by rw [Eq.comm, List.all_eq_true]; intro y hy; rw [List.take_of_length_le (by omega)] at ha; exact decide_eq_true (ha y hy)), hS⟩
theorem mul_rng {f x : Int} (hf : 0 ≤ f ∧ f ≤ 100) (hx : 0 ≤ x ∧ x ≤ 1000) : -9223372036854775808 ≤ f * x ∧ f * x ≤ 9223372036854775807 := by
  have h1 : 0 ≤ f * x := Int.mul_nonneg hf.1 hx.1
  have h2 : f * x ≤ 100 * 1000 := Int.mul_le_mul hf.2 hx.2 hx.1 (by omega)
  omega
set_option maxRecDepth 8192 in
theorem rs_path {g w : World} {L : List HP} (f : Int) (n : Nat) (hf : 0 ≤ f ∧ f ≤ 100) (hn : n ≤ 2147483647) (hS : St g (L) w) :
    Sp Tryz.prog 172 [.int .i64 f, .int .i64 (n : Int)] w (fun v w' => v = .int .i64 (f * ((Tr.mxH n : Int) + 2)) ∧ St g (L) w') := by
  refine Sp.enter Tryz.func172 rfl (by kernel_rfl) (by kernel_rfl) ?_
  refine WC.seq <| WC.region <| WL.r 1 rfl <| WL.nil <| WC.seq <| WC.region <| WL.r 2 rfl <| WL.call rfl rfl (mx_height (keys := n) (hk := hn) (hS := hS)) rfl ?_
  clear hS; rintro _ w ⟨rfl, hS⟩
  replace hS : St g (L) w := hS
  refine WL.r 1 rfl <| WL.reb 8 (.int .i64 ((Tr.mxH n : Int) + 2)) (congrArg (Value.int .i64) (by have := Tr.mxH_le n; rw [w64 (by omega)])) ?_
  refine WL.r 1 rfl <| WL.reb 9 (.int .i64 (f * ((Tr.mxH n : Int) + 2))) (congrArg (Value.int .i64) (by have := Tr.mxH_le n; exact w64 (mul_rng hf (by omega)))) ?_
  refine WL.r 1 rfl <| WL.nil <| WC.ret ?_
  refine ⟨[.int .i64 (f * ((Tr.mxH n : Int) + 2))], rfl, ?_⟩
  exact ⟨rfl, hS⟩
set_option maxRecDepth 8192 in
theorem rs_ins {g w : World} {L : List HP} (n : Nat) (hn : n ≤ 65536) (hS : St g (L) w) :
    Sp Tryz.prog 124 [.int .i64 (n : Int)] w (fun v w' => v = .int .i64 (4 * ((Tr.mxH (n + 1) : Int) + 2)) ∧ St g (L) w') := by
  refine Sp.enter Tryz.func124 rfl (by kernel_rfl) (by kernel_rfl) ?_
  have _ := hn
  refine WC.seq <| WC.region <| WL.r 1 rfl <| WL.nil <| WC.seq <| WC.seq <| WC.region <| WL.r 1 rfl <| WL.lit rfl rfl (i64s [(n : Int)]) el_56 hS (by exact ⟨rfl, rfl⟩) (i64s_ok _) rfl (Nat.le_of_ble_eq_true rfl) (fun b1 w hS => ?_)
  replace hS := (hS.at_ 0 rfl).share
  replace hS : St g (Sh 3 1 (i64s [(n : Int)]) (some ⟨b1, 0, none⟩) (List.length (i64s [(n : Int)])) :: L) w := hS
  refine WL.call rfl rfl (rs_valid (l := [(n : Int)]) (b := some ⟨b1, 0, none⟩) (c := List.length (i64s [(n : Int)])) (hl := (by simp)) (hS := hS)) rfl ?_
  clear hS; rintro _ w ⟨rfl, hS⟩
  replace hS := hS.n1 L rfl
  refine WL.r 1 rfl <| WL.nil <| WC.ifF rfl (by simp; omega) ?_
  refine WC.skip <| WC.seq <| WC.region <| WL.r 2 rfl <| WL.reb 8 (.int .i64 ((n + 1 : Nat) : Int)) (congrArg (Value.int .i64) (by rw [w64 (by omega)]; omega)) ?_
  refine WL.call rfl rfl (rs_path (f := 4) (n := (n + 1 : Nat)) (hf := (by omega)) (hn := (by omega)) (hS := hS)) rfl ?_
  clear hS; rintro _ w ⟨rfl, hS⟩
  replace hS := hS.n1 L rfl
  refine WL.r 1 rfl <| WL.nil ?_
  as_aux_lemma =>
  refine WC.ret ?_
  refine ⟨[.int .i64 (4 * ((Tr.mxH (n + 1 : Nat) : Int) + 2))], rfl, ?_⟩
  replace hS := (hS.sel 1 [] rfl)
  exact ⟨rfl, hS⟩
end Go.Proofs.YtbeacjcmdijdmaaGreat
/-! ## W6 -/
namespace Go.Proofs.YtbeacjcmdijdmaaGreat
open Go Go.V
theorem TOp.held {A B : AM} {R : List Int} {i j : Int} {t : Tr} {c : Nat} (h : TOp (A.ret i) B R j t c) : TOp A B R j t c :=
  ⟨h.ref, h.is, (Kp.ret A i R).trans h.kp, by have := h.fr; rw [(AM.ret_same _ _).1] at this; exact this, by rw [h.cap, (AM.ret_same _ _).1]⟩
theorem get_of {k z : Int} {t : Tr} (h1 : (Tr.get k t).isSome = true) (h2 : (Tr.get k t).getD 0 = z) : Tr.get k t = some z := by
  cases hg : Tr.get k t with
  | none => rw [hg] at h1; cases h1
  | some y => rw [hg] at h2; rw [show y = z from h2]
set_option maxHeartbeats 1000000 in
set_option maxRecDepth 8192 in
theorem up_ins {g w : World} {L : List HP} (a : Nat) (A : AM) (R : List Int) (i k z : Int) (t : Tr) (hA : ARf A R) (hi : Is A t i) (hb : t.ok) (hn : t.n ≤ 65535) (hf : 4 * ((Tr.mxH (t.n + 1) : Int) + 2) ≤ A.s.free) (hz : R.length ≤ 500000000) (hS : St g (Arn a A :: L) w) :
    Sp Tryz.prog 47 [.pointer (some ⟨a, 0, none⟩), .int .u32 i, .agg #[.int .i64 k, .int .i64 z]] w (fun v w' => ∃ (A2 : AM) (j : Int), v = .tuple #[.int .u32 j, .int .i64 ((Tr.get k t).getD 0), .bool (Tr.get k t).isSome, .int .i64 0] ∧ St g (Arn a A2 :: L) w' ∧ (TOp A A2 R j (Tr.ins k z t) (4 * (Tr.mxH (t.n + 1) + 2)))) := by
  refine Sp.enter Tryz.func47 rfl (by kernel_rfl) (by kernel_rfl) ?_
  have _ := hz
  have _ := hf
  have _ := hn
  refine WC.seq <| WC.region <| WL.box rfl rfl #[.int .i64 k, .int .i64 z] hS rfl rfl (fun b1 w hS => ?_)
  refine WL.r 4 rfl <| WL.nil <| WC.seq <| WC.region <| WL.run 4 [.int .i64 k] rfl (by exact hS.ld 0 rfl rfl) ?_
  refine WL.call rfl rfl (lk_get (a := a) (A := A) (R := R) (i := i) (k := k) (t := t) (hA := hA) (hi := hi) (hS := (hS.sel 2 [1, 0] rfl))) rfl ?_
  clear hS; rintro _ w ⟨rfl, hS⟩
  replace hS := hS.n2 L (a1 := cel b1 #[.int .i64 k, .int .i64 z] 121) rfl
  refine WL.r 5 rfl <| WL.nil <| WC.seq <| WC.seq <| WC.region <| WL.r 1 rfl <| WL.runG 6 [.int .i64 z] rfl (by exact (fun _ => hS.ld 1 rfl rfl)) (fun j => ?_)
  refine WL.prop 26 rfl (band (dv _) (dd _)) <| WL.nil <| WC.ifP rfl (fun hc => ?_) (fun hc => ?_)
  · refine WC.seq <| WC.region <| WL.r 2 rfl <| WL.call rfl rfl (tw_hold (a := a) (A := A) (R := R) (i := i) (hA := hA) (hi := hi.ref) (hz := (by omega)) (hS := hS)) rfl ?_
    clear hS; rintro _ w ⟨rfl, hS, f1⟩
    replace hS := hS.n2 L (a0 := Arn a (A.ret i)) rfl
    refine WL.r 5 rfl <| WL.nil ?_
    as_aux_lemma =>
    refine WC.ret ?_
    refine ⟨[.int .u32 i, .int .i64 ((Tr.get k t).getD 0), .bool true, .int .i64 0], ⟨rfl, rfl, rfl, rfl⟩, ?_⟩
    replace hS := (hS.sel 2 [0] rfl)
    have hg := get_of hc.1 hc.2; exact ⟨_, _, by rw [hg]; rfl, hS, by rw [Tr.ins_same k z t hb hg]; exact (TOp.held (ARf.refl f1 (hi.ret i))).weak (Nat.zero_le _)⟩
  · refine WC.skip <| WC.seq <| WC.seq <| WC.region <| WL.r 3 rfl <| WL.call rfl rfl (tr_size (a := a) (A := A) (R := R) (i := i) (t := t) (hA := hA) (hi := hi) (hS := hS)) rfl ?_
    clear hS; rintro _ w ⟨rfl, hS⟩
    replace hS := hS.n2 L rfl
    refine WL.call rfl rfl (rs_ins (n := t.n) (hn := (by omega)) (hS := hS)) rfl ?_
    clear hS; rintro _ w ⟨rfl, hS⟩
    replace hS := hS.n2 L rfl
    refine WL.call rfl rfl (tw_room (a := a) (A := A) (n := 4 * ((Tr.mxH (t.n + 1) : Int) + 2)) (hA := hA.toAWf) (hS := hS)) rfl ?_
    clear hS; rintro _ w ⟨rfl, hS⟩
    replace hS := hS.n2 L rfl
    refine WL.r 1 rfl <| WL.prop 37 rfl (bnot (dd _)) <| WL.nil ?_
    as_aux_lemma =>
    refine WC.ifF rfl (decide_eq_false ((by have := Tr.mxH_le (t.n + 1); simp; omega))) ?_
    refine WC.skip <| WC.seq <| WC.plan [([0, 1, 2, 4, 6, 7], some (3, [0, 4, 6, 7])), ([], some (5, [6, 7])), ([8, 9, 10, 11], none)] (by kernel_rfl) (by kernel_rfl) ?_
    refine WQ.r 3 rfl <| WQ.ldF rfl rfl 1 hS rfl rfl ag_121 <| WQ.r 2 rfl <| WQ.nil ?_
    intro m1
    replace hS := hS.drewN m1; generalize hwm1 : World.drewN _ _ = w at *; clear hwm1
    refine WL.call rfl rfl (tw_hold (a := a) (A := A) (R := R) (i := i) (hA := hA) (hi := hi.ref) (hz := (by omega)) (hS := hS)) rfl ?_
    clear hS; rintro _ w ⟨rfl, hS, f1⟩
    replace hS := hS.n2 L (a0 := Arn a (A.ret i)) rfl
    refine WL.nil ?_
    refine ⟨by exact ⟨RQ.pure rfl rfl rfl rfl, RQ.ldF rfl rfl 1 hS rfl rfl ag_121 rfl rfl, RQ.pure rfl rfl rfl rfl, RQ.pure rfl rfl rfl rfl⟩, ?_⟩
    refine WQ.nil ?_
    intro m2
    replace hS := hS.drewN m2; generalize hwm2 : World.drewN _ _ = w at *; clear hwm2
    refine WL.call rfl rfl (tw_ins (a := a) (A := A.ret i) (R := R) (i := i) (k := k) (z := z) (t := t) (hA := f1) (hi := hi.ret i) (hf := (by have := Tr.ic_res k z t hb (by omega); rw [(AM.ret_same _ _).1]; omega)) (hz := (by omega)) (hS := hS)) rfl ?_
    clear hS; rintro _ w ⟨A1, j1, rfl, hS, f2⟩
    replace hS := hS.n2 L (a0 := Arn a A1) rfl
    refine WL.nil ?_
    refine ⟨by exact ⟨RQ.pure rfl rfl rfl rfl, RQ.pure rfl rfl rfl rfl⟩, ?_⟩
    refine WQ.r 4 rfl <| WQ.nil ?_
    intro m3
    replace hS := hS.drewN m3; generalize hwm3 : World.drewN _ _ = w at *; clear hwm3
    as_aux_lemma =>
    refine WC.ret ?_
    refine ⟨[.int .u32 j1, .int .i64 ((Tr.get k t).getD 0), .bool (Tr.get k t).isSome, .int .i64 0], ⟨rfl, rfl, rfl, rfl⟩, ?_⟩
    replace hS := (hS.sel 2 [0] rfl)
    exact ⟨_, _, rfl, hS, (TOp.held f2).weak (by have := Tr.ic_res k z t hb (by omega); omega)⟩
end Go.Proofs.YtbeacjcmdijdmaaGreat
/-! ## U1 -/
namespace Go.Proofs.YtbeacjcmdijdmaaGreat
open Go Go.V Go.RowKit
def TrL (A : AM) (r : Int) (es : Kvs) : Prop := ∃ t : Tr, Is A t r ∧ t.ok ∧ Srt t.ls ∧ t.ls = es
structure WR (V : VM) (A : AM) (R : List Int) (z : RSt) (m : Nat) : Prop where
  vi : VI V A R
  ko : KO V.xs
  ra : RA V.xs z.P z.B V.last
  tt : z.T = V.T
  cp : z.cap = V.cap
  ll : z.LL.length = z.P.length
  tr : ∀ r ∈ V.rs, ∃ x, z.LL[(r.n - 1).toNat]? = some x ∧ TrL A r.root x.es
  sz : ∀ x ∈ z.LL, x.es.length ≤ m ∧ Srt x.es
  la : V.last ≤ 800
  xl : (V.xs.length : Int) ≤ V.cap
theorem RelQ.sub {xs xs2 : List VN} {q : Nat} {n z : Int} (hG : GOk xs q) (h : RelQ xs n xs2) (hp : preG xs2 z = true) : preG xs z = true := by
  rcases h with ⟨_, h⟩ | ⟨_, rfl⟩
  · exact (h.facts hG).2.1 z hp
  · exact hp
theorem TrL.kp {A B : AM} {R : List Int} {r : Int} {es : Kvs} (h : TrL A r es) (kp : Kp A B R) (hr : r ∈ R) : TrL B r es := by
  obtain ⟨t, h1, h2, h3, h4⟩ := h
  exact ⟨t, kp.is r hr t h1, h2, h3, h4⟩
theorem TrL.ret {A : AM} {r : Int} {es : Kvs} (h : TrL A r es) (i : Int) : TrL (A.ret i) r es := by
  obtain ⟨t, h1, h2, h3, h4⟩ := h
  exact ⟨t, h1.ret i, h2, h3, h4⟩
theorem WR.rok {V : VM} {A : AM} {R : List Int} {z : RSt} {m : Nat} (h : WR V A R z m) : ROk z :=
  ⟨by rw [h.tt]; exact h.vi.t, h.ra.pok, h.ra.lenB, h.ll, by have := h.ra.len; have := h.la; omega, by rw [h.cp]; exact h.vi.g.cp⟩
theorem WR.room {V : VM} {A : AM} {R : List Int} {z : RSt} {m : Nat} (h : WR V A R z m) : z.room = V.room := by
  have h1 := h.ra.num h.vi.g.ok h.ko
  have h2 := h.vi.cp
  unfold RSt.room VM.room
  rw [h1, h.cp, h.tt, show V.cap - (V.T.s.cap - V.T.s.free) = V.T.s.free by omega]
theorem WR.open {V : VM} {A : AM} {R : List Int} {z : RSt} {m : Nat} (h : WR V A R z m) {x : Int} (ho : V.T.s.opn x = true) : ∃ (k : Nat) (l : LsE), V.T.val x = (k : Int) + 1 ∧ z.LL[k]? = some l ∧ TrL A (V.rootOf (V.T.val x)) l.es ∧ V.rootOf (V.T.val x) ∈ V.rs.map RN.root ∧ liveR z.B (V.T.val x) = true := by
  obtain ⟨h1, i, r, hr, hn⟩ := VM.open_val h.vi ho
  have h2 := VM.rootOf_at h.vi.k.uniq hr
  rw [hn] at h2
  obtain ⟨l, hl, ht⟩ := h.tr r (List.mem_of_getElem? hr)
  have h3 : liveR z.B (V.T.val x) = true := by rw [← h.ra.live]; exact h1
  have h4 := (liveR_rng h3).1
  exact ⟨(r.n - 1).toNat, l, by omega, hl, by rw [h2]; exact ht, by rw [h2]; exact List.mem_map.2 ⟨r, List.mem_of_getElem? hr, rfl⟩, h3⟩
theorem WR.ar {V : VM} {A B : AM} {R R2 : List Int} {z : RSt} {m : Nat} (h : WR V A R z m) (hB : ARf B (V.rs.map RN.root ++ R2)) (kp : Kp A B (V.rs.map RN.root)) : WR V B R2 z m :=
  ⟨h.vi.ar hB, h.ko, h.ra, h.tt, h.cp, h.ll, fun r hr => by
    obtain ⟨x, hx, ht⟩ := h.tr r hr
    exact ⟨x, hx, ht.kp kp (List.mem_map.2 ⟨r, hr, rfl⟩)⟩, h.sz, h.la, h.xl⟩
theorem WR.up {V : VM} {A : AM} {R : List Int} {z : RSt} {m m2 : Nat} (h : WR V A R z m) (hm : m ≤ m2) : WR V A R z m2 :=
  ⟨h.vi, h.ko, h.ra, h.tt, h.cp, h.ll, h.tr, fun x hx => ⟨Nat.le_trans (h.sz x hx).1 hm, (h.sz x hx).2⟩, h.la, h.xl⟩
theorem WR.add {V V2 : VM} {A : AM} {R : List Int} {z : RSt} {m : Nat} {root : Int} {ps : List Int} {x : LsE} (h : WR V A R z m) (hC : Com V root ps V2) (hV : VI V2 (A.ret root) R) (hl : V.last < 800) (ht : TrL A root x.es) (hx : x.es.length ≤ m) (ra ga oa va pa ba la e : Option Addr) (rc gc oc vc pc bc lc f : Nat) : WR V2 (A.ret root) R (z.add ps x ra ga oa va pa ba la e rc gc oc vc pc bc lc f) m := by
  obtain ⟨⟨xs2, q, rfl, hA⟩, h0⟩ := hC
  have hlen := h.ra.len
  obtain ⟨t, t1, t2, t3, t4⟩ := ht
  refine ⟨hV, h.ko.add h.vi.g.le hA, h.ra.add (r := PR.mk ps e f) h.vi.g hA h0, ?_, h.cp, ?_, fun r hr => ?_, fun y hy => ?_, by show V.last + 1 ≤ 800; omega, ?_⟩
  · show z.T.open (z.P.length + 1) = V.T.open (V.last + 1)
    rw [h.tt, hlen]
  · show (z.LL ++ [x]).length = (z.P ++ [PR.mk ps e f]).length
    rw [List.length_append, List.length_append, h.ll]; rfl
  · have hr2 : r ∈ V.rs ++ [⟨V.last + 1, root, V.q2⟩] := hr
    rcases List.mem_append.1 hr2 with hr2 | hr2
    · obtain ⟨y, hy, hty⟩ := h.tr r hr2
      exact ⟨y, by show (z.LL ++ [x])[_]? = _; rw [List.getElem?_append_left (List.getElem?_eq_some_iff.1 hy).1]; exact hy, hty.ret root⟩
    · rw [List.mem_singleton.1 hr2]
      refine ⟨x, ?_, t, t1.ret root, t2, t3, t4⟩
      show (z.LL ++ [x])[(V.last + 1 - 1).toNat]? = _
      rw [show (V.last + 1 - 1).toNat = z.LL.length by rw [h.ll]; omega, List.getElem?_append_right (Nat.le_refl _), Nat.sub_self]; rfl
  · have hy2 : y ∈ z.LL ++ [x] := hy
    rcases List.mem_append.1 hy2 with hy2 | hy2
    · exact h.sz y hy2
    · rw [List.mem_singleton.1 hy2]; exact ⟨hx, t4 ▸ t3⟩
  · have h1 := (addE_inv h0).2.2
    have h2 := (hA.vw h.vi.g.le h0).2.1
    show (xs2.length : Int) ≤ V.cap
    omega
theorem WR.rel {V V2 : VM} {A A2 : AM} {R : List Int} {z : RSt} {m : Nat} {hd : Int} (h : WR V A R z m) (ho : V.T.s.opn hd = true) (hR : Rls V hd V2) (hV : VI V2 A2 R) (kp : Kp A A2 (V2.rs.map RN.root ++ R)) (ra oa ba : Option Addr) (rc oc bc : Nat) : WR V2 A2 R (z.rel hd ra oa ba rc oc bc) m := by
  have hv : z.T.val hd = V.T.val hd := by rw [h.tt]
  have hl := (VM.open_val h.vi ho).1
  refine ⟨hV, h.ko.rel h.vi.g.ok hR.rel, ?_, ?_, ?_, h.ll, fun r hr => ?_, h.sz, ?_, ?_⟩
  · have e : V2.last = V.last := (by have h9 := congrArg VM.last hR.eq; exact h9)
    rw [e]
    show RA V2.xs z.P (z.B.set (z.T.val hd - 1).toNat false) V.last
    rw [hv]
    exact h.ra.rel h.vi.g.ok hR.rel hl
  · show z.T.close hd = V2.T
    rw [h.tt]; exact (congrArg VM.T hR.eq).symm
  · have e : V2.cap = V.cap := (by have h9 := congrArg VM.cap hR.eq; exact h9)
    rw [e]; exact h.cp
  · have hr2 := (hR.sub r).1 hr
    obtain ⟨y, hy, hty⟩ := h.tr r hr2.1
    exact ⟨y, hy, hty.kp kp (List.mem_append_left _ (List.mem_map.2 ⟨r, hr, rfl⟩))⟩
  · have e : V2.last = V.last := (by have h9 := congrArg VM.last hR.eq; exact h9)
    rw [e]; exact h.la
  · have e : V2.cap = V.cap := (by have h9 := congrArg VM.cap hR.eq; exact h9)
    have h1 := hV.g.ok.uniq
    have h2 : (V2.xs.map VN.n).length ≤ (V.xs.map VN.n).length := nd_le (List.pairwise_map.2 h1) fun n hn => by
      obtain ⟨x, hx, rfl⟩ := List.mem_map.1 hn
      have h3 := RelQ.sub h.vi.g.ok hR.rel (pre_iff.2 ⟨x, hx, rfl⟩)
      obtain ⟨y, hy, e⟩ := pre_iff.1 h3
      exact List.mem_map.2 ⟨y, hy, e⟩
    rw [List.length_map, List.length_map] at h2
    rw [e]; have := h.xl; omega
theorem sum_le {α : Type} (f : α → Nat) (m : Nat) : ∀ l : List α, (∀ x ∈ l, f x ≤ m) → (l.map f).foldr (· + ·) 0 ≤ l.length * m
  | [], _ => by simp
  | x :: l, h => by
    have h1 := h x (by simp)
    have h2 := sum_le f m l fun y hy => h y (by simp [hy])
    simp only [List.map_cons, List.foldr_cons, List.length_cons, Nat.add_mul, Nat.one_mul]; omega
theorem WR.used {V : VM} {A : AM} {z : RSt} {m : Nat} (h : WR V A [] z m) : A.s.cap - A.s.free ≤ (V.rs.length * m : Nat) := by
  have hT : ∀ r ∈ V.rs.map RN.root ++ [], ∃ t : Tr, Is A t r ∧ t.n ≤ m := fun r hr => by
    rw [List.append_nil] at hr
    obtain ⟨x, hx, rfl⟩ := List.mem_map.1 hr
    obtain ⟨y, hy, t, t1, _, _, t4⟩ := h.tr x hx
    have h1 := (h.sz y (List.mem_of_getElem? hy)).1
    exact ⟨t, t1, by rw [← Tr.ls_len, t4]; exact h1⟩
  have h1 := used_le h.vi.ref (fun r => if hr : r ∈ V.rs.map RN.root ++ [] then (hT r hr).choose else .nil) fun r hr => by
    simp only [dif_pos hr]; exact (hT r hr).choose_spec.1
  have h2 := sum_le (fun r => (if hr : r ∈ V.rs.map RN.root ++ [] then (hT r hr).choose else Tr.nil).n) m (V.rs.map RN.root ++ []) fun r hr => by
    simp only [dif_pos hr]; exact (hT r hr).choose_spec.2
  have h3 : (V.rs.map RN.root ++ []).length = V.rs.length := by rw [List.append_nil, List.length_map]
  rw [h3] at h2
  omega
end Go.Proofs.YtbeacjcmdijdmaaGreat
/-! ## U2 -/
namespace Go.Proofs.YtbeacjcmdijdmaaGreat
open Go Go.V Go.RowKit
def comE (T : TM) (rm : Int) (ps : List Int) : Int := if okPs ps then (if ∀ y ∈ ps, T.s.opn y = true then (if rm < 1 then 2 else 0) else 5) else 1
def comH (T : TM) (rm : Int) (ps : List Int) : Int := if comE T rm ps = 0 then T.newH else 0
theorem comE_inv {T : TM} {rm : Int} {ps : List Int} (h : ¬ okPs ps) : comE T rm ps = 1 := if_neg h
theorem comE_bad {T : TM} {rm : Int} {ps : List Int} (h : okPs ps) (h2 : ¬ ∀ y ∈ ps, T.s.opn y = true) : comE T rm ps = 5 := by rw [comE, if_pos h, if_neg h2]
theorem comE_full {T : TM} {rm : Int} {ps : List Int} (h : okPs ps) (h2 : ∀ y ∈ ps, T.s.opn y = true) (h3 : rm < 1) : comE T rm ps = 2 := by rw [comE, if_pos h, if_pos h2, if_pos h3]
theorem comE_ok {T : TM} {rm : Int} {ps : List Int} (h : okPs ps) (h2 : ∀ y ∈ ps, T.s.opn y = true) (h3 : ¬ rm < 1) : comE T rm ps = 0 := by rw [comE, if_pos h, if_pos h2, if_neg h3]
theorem comE_0 {T : TM} {rm : Int} {ps : List Int} (h : comE T rm ps = 0) : okPs ps ∧ (∀ y ∈ ps, T.s.opn y = true) ∧ 1 ≤ rm := by
  by_cases h1 : okPs ps
  · by_cases h2 : ∀ y ∈ ps, T.s.opn y = true
    · by_cases h3 : rm < 1
      · rw [comE_full h1 h2 h3] at h; cases h
      · exact ⟨h1, h2, by omega⟩
    · rw [comE_bad h1 h2] at h; cases h
  · rw [comE_inv h1] at h; cases h
theorem opn_ex {T : TM} {ps : List Int} (h : ¬ ∀ y ∈ ps, T.s.opn y = true) : ∃ y ∈ ps, T.s.opn y = false := by
  refine Classical.byContradiction fun h1 => h fun y hy => ?_
  cases e : T.s.opn y with
  | true => rfl
  | false => exact absurd ⟨y, hy, e⟩ h1
theorem two_same {ps : List Int} (h : ¬ okPs ps) (hl : ps.length ≤ 2) : ∃ y, ps = [y, y] := (okPs_no h).resolve_left (by omega)
theorem room_nn {V : VM} {A : AM} {R : List Int} (h : VI V A R) (hx : (V.xs.length : Int) ≤ V.cap) : 0 ≤ V.room := by
  have h1 := h.cp; have h2 := h.t.s.free_rng
  unfold VM.room; omega
def ComQ (V : VM) (A : AM) (R : List Int) (root : Int) (ps : List Int) (V2 : VM) (A2 : AM) : Prop := (comE V.T V.room ps = 0 ∧ A2 = A.ret root ∧ VI V2 (A.ret root) R ∧ Com V root (ps.map V.T.val) V2) ∨ (comE V.T V.room ps ≠ 0 ∧ A2 = A ∧ V2 = V)
def ComR (z : RSt) (x : LsE) (ps : List Int) (z2 : RSt) : Prop := (comE z.T z.room ps = 0 ∧ ∃ (ra ga oa va pa ba la e : Option Addr) (rc gc oc vc pc bc lc f : Nat), z2 = z.add (ps.map z.T.val) x ra ga oa va pa ba la e rc gc oc vc pc bc lc f) ∨ (comE z.T z.room ps ≠ 0 ∧ z2 = z)
set_option maxRecDepth 8192 in
theorem vs_com {g w : World} {L : List HP} (s a : Nat) (V : VM) (A : AM) (R : List Int) (root : Int) (ps : List Int) (pa : Option Addr) (pc : Nat) (hV : VI V A R) (hr : root = 0 ∨ (1 ≤ root ∧ A.s.ok root = true)) (hhs : ∀ x ∈ ps, 0 ≤ x ∧ x ≤ 18446744073709551615) (hpl : ps.length ≤ 2) (hxl : (V.xs.length : Int) ≤ V.cap) (hla : V.last < 1000000000) (hlen : R.length ≤ 900000000) (hS : St g (Vst s a V :: Arn a A :: Sh 23 1 (u64s ps) pa pc :: L) w) :
    Sp Tryz.prog 127 [.pointer (some ⟨s, 0, none⟩), .int .u32 root, .slice pa (List.length (u64s ps)) pc] w (fun v w' => ∃ (V2 : VM) (A2 : AM), v = .tuple #[.int .u64 (comH V.T V.room ps), .int .i64 (comE V.T V.room ps)] ∧ St g (Vst s a V2 :: Arn a A2 :: Sh 23 1 (u64s ps) pa pc :: L) w' ∧ (ComQ V A R root ps V2 A2)) := by
  by_cases h1 : okPs ps
  · by_cases h2 : ∀ y ∈ ps, V.T.s.opn y = true
    · by_cases h3 : V.room < 1
      · have e := comE_full (T := V.T) h1 h2 h3
        rw [comH, e]
        refine (vs_com_full s a V A R root ps pa pc hV h1 hhs h2 (by have := room_nn hV hxl; omega) (hS.sel 3 [0, 1, 0] rfl)).mono fun v w' ⟨hv, h⟩ => ?_
        exact ⟨V, A, hv, (h.n3 L rfl).sel 3 [0, 1, 0] rfl, .inr ⟨by rw [e]; decide, rfl, rfl⟩⟩
      · have e := comE_ok (T := V.T) h1 h2 h3
        rw [comH, e]
        refine (vs_commit s a V A R root ps pa pc hV hr h1 (fun x hx => ⟨hhs x hx, h2 x hx⟩) (by omega) hla hlen hS).mono fun v w' ⟨V2, hv, h, f1, f2⟩ => ?_
        exact ⟨V2, _, hv, h, .inl ⟨e, rfl, f1, f2⟩⟩
    · have e := comE_bad (T := V.T) (rm := V.room) h1 h2
      rw [comH, e]
      refine (vs_com_bad s a V A R root ps pa pc hV h1 hhs (opn_ex h2) (hS.sel 3 [0, 1, 0] rfl)).mono fun v w' ⟨hv, h⟩ => ?_
      exact ⟨V, A, hv, (h.n3 L rfl).sel 3 [0, 1, 0] rfl, .inr ⟨by rw [e]; decide, rfl, rfl⟩⟩
  · have e := comE_inv (T := V.T) (rm := V.room) h1
    obtain ⟨y, rfl⟩ := two_same h1 hpl
    rw [comH, e]
    refine (vs_com_inv s a V root y pa pc (hS.sel 3 [0, 1, 0] rfl)).mono fun v w' ⟨hv, h⟩ => ?_
    exact ⟨V, A, hv, (h.n3 L rfl).sel 3 [0, 1, 0] rfl, .inr ⟨by rw [e]; decide, rfl, rfl⟩⟩
set_option maxRecDepth 8192 in
theorem vs_snp {g w : World} {L : List HP} (s a : Nat) (V : VM) (A : AM) (R : List Int) (h : Int) (hV : VI V A R) (hh : 0 ≤ h ∧ h ≤ 18446744073709551615) (hxl : (V.xs.length : Int) ≤ V.cap) (hla : V.last < 1000000000) (hlen : R.length ≤ 900000000) (hS : St g (Vst s a V :: Arn a A :: L) w) :
    Sp Tryz.prog 54 [.pointer (some ⟨s, 0, none⟩), .int .u64 h] w (fun v w' => ∃ (V2 : VM) (A2 : AM), v = .tuple #[.int .u64 (comH V.T V.room [h]), .int .i64 (comE V.T V.room [h])] ∧ St g (Vst s a V2 :: Arn a A2 :: L) w' ∧ (ComQ V A R (V.rootOf (V.T.val h)) [h] V2 A2)) := by
  have h1 := okPs_one h
  by_cases hn : V.T.s.opn h = true
  · have h2 : ∀ y ∈ [h], V.T.s.opn y = true := fun x hx => by rw [List.mem_singleton.1 hx]; exact hn
    by_cases h3 : V.room < 1
    · have e := comE_full (T := V.T) h1 h2 h3
      rw [comH, e]
      refine (vs_snap_full s a V A R h hV hh hn (by have := room_nn hV hxl; omega) hS).mono fun v w' ⟨hv, k⟩ => ?_
      exact ⟨V, A, hv, k, .inr ⟨by rw [e]; decide, rfl, rfl⟩⟩
    · have e := comE_ok (T := V.T) h1 h2 h3
      rw [comH, e]
      refine (vs_snap s a V A R h hV hh hn (by omega) hla hlen hS).mono fun v w' ⟨V2, hv, k, f1, f2⟩ => ?_
      exact ⟨V2, _, hv, k, .inl ⟨e, rfl, f1, f2⟩⟩
  · have e := comE_bad (T := V.T) (rm := V.room) (ps := [h]) h1 (fun k => hn (k h (by simp)))
    rw [comH, e]
    refine (vs_snap_bad s a V h hV.t hh (Bool.eq_false_iff.2 hn) hS).mono fun v w' ⟨hv, k⟩ => ?_
    exact ⟨V, A, hv, k, .inr ⟨by rw [e]; decide, rfl, rfl⟩⟩
def RelV (V : VM) (A : AM) (R : List Int) (h : Int) (V2 : VM) (A2 : AM) : Prop := (V.T.s.opn h = true ∧ VI V2 A2 R ∧ Rls V h V2 ∧ A2.s.used.length = A.s.used.length ∧ Kp A A2 (V2.rs.map RN.root ++ R)) ∨ (V.T.s.opn h = false ∧ V2 = V ∧ A2 = A)
def RelR (z : RSt) (h : Int) (z2 : RSt) : Prop := (z.T.s.opn h = true ∧ ∃ (ra oa ba : Option Addr) (rc oc bc : Nat), z2 = z.rel h ra oa ba rc oc bc) ∨ (z.T.s.opn h = false ∧ z2 = z)
set_option maxRecDepth 8192 in
theorem vs_rl {g w : World} {L : List HP} (s a : Nat) (V : VM) (A : AM) (R : List Int) (h : Int) (hV : VI V A R) (hh : 0 ≤ h ∧ h ≤ 18446744073709551615) (hlen : R.length ≤ 800000000) (hS : St g (Vst s a V :: Arn a A :: L) w) :
    Sp Tryz.prog 17 [.pointer (some ⟨s, 0, none⟩), .int .u64 h] w (fun v w' => ∃ (V2 : VM) (A2 : AM), v = .tuple #[.int .i64 (A2.s.free - A.s.free), .int .i64 (if V.T.s.opn h = true then 0 else 5)] ∧ St g (Vst s a V2 :: Arn a A2 :: L) w' ∧ (RelV V A R h V2 A2)) := by
  by_cases hn : V.T.s.opn h = true
  · rw [if_pos hn]
    refine (vs_release s a V A R h hV hh hn hlen hS).mono fun v w' ⟨V2, A2, f, hv, k, f1, f2, f3, f4⟩ => ?_
    exact ⟨V2, A2, by rw [← f3.1]; exact hv, k, .inl ⟨hn, f1, f2, f3.2, f4⟩⟩
  · rw [if_neg hn]
    refine (vs_rel_bad s a V h hV.t hh (Bool.eq_false_iff.2 hn) hS).mono fun v w' ⟨hv, k⟩ => ?_
    exact ⟨V, A, by rw [Int.sub_self]; exact hv, k, .inr ⟨Bool.eq_false_iff.2 hn, rfl, rfl⟩⟩
set_option maxRecDepth 8192 in
theorem vs_rt {g w : World} {L : List HP} (s a : Nat) (V : VM) (A : AM) (R : List Int) (h : Int) (hV : VI V A R) (hh : 0 ≤ h ∧ h ≤ 18446744073709551615) (hS : St g (Vst s a V :: L) w) :
    Sp Tryz.prog 64 [.pointer (some ⟨s, 0, none⟩), .int .u64 h] w (fun v w' => v = .tuple #[.int .u32 (if V.T.s.opn h = true then V.rootOf (V.T.val h) else 0), .int .i64 (if V.T.s.opn h = true then 0 else 5)] ∧ St g (Vst s a V :: L) w') := by
  by_cases hn : V.T.s.opn h = true
  · rw [if_pos hn, if_pos hn]; exact vs_root_ok s a V A R h hV hh hn hS
  · rw [if_neg hn, if_neg hn]; exact vs_root_bad s a V h hV.t hh (Bool.eq_false_iff.2 hn) hS
set_option maxRecDepth 8192 in
theorem qs_com {g w : World} {L : List HP} (z : RSt) (xe : Kvs) (xa : Option Addr) (xc : Nat) (ps : List Int) (pa2 : Option Addr) (pc2 : Nat) (hz : ROk z) (hhs : ∀ y ∈ ps, 0 ≤ y ∧ y ≤ 18446744073709551615) (hpl : ps.length ≤ 2) (hpv : okPs ps → (∀ y ∈ ps, z.T.s.opn y = true) → okPs (List.map z.T.val ps) ∧ ∀ y ∈ ps, liveR z.B (z.T.val y) = true) (hS : St g (Shs rsF [z] :: Sh 121 2 (en2 xe) xa xc :: Sh 23 1 (u64s ps) pa2 pc2 :: L) w) :
    Sp Tryz.prog 68 [.agg #[.int .i64 z.cap, .int .i64 z.T.s.cap, .slice z.ra (List.length (u32s z.T.s.rel)) z.rc, .int .i64 (z.T.s.fresh + 1), .slice z.ga (List.length (u32s (z.T.s.gen.drop 1))) z.gc, .slice z.oa (List.length (bos (z.T.s.used.drop 1))) z.oc, .slice z.va (List.length (u32s (z.T.vals.drop 1))) z.vc, .int .i64 z.cap, .slice z.pa (List.length (enP z.P)) z.pc, .slice z.ba (List.length (bos z.B)) z.bc, .slice z.la (List.length (enL z.LL)) z.lc], .slice xa (List.length (en2 xe)) xc, .slice pa2 (List.length (u64s ps)) pc2] w (fun v w' => ∃ (z2 : RSt), v = .tuple #[.agg #[.int .i64 z2.cap, .int .i64 z2.T.s.cap, .slice z2.ra (List.length (u32s z2.T.s.rel)) z2.rc, .int .i64 (z2.T.s.fresh + 1), .slice z2.ga (List.length (u32s (z2.T.s.gen.drop 1))) z2.gc, .slice z2.oa (List.length (bos (z2.T.s.used.drop 1))) z2.oc, .slice z2.va (List.length (u32s (z2.T.vals.drop 1))) z2.vc, .int .i64 z2.cap, .slice z2.pa (List.length (enP z2.P)) z2.pc, .slice z2.ba (List.length (bos z2.B)) z2.bc, .slice z2.la (List.length (enL z2.LL)) z2.lc], .int .u64 (comH z.T z.room ps), .int .i64 (comE z.T z.room ps)] ∧ St g (Shs rsF [z2] :: Sh 121 2 (en2 xe) xa xc :: Sh 23 1 (u64s ps) pa2 pc2 :: L) w' ∧ (ComR z ⟨xe, xa, xc⟩ ps z2)) := by
  by_cases h1 : okPs ps
  · by_cases h2 : ∀ y ∈ ps, z.T.s.opn y = true
    · by_cases h3 : z.room < 1
      · have e := comE_full (T := z.T) h1 h2 h3
        rw [comH, e]
        exact (qs_com_full z ⟨xe, xa, xc⟩ ps pa2 pc2 hz hhs (by omega) h1 h2 h3 hS).mono fun v w' ⟨hv, k⟩ => ⟨z, hv, k, .inr ⟨by rw [e]; decide, rfl⟩⟩
      · have e := comE_ok (T := z.T) h1 h2 h3
        rw [comH, e]
        refine (qs_com_ok z ⟨xe, xa, xc⟩ ps pa2 pc2 hz hhs (by omega) h1 h2 (hpv h1 h2).1 (hpv h1 h2).2 (by omega) hS).mono fun v w' ⟨ra, ga, oa, va, pa, ba, la, e1, rc, gc, oc, vc, pc, bc, lc, f1, hv, k⟩ => ?_
        exact ⟨_, hv, k, .inl ⟨e, ra, ga, oa, va, pa, ba, la, e1, rc, gc, oc, vc, pc, bc, lc, f1, rfl⟩⟩
    · have e := comE_bad (T := z.T) (rm := z.room) h1 h2
      rw [comH, e]
      exact (qs_com_bad z ⟨xe, xa, xc⟩ ps pa2 pc2 hz hhs (by omega) h1 (opn_ex h2) hS).mono fun v w' ⟨hv, k⟩ => ⟨z, hv, k, .inr ⟨by rw [e]; decide, rfl⟩⟩
  · have e := comE_inv (T := z.T) (rm := z.room) h1
    obtain ⟨y, rfl⟩ := two_same h1 hpl
    rw [comH, e]
    exact (qs_com_inv z ⟨xe, xa, xc⟩ y pa2 pc2 hz hS).mono fun v w' ⟨hv, k⟩ => ⟨z, hv, k, .inr ⟨by rw [e]; decide, rfl⟩⟩
set_option maxRecDepth 8192 in
theorem qs_rl {g w : World} {L : List HP} (z : RSt) (h : Int) (hz : ROk z) (hh : 0 ≤ h ∧ h ≤ 18446744073709551615) (hl : z.T.s.opn h = true → liveR z.B (z.T.val h) = true) (hS : St g (Shs rsF [z] :: L) w) :
    Sp Tryz.prog 69 [.agg #[.int .i64 z.cap, .int .i64 z.T.s.cap, .slice z.ra (List.length (u32s z.T.s.rel)) z.rc, .int .i64 (z.T.s.fresh + 1), .slice z.ga (List.length (u32s (z.T.s.gen.drop 1))) z.gc, .slice z.oa (List.length (bos (z.T.s.used.drop 1))) z.oc, .slice z.va (List.length (u32s (z.T.vals.drop 1))) z.vc, .int .i64 z.cap, .slice z.pa (List.length (enP z.P)) z.pc, .slice z.ba (List.length (bos z.B)) z.bc, .slice z.la (List.length (enL z.LL)) z.lc], .int .u64 h] w (fun v w' => ∃ (z2 : RSt), v = .tuple #[.agg #[.int .i64 z2.cap, .int .i64 z2.T.s.cap, .slice z2.ra (List.length (u32s z2.T.s.rel)) z2.rc, .int .i64 (z2.T.s.fresh + 1), .slice z2.ga (List.length (u32s (z2.T.s.gen.drop 1))) z2.gc, .slice z2.oa (List.length (bos (z2.T.s.used.drop 1))) z2.oc, .slice z2.va (List.length (u32s (z2.T.vals.drop 1))) z2.vc, .int .i64 z2.cap, .slice z2.pa (List.length (enP z2.P)) z2.pc, .slice z2.ba (List.length (bos z2.B)) z2.bc, .slice z2.la (List.length (enL z2.LL)) z2.lc], .int .i64 (if z.T.s.opn h = true then 0 else 5)] ∧ St g (Shs rsF [z2] :: L) w' ∧ (RelR z h z2)) := by
  by_cases hn : z.T.s.opn h = true
  · rw [if_pos hn]
    exact (qs_rel_ok z h hz hh hn (hl hn) hS).mono fun v w' ⟨ra, oa, ba, rc, oc, bc, hv, k⟩ => ⟨_, hv, k, .inl ⟨hn, ra, oa, ba, rc, oc, bc, rfl⟩⟩
  · rw [if_neg hn]
    exact (qs_rel_bad z h hz hh (Bool.eq_false_iff.2 hn) hS).mono fun v w' ⟨hv, k⟩ => ⟨z, hv, k, .inr ⟨Bool.eq_false_iff.2 hn, rfl⟩⟩
set_option maxRecDepth 8192 in
theorem qs_list {g w : World} {L : List HP} (z : RSt) (h : Int) (hz : ROk z) (hh : 0 ≤ h ∧ h ≤ 18446744073709551615) (hx : z.T.s.opn h = true → ∃ (k : Nat) (l : LsE), z.T.val h = (k : Int) + 1 ∧ z.LL[k]? = some l) (hS : St g (Shs rsF [z] :: L) w) :
    Sp Tryz.prog 63 [.agg #[.int .i64 z.cap, .int .i64 z.T.s.cap, .slice z.ra (List.length (u32s z.T.s.rel)) z.rc, .int .i64 (z.T.s.fresh + 1), .slice z.ga (List.length (u32s (z.T.s.gen.drop 1))) z.gc, .slice z.oa (List.length (bos (z.T.s.used.drop 1))) z.oc, .slice z.va (List.length (u32s (z.T.vals.drop 1))) z.vc, .int .i64 z.cap, .slice z.pa (List.length (enP z.P)) z.pc, .slice z.ba (List.length (bos z.B)) z.bc, .slice z.la (List.length (enL z.LL)) z.lc], .int .u64 h] w (fun v w' => ∃ (x : LsE), v = .tuple #[.slice x.a (List.length (en2 x.es)) x.c, .int .i64 (if z.T.s.opn h = true then 0 else 5)] ∧ St g (Shs rsF [z] :: Sh 121 2 (en2 x.es) x.a x.c :: L) w' ∧ ((z.T.s.opn h = true ∧ ∃ k : Nat, z.T.val h = (k : Int) + 1 ∧ z.LL[k]? = some x) ∨ (z.T.s.opn h = false ∧ x = ⟨[], none, 0⟩))) := by
  by_cases hn : z.T.s.opn h = true
  · rw [if_pos hn]
    obtain ⟨k, l, h1, h2⟩ := hx hn
    exact (qs_list_ok z h k l hz hh hn h2 h1 hS).mono fun v w' ⟨hv, q⟩ => ⟨l, hv, q, .inl ⟨hn, k, h1, h2⟩⟩
  · rw [if_neg hn]
    exact (qs_list_bad z h hz hh (Bool.eq_false_iff.2 hn) hS).mono fun v w' ⟨hv, q⟩ => ⟨⟨[], none, 0⟩, hv, ((q.n1 L rfl).nilS 121 2).sel 2 [1, 0] rfl, .inr ⟨Bool.eq_false_iff.2 hn, rfl⟩⟩
theorem WR.opl {V : VM} {A : AM} {R : List Int} {z : RSt} {m : Nat} (h : WR V A R z m) {x : Int} (ho : z.T.s.opn x = true) : ∃ (k : Nat) (l : LsE), z.T.val x = (k : Int) + 1 ∧ z.LL[k]? = some l := by
  rw [h.tt] at ho ⊢
  obtain ⟨k, l, h1, h2, _⟩ := h.open ho
  exact ⟨k, l, h1, h2⟩
theorem WR.liv {V : VM} {A : AM} {R : List Int} {z : RSt} {m : Nat} (h : WR V A R z m) {x : Int} (ho : z.T.s.opn x = true) : liveR z.B (z.T.val x) = true := by
  rw [h.tt] at ho ⊢
  obtain ⟨k, l, _, _, _, _, h6⟩ := h.open ho
  exact h6
theorem WR.pv {V : VM} {A : AM} {R : List Int} {z : RSt} {m : Nat} (h : WR V A R z m) {ps : List Int} (h1 : okPs ps) (h2 : ∀ y ∈ ps, z.T.s.opn y = true) : okPs (ps.map z.T.val) ∧ ∀ y ∈ ps, liveR z.B (z.T.val y) = true := by
  refine ⟨?_, fun y hy => h.liv (h2 y hy)⟩
  rw [h.tt] at h2 ⊢
  exact okPs_map h.vi h1 h2
theorem WR.same {V : VM} {A : AM} {R : List Int} {z : RSt} {m : Nat} (h : WR V A R z m) (ps : List Int) : comE z.T z.room ps = comE V.T V.room ps ∧ comH z.T z.room ps = comH V.T V.room ps := by
  unfold comH
  rw [h.tt, h.room]; exact ⟨rfl, rfl⟩
theorem WR.com {V V2 : VM} {A A2 : AM} {R : List Int} {z z2 : RSt} {m : Nat} {root : Int} {ps : List Int} {x : LsE} (h : WR V A R z m) (hc : ComQ V A R root ps V2 A2) (hr : ComR z x ps z2) (hl : V.last < 800) (ht : comE V.T V.room ps = 0 → TrL A root x.es) (hx : x.es.length ≤ m) : WR V2 A2 R z2 m ∧ V2.last ≤ V.last + 1 ∧ V2.cap = V.cap ∧ A2.s = A.s := by
  have hs := (h.same ps).1
  rcases hc with ⟨h0, rfl, h1, h2⟩ | ⟨h0, rfl, rfl⟩
  · rcases hr with ⟨_, ra, ga, oa, va, pa, ba, la, e, rc, gc, oc, vc, pc, bc, lc, f, rfl⟩ | ⟨h3, _⟩
    · have hv : z.T.val = V.T.val := by rw [h.tt]
      refine ⟨?_, ?_, ?_, (A.ret_same root).1⟩
      · rw [hv]; exact h.add h2 h1 hl (ht h0) hx ra ga oa va pa ba la e rc gc oc vc pc bc lc f
      · obtain ⟨⟨xs2, q, rfl, _⟩, _⟩ := h2; exact Int.le_refl _
      · obtain ⟨⟨xs2, q, rfl, _⟩, _⟩ := h2; rfl
    · exact absurd (hs.trans h0) h3
  · rcases hr with ⟨h3, _⟩ | ⟨_, rfl⟩
    · exact absurd (hs.symm.trans h3) h0
    · exact ⟨h, by omega, rfl, rfl⟩
theorem WR.rls {V V2 : VM} {A A2 : AM} {R : List Int} {z z2 : RSt} {m : Nat} {hd : Int} (h : WR V A R z m) (hc : RelV V A R hd V2 A2) (hr : RelR z hd z2) : WR V2 A2 R z2 m ∧ V2.last = V.last ∧ V2.cap = V.cap ∧ A2.s.used.length = A.s.used.length := by
  have hs : z.T.s.opn hd = V.T.s.opn hd := by rw [h.tt]
  rcases hc with ⟨h0, h1, h2, h3, h4⟩ | ⟨h0, rfl, rfl⟩
  · rcases hr with ⟨_, ra, oa, ba, rc, oc, bc, rfl⟩ | ⟨h5, _⟩
    · exact ⟨h.rel h0 h2 h1 h4 ra oa ba rc oc bc, (by have h9 := congrArg VM.last h2.eq; exact h9), (by have h9 := congrArg VM.cap h2.eq; exact h9), h3⟩
    · rw [hs, h0] at h5; cases h5
  · rcases hr with ⟨h5, _⟩ | ⟨_, rfl⟩
    · rw [hs, h0] at h5; cases h5
    · exact ⟨h, rfl, rfl, rfl⟩
end Go.Proofs.YtbeacjcmdijdmaaGreat
/-! ## Md -/
namespace Go.Proofs.YtbeacjcmdijdmaaGreat
open Go Go.V
set_option maxRecDepth 8192 in
theorem md_spec {g w : World} {L : List HP} (k n : Int) (hk : -9223372036854775808 ≤ k ∧ k ≤ 9223372036854775807) (hn : 0 < n ∧ n ≤ 9223372036854775807) (hS : St g (L) w) :
    Sp Tryz.prog 24 [.int .i64 k, .int .i64 n] w (fun v w' => v = .int .i64 (k % n) ∧ St g (L) w') := by
  refine Sp.enter Tryz.func24 rfl (by kernel_rfl) (by kernel_rfl) ?_
  have _ := hk
  refine WC.seq <| WC.region <| WL.r 1 rfl <| WL.nil <| WC.seq <| WC.region ?_
  obtain ⟨m, rfl⟩ : ∃ m : Nat, n = Int.ofNat (m + 1) := ⟨n.toNat - 1, by simp; omega⟩; have htm := tm_lt (k := k) (n := Int.ofNat (m + 1)) hn.1
  refine WL.r 3 rfl <| WL.r 1 rfl <| WL.nil <| WC.seq <| WC.seq <| WC.region <| WL.r 2 rfl <| WL.nil <| WC.ifP rfl (fun cd1 => ?_) (fun cd1 => ?_)
  · refine WC.region <| WL.r 3 rfl <| WL.nw 13 rfl (w64 (by omega)) ?_
    refine WL.r 1 rfl <| WL.nil <| WC.seq <| WC.region <| WL.r 2 rfl <| WL.nil ?_
    as_aux_lemma =>
    refine WC.ret ?_
    refine ⟨[.int .i64 ((Int.tmod k (Int.ofNat (m + 1))) + (Int.ofNat (m + 1)))], rfl, ?_⟩
    rw [tm_neg hn.1 cd1]; exact ⟨rfl, hS⟩
  · refine WC.skip <| WC.seq <| WC.region <| WL.r 2 rfl <| WL.nil <| WC.ret ?_
    refine ⟨[.int .i64 (Int.tmod k (Int.ofNat (m + 1)))], rfl, ?_⟩
    rw [tm_pos hn.1 cd1]; exact ⟨rfl, hS⟩
end Go.Proofs.YtbeacjcmdijdmaaGreat
/-! ## Li -/
namespace Go.Proofs.YtbeacjcmdijdmaaGreat
open Go Go.V
def lpart (k z : Int) (l : Kvs) (put : Bool) : Kvs := l.filter (fun x => decide (x.1 < k)) ++ (if put then (k, z) :: l.filter (fun x => decide (k < x.1)) else [])
structure LP (k z : Int) (l : Kvs) (j : Nat) (put : Bool) (out : Kvs) : Prop where
  eq : out = lpart k z (l.take j) put
  no : put = false → ∀ x ∈ l.take j, x.1 < k
  yes : put = true → ∃ x ∈ l.take j, k ≤ x.1
theorem LP.zero (k z : Int) (l : Kvs) : LP k z l 0 false [] := ⟨by simp [lpart], fun _ x hx => by simp at hx, fun h => by cases h⟩
theorem take_next {l : Kvs} {j : Nat} {e : Int × Int} (h : l[j]? = some e) : l.take (j + 1) = l.take j ++ [e] := by rw [List.take_add_one, h]; rfl
theorem LP.less {k z : Int} {l : Kvs} {j : Nat} {out : Kvs} {e : Int × Int} (h : LP k z l j false out) (he : l[j]? = some e) (hlt : e.1 < k) : LP k z l (j + 1) false (out ++ [e]) := by
  refine ⟨?_, fun _ x hx => ?_, fun h => by cases h⟩
  · rw [h.eq, take_next he]
    simp [lpart, List.filter_append, hlt]
  · rw [take_next he] at hx
    rcases List.mem_append.1 hx with hx | hx
    · exact h.no rfl x hx
    · rw [List.mem_singleton.1 hx]; exact hlt
theorem LP.eq_ {k z : Int} {l : Kvs} {j : Nat} {out : Kvs} {e : Int × Int} (h : LP k z l j false out) (he : l[j]? = some e) (hk : e.1 = k) : LP k z l (j + 1) true (out ++ [(k, z)]) := by
  refine ⟨?_, fun h => (by cases h), fun _ => ⟨e, by rw [take_next he]; simp, by omega⟩⟩
  rw [h.eq, take_next he]
  have h1 : (l.take j).filter (fun x => decide (k < x.1)) = [] := filter_no fun x hx => decide_eq_false (by have := h.no rfl x hx; omega)
  simp [lpart, List.filter_append, hk, h1]
theorem LP.more {k z : Int} {l : Kvs} {j : Nat} {out : Kvs} {e : Int × Int} (h : LP k z l j false out) (he : l[j]? = some e) (hk : k < e.1) : LP k z l (j + 1) true (out ++ [(k, z)] ++ [e]) := by
  refine ⟨?_, fun h => (by cases h), fun _ => ⟨e, by rw [take_next he]; simp, by omega⟩⟩
  rw [h.eq, take_next he]
  have h1 : (l.take j).filter (fun x => decide (k < x.1)) = [] := filter_no fun x hx => decide_eq_false (by have := h.no rfl x hx; omega)
  simp [lpart, List.filter_append, hk, h1, show ¬ e.1 < k by omega]
theorem LP.gt {k z : Int} {l : Kvs} {j : Nat} {out : Kvs} {e : Int × Int} (h : LP k z l j true out) (hs : Srt l) (he : l[j]? = some e) : k < e.1 := by
  obtain ⟨x, hx, hxk⟩ := h.yes rfl
  obtain ⟨i, hi⟩ := List.mem_iff_getElem?.1 hx
  have hij : i < j := by
    have := (List.getElem?_eq_some_iff.1 hi).1
    rw [List.length_take] at this; omega
  rw [List.getElem?_take, if_pos hij] at hi
  have h1 := (List.getElem?_eq_some_iff.1 hi).1
  have h2 := (List.getElem?_eq_some_iff.1 he).1
  have := List.pairwise_iff_getElem.1 hs i j h1 h2 hij
  rw [(List.getElem?_eq_some_iff.1 hi).2, (List.getElem?_eq_some_iff.1 he).2] at this
  omega
theorem LP.rest {k z : Int} {l : Kvs} {j : Nat} {out : Kvs} {e : Int × Int} (h : LP k z l j true out) (hs : Srt l) (he : l[j]? = some e) : LP k z l (j + 1) true (out ++ [e]) := by
  have hgt := h.gt hs he
  refine ⟨?_, fun h => (by cases h), fun _ => ?_⟩
  · rw [h.eq, take_next he]
    simp [lpart, List.filter_append, hgt, show ¬ e.1 < k by omega]
  · obtain ⟨x, hx, hxk⟩ := h.yes rfl
    exact ⟨x, by rw [take_next he]; exact List.mem_append_left _ hx, hxk⟩
theorem LP.end_t {k z : Int} {l out : Kvs} {j : Nat} (h : LP k z l j true out) (hj : l.length ≤ j) : out = lins k z l := by
  rw [h.eq, List.take_of_length_le hj]; rfl
theorem LP.end_f {k z : Int} {l out : Kvs} {j : Nat} (h : LP k z l j false out) (hj : l.length ≤ j) : out ++ [(k, z)] = lins k z l := by
  have h1 := h.no rfl
  rw [h.eq]
  rw [List.take_of_length_le hj] at h1 ⊢
  have h2 : l.filter (fun x => decide (k < x.1)) = [] := filter_no fun x hx => decide_eq_false (by have := h1 x hx; omega)
  simp [lpart, lins, h2]
theorem LP.len {k z : Int} {l out : Kvs} {j : Nat} {put : Bool} (h : LP k z l j put out) : out.length ≤ 2 * l.length + 1 := by
  rw [h.eq]
  unfold lpart
  have h1 := List.length_filter_le (fun x : Int × Int => decide (x.1 < k)) (l.take j)
  have h2 := List.length_filter_le (fun x : Int × Int => decide (k < x.1)) (l.take j)
  have h3 : (l.take j).length ≤ l.length := by simp; omega
  rw [List.length_append]
  split <;> simp only [List.length_cons, List.length_nil] <;> omega
set_option maxHeartbeats 1000000 in
set_option maxRecDepth 8192 in
theorem ref_ins {g w : World} {L : List HP} (l : Kvs) (u : Option Addr) (d : Nat) (k z : Int) (hs : Srt l) (hl : l.length ≤ 1000000) (hS : St g (Sh 121 2 (en2 l) u d :: L) w) :
    Sp Tryz.prog 48 [.slice u (List.length (en2 l)) d, .agg #[.int .i64 k, .int .i64 z]] w (fun v w' => ∃ (a2 : Option Addr) (c2 : Nat), v = .slice a2 (List.length (en2 (lins k z l))) c2 ∧ St g (Own 121 2 (en2 (lins k z l)) a2 c2 :: Sh 121 2 (en2 l) u d :: L) w') := by
  refine Sp.enter Tryz.func48 rfl (by kernel_rfl) (by kernel_rfl) ?_
  have _ := hl
  refine WC.seq <| WC.region ?_
  have hll := en2_len l
  refine WL.box rfl rfl #[.int .i64 k, .int .i64 z] hS rfl rfl (fun b1 w hS => ?_)
  refine WL.r 1 rfl <| WL.nil <| WC.seq <| WC.region <| WL.r 1 rfl <| WL.nil <| WC.seq <| WC.region <| WL.r 1 rfl <| WL.nil <| WC.seq <| WC.seq ?_
  refine WC.region <| WL.r 1 rfl <| WL.nil <| WC.block ?_
  replace hS := hS.nil_ 121 2
  refine WC.loop [0, 3, 4, 5, 6, 7] (fun kM vs w => ∃ (j : Nat) (put : Bool) (out : Kvs) (ua : Option Addr) (uc : Nat), vs = [.slice u (List.length (en2 l)) d, .pointer (some ⟨b1, 0, none⟩), .slice none 0 0, .slice ua (List.length (en2 out)) uc, .bool put, .int .i64 (j : Int)] ∧ St g (Own 121 2 (en2 out) ua uc :: cel b1 #[.int .i64 k, .int .i64 z] 121 :: Sh 121 2 (en2 l) u d :: L) w ∧ (j ≤ l.length) ∧ (LP k z l j put out) ∧ (l.length - j) = kM) ((List.length l) - 0) ⟨0, false, [], none, 0, rfl, hS, (Nat.zero_le _), (LP.zero k z l), rfl⟩ ?_
  clear hS; rintro _ _ w j ⟨j, put, out, ua, uc, rfl, hS, hj, hP, rfl⟩
  refine WC.seq <| WC.seq <| WC.region <| WL.r 4 rfl <| WL.nil ?_
  as_aux_lemma =>
  refine WC.ifP rfl (fun cd1 => ?_) (fun cd1 => ?_)
  · refine WC.skip <| WC.seq <| WC.block <| WC.seq <| WC.seq <| WC.plan [([0, 1, 2, 3, 4, 8, 5, 9, 6, 7, 10, 11], none)] (by kernel_rfl) (by kernel_rfl) ?_
    obtain ⟨e, he⟩ : ∃ e, l[j]? = some e := ⟨_, List.getElem?_eq_getElem (by omega)⟩; have hol := hP.len; have hoe := en2_len out
    refine WQ.r 2 rfl <| WQ.r 1 rfl ?_
    by_cases cg1 : (! put) = true
    · refine WQ.reb 16 (.bool true) (congrArg Value.bool cg1) <| WQ.ung rfl rfl rfl <| WQ.r 1 rfl <| WQ.ung rfl rfl rfl <| WQ.r 1 rfl <| WQ.ung rfl rfl rfl <| WQ.r 1 rfl <| WQ.ung rfl rfl rfl <| WQ.ix rfl rfl (i := (j : Int)) (j) el_49 rfl rfl (by omega) (by omega) (hS.rdS 2 rfl (en2_at he)).1 ?_
      refine WQ.ung rfl rfl rfl <| WQ.run 1 [.int .i64 k] rfl (by exact hS.ld 1 rfl rfl) ?_
      refine WQ.ung rfl rfl rfl <| WQ.r 1 rfl <| WQ.ung rfl rfl rfl <| WQ.run 1 [.int .i64 e.1] rfl (by exact (hS.rdS 2 rfl (en2_at he)).2 0 _ rfl) ?_
      refine WQ.ung rfl rfl rfl <| WQ.r 2 rfl <| WQ.nil ?_
      intro m1
      replace hS := hS.drewN m1; generalize hwm1 : World.drewN _ _ = w at *; clear hwm1
      as_aux_lemma =>
      refine WC.ifP rfl (fun cd2 => ?_) (fun cd2 => ?_)
      · refine WC.seq <| WC.region <| WL.r 1 rfl <| WL.ldF rfl rfl 1 hS rfl rfl ag_121 <| WL.lit rfl rfl (en2 [(k, z)]) el_49 hS (by exact ⟨rfl, rfl⟩) (en2_ok _) rfl (Nat.le_of_ble_eq_true rfl) (fun b2 w hS => ?_)
        refine WL.app rfl rfl 1 (en2 (out ++ [(k, z)])) el_49 hS rfl (hS.srcO 0 rfl) (en2_app _ _).symm (Rm.of (by first | omega | (simp <;> omega)) (by decide)) rfl rfl (fun a1 c1 w hS => ?_)
        replace hS := hS.n4 L (a0 := Own 121 2 (en2 [(k, z)]) (some ⟨b2, 0, none⟩) (List.length (en2 [(k, z)]))) (a1 := Own 121 2 (en2 (out ++ [(k, z)])) a1 c1) rfl
        refine WL.r 1 rfl <| WL.nil <| WC.region <| WL.r 1 rfl <| WL.nil <| WC.seq <| WC.plan [([0, 1, 5, 6], some (2, [5, 6])), ([3, 4, 7], none)] (by kernel_rfl) (by kernel_rfl) ?_
        refine WQ.run 4 [.int .i64 k] rfl (by exact hS.ld 2 rfl rfl) ?_
        refine WQ.nil ?_
        intro m2
        replace hS := hS.drewN m2; generalize hwm2 : World.drewN _ _ = w at *; clear hwm2
        refine WL.ix rfl rfl (i := (j : Int)) (j) el_49 rfl rfl (by omega) (by omega) (hS.rdS 3 rfl (en2_at he)).1 ?_
        refine WL.nil ?_
        refine ⟨by exact ⟨RQ.pure rfl rfl rfl rfl, RQ.load rfl rfl rfl rfl (hS.ld 2 rfl rfl)⟩, ?_⟩
        refine WQ.run 3 [.int .i64 e.1] rfl (by exact (hS.rdS 3 rfl (en2_at he)).2 0 _ rfl) ?_
        refine WQ.nil ?_
        intro m3
        replace hS := hS.drewN m3; generalize hwm3 : World.drewN _ _ = w at *; clear hwm3
        as_aux_lemma =>
        refine WC.ifP rfl (fun cd3 => ?_) (fun cd3 => ?_)
        · refine WC.region <| WL.r 3 rfl <| WL.ix rfl rfl (i := (j : Int)) (j) el_49 rfl rfl (by omega) (by omega) (hS.rdS 3 rfl (en2_at he)).1 ?_
          refine WL.ldC rfl rfl [.int .i64 e.1, .int .i64 e.2] ag_121 rfl (hS.rdS 3 rfl (en2_at he)).2 <| WL.lit rfl rfl (en2 [(e.1, e.2)]) el_49 hS (by exact ⟨rfl, rfl⟩) (en2_ok _) rfl (Nat.le_of_ble_eq_true rfl) (fun b3 w hS => ?_)
          refine WL.app rfl rfl 2 (en2 ((out ++ [(k, z)]) ++ [(e.1, e.2)])) el_49 hS rfl (hS.srcO 0 rfl) (en2_app _ _).symm (Rm.of (by first | omega | (simp <;> omega)) (by decide)) rfl rfl (fun a2 c2 w hS => ?_)
          replace hS := hS.n5 L (a0 := Own 121 2 (en2 [(e.1, e.2)]) (some ⟨b3, 0, none⟩) (List.length (en2 [(e.1, e.2)]))) (a2 := Own 121 2 (en2 ((out ++ [(k, z)]) ++ [(e.1, e.2)])) a2 c2) rfl
          refine WL.r 1 rfl <| WL.nil <| WC.region <| WL.r 2 rfl <| WL.nw 13 rfl (w64 (by omega)) ?_
          refine WL.r 1 rfl <| WL.nil ?_
          exact ⟨_, by omega, j + 1, true, out ++ [(k, z)] ++ [(e.1, e.2)], a2, c2, rfl, (hS.sel 2 [] rfl), (by omega), (by have hp : put = false := (by simpa using cg1); subst hp; exact hP.more he (by omega)), rfl⟩
        · refine WC.skip <| WC.region <| WL.r 2 rfl <| WL.nw 13 rfl (w64 (by omega)) ?_
          refine WL.r 1 rfl <| WL.nil ?_
          exact ⟨_, by omega, j + 1, true, out ++ [(k, z)], a1, c1, rfl, (hS.sel 1 [] rfl), (by omega), (by have hp : put = false := (by simpa using cg1); subst hp; exact hP.eq_ he (by omega)), rfl⟩
      · refine WC.skip <| WC.seq <| WC.plan [([0, 1, 5, 6], some (2, [5, 6])), ([3, 4, 7], none)] (by kernel_rfl) (by kernel_rfl) ?_
        refine WQ.run 4 [.int .i64 k] rfl (by exact hS.ld 1 rfl rfl) ?_
        refine WQ.nil ?_
        intro m2
        replace hS := hS.drewN m2; generalize hwm2 : World.drewN _ _ = w at *; clear hwm2
        refine WL.ix rfl rfl (i := (j : Int)) (j) el_49 rfl rfl (by omega) (by omega) (hS.rdS 2 rfl (en2_at he)).1 ?_
        refine WL.nil ?_
        refine ⟨by exact ⟨RQ.pure rfl rfl rfl rfl, RQ.load rfl rfl rfl rfl (hS.ld 1 rfl rfl)⟩, ?_⟩
        refine WQ.run 3 [.int .i64 e.1] rfl (by exact (hS.rdS 2 rfl (en2_at he)).2 0 _ rfl) ?_
        refine WQ.nil ?_
        intro m3
        replace hS := hS.drewN m3; generalize hwm3 : World.drewN _ _ = w at *; clear hwm3
        refine WC.ifP rfl (fun cd3 => ?_) (fun cd3 => ?_)
        · refine WC.region <| WL.r 3 rfl <| WL.ix rfl rfl (i := (j : Int)) (j) el_49 rfl rfl (by omega) (by omega) (hS.rdS 2 rfl (en2_at he)).1 ?_
          refine WL.ldC rfl rfl [.int .i64 e.1, .int .i64 e.2] ag_121 rfl (hS.rdS 2 rfl (en2_at he)).2 <| WL.lit rfl rfl (en2 [(e.1, e.2)]) el_49 hS (by exact ⟨rfl, rfl⟩) (en2_ok _) rfl (Nat.le_of_ble_eq_true rfl) (fun b2 w hS => ?_)
          refine WL.app rfl rfl 1 (en2 (out ++ [(e.1, e.2)])) el_49 hS rfl (hS.srcO 0 rfl) (en2_app _ _).symm (Rm.of (by first | omega | (simp <;> omega)) (by decide)) rfl rfl (fun a1 c1 w hS => ?_)
          replace hS := hS.n4 L (a0 := Own 121 2 (en2 [(e.1, e.2)]) (some ⟨b2, 0, none⟩) (List.length (en2 [(e.1, e.2)]))) (a1 := Own 121 2 (en2 (out ++ [(e.1, e.2)])) a1 c1) rfl
          refine WL.r 1 rfl <| WL.nil ?_
          as_aux_lemma =>
          refine WC.region <| WL.r 2 rfl <| WL.nw 13 rfl (w64 (by omega)) ?_
          refine WL.r 1 rfl <| WL.nil ?_
          exact ⟨_, by omega, j + 1, put, out ++ [(e.1, e.2)], a1, c1, rfl, (hS.sel 1 [] rfl), (by omega), (by have hp : put = false := (by simpa using cg1); subst hp; exact hP.less he (by omega)), rfl⟩
        · refine WC.skip <| WC.region <| WL.r 2 rfl <| WL.nw 13 rfl (w64 (by omega)) ?_
          refine WL.r 1 rfl <| WL.nil ?_
          exact ⟨_, by omega, j + 1, put, out, ua, uc, rfl, hS, (by omega), (by exfalso; omega), rfl⟩
    · refine WQ.reb 16 (.bool false) (congrArg Value.bool (Bool.eq_false_iff.2 cg1)) <| WQ.skp rfl rfl rfl rfl <| WQ.skp rfl rfl rfl rfl <| WQ.skp rfl rfl rfl rfl <| WQ.skp rfl rfl rfl rfl <| WQ.skp rfl rfl rfl rfl <| WQ.skp rfl rfl rfl rfl <| WQ.skp rfl rfl rfl rfl <| WQ.skp rfl rfl rfl rfl <| WQ.r 1 rfl <| WQ.nil ?_
      intro m1
      replace hS := hS.drewN m1; generalize hwm1 : World.drewN _ _ = w at *; clear hwm1
      refine WC.ifF rfl rfl <| WC.skip ?_
      as_aux_lemma =>
      refine WC.seq <| WC.plan [([0, 1, 5, 6], some (2, [5, 6])), ([3, 4, 7], none)] (by kernel_rfl) (by kernel_rfl) ?_
      refine WQ.run 4 [.int .i64 k] rfl (by exact hS.ld 1 rfl rfl) ?_
      refine WQ.nil ?_
      intro m2
      replace hS := hS.drewN m2; generalize hwm2 : World.drewN _ _ = w at *; clear hwm2
      refine WL.ix rfl rfl (i := (j : Int)) (j) el_49 rfl rfl (by omega) (by omega) (hS.rdS 2 rfl (en2_at he)).1 ?_
      refine WL.nil ?_
      refine ⟨by exact ⟨RQ.pure rfl rfl rfl rfl, RQ.load rfl rfl rfl rfl (hS.ld 1 rfl rfl)⟩, ?_⟩
      refine WQ.run 3 [.int .i64 e.1] rfl (by exact (hS.rdS 2 rfl (en2_at he)).2 0 _ rfl) ?_
      refine WQ.nil ?_
      intro m3
      replace hS := hS.drewN m3; generalize hwm3 : World.drewN _ _ = w at *; clear hwm3
      refine WC.ifP rfl (fun cd2 => ?_) (fun cd2 => ?_)
      · refine WC.region <| WL.r 3 rfl <| WL.ix rfl rfl (i := (j : Int)) (j) el_49 rfl rfl (by omega) (by omega) (hS.rdS 2 rfl (en2_at he)).1 ?_
        refine WL.ldC rfl rfl [.int .i64 e.1, .int .i64 e.2] ag_121 rfl (hS.rdS 2 rfl (en2_at he)).2 <| WL.lit rfl rfl (en2 [(e.1, e.2)]) el_49 hS (by exact ⟨rfl, rfl⟩) (en2_ok _) rfl (Nat.le_of_ble_eq_true rfl) (fun b2 w hS => ?_)
        refine WL.app rfl rfl 1 (en2 (out ++ [(e.1, e.2)])) el_49 hS rfl (hS.srcO 0 rfl) (en2_app _ _).symm (Rm.of (by first | omega | (simp <;> omega)) (by decide)) rfl rfl (fun a1 c1 w hS => ?_)
        replace hS := hS.n4 L (a0 := Own 121 2 (en2 [(e.1, e.2)]) (some ⟨b2, 0, none⟩) (List.length (en2 [(e.1, e.2)]))) (a1 := Own 121 2 (en2 (out ++ [(e.1, e.2)])) a1 c1) rfl
        refine WL.r 1 rfl <| WL.nil <| WC.region <| WL.r 2 rfl <| WL.nw 13 rfl (w64 (by omega)) ?_
        refine WL.r 1 rfl <| WL.nil ?_
        exact ⟨_, by omega, j + 1, put, out ++ [(e.1, e.2)], a1, c1, rfl, (hS.sel 1 [] rfl), (by omega), (by have hp : put = true := (by simpa using cg1); subst hp; exact hP.rest hs he), rfl⟩
      · refine WC.skip <| WC.region <| WL.r 2 rfl <| WL.nw 13 rfl (w64 (by omega)) ?_
        refine WL.r 1 rfl <| WL.nil ?_
        exact ⟨_, by omega, j + 1, put, out, ua, uc, rfl, hS, (by omega), (by have hp : put = true := (by simpa using cg1); subst hp; have := hP.gt hs he; exfalso; omega), rfl⟩
  · refine WC.exit <| WC.seq <| WC.seq <| WC.region ?_
    have hol2 := hP.len; have hoe2 := en2_len out
    refine WL.r 2 rfl <| WL.nil <| WC.if_ rfl (fun cd2 => ?_) (fun cd2 => ?_)
    · refine WC.region <| WL.r 1 rfl <| WL.ldF rfl rfl 1 hS rfl rfl ag_121 <| WL.lit rfl rfl (en2 [(k, z)]) el_49 hS (by exact ⟨rfl, rfl⟩) (en2_ok _) rfl (Nat.le_of_ble_eq_true rfl) (fun b2 w hS => ?_)
      refine WL.app rfl rfl 1 (en2 (out ++ [(k, z)])) el_49 hS rfl (hS.srcO 0 rfl) (en2_app _ _).symm (Rm.of (by first | omega | (simp <;> omega)) (by decide)) rfl rfl (fun a1 c1 w hS => ?_)
      replace hS := hS.n4 L (a0 := Own 121 2 (en2 [(k, z)]) (some ⟨b2, 0, none⟩) (List.length (en2 [(k, z)]))) (a1 := Own 121 2 (en2 (out ++ [(k, z)])) a1 c1) rfl
      refine WL.r 1 rfl <| WL.nil <| WC.seq <| WC.region <| WL.r 2 rfl <| WL.nil <| WC.ret ?_
      refine ⟨[.slice a1 (List.length (en2 (out ++ [(k, z)]))) c1], rfl, ?_⟩
      replace hS := (hS.sel 3 [1] rfl)
      have hp : put = false := (by simpa using cd2); subst hp; have e9 := hP.end_f (by omega); rw [e9] at hS ⊢; exact ⟨_, _, rfl, hS⟩
    · refine WC.skip <| WC.seq <| WC.region <| WL.r 2 rfl <| WL.nil <| WC.ret ?_
      refine ⟨[.slice ua (List.length (en2 out)) uc], rfl, ?_⟩
      replace hS := (hS.sel 2 [0] rfl)
      have hp : put = true := (by simpa using cd2); subst hp; have e9 := hP.end_t (by omega); rw [e9] at hS ⊢; exact ⟨_, _, rfl, hS⟩
end Go.Proofs.YtbeacjcmdijdmaaGreat
/-! ## K1 -/
namespace Go.Proofs.YtbeacjcmdijdmaaGreat
open Go Go.V
set_option maxRecDepth 8192 in
theorem kb_bal {g w : World} {L : List HP} (x y : Int) (hx : 0 ≤ x ∧ x ≤ 2000000000) (hy : 0 ≤ y ∧ y ≤ 2000000000) (hS : St g (L) w) :
    Sp Tryz.prog 200 [.int .i64 x, .int .i64 y] w (fun v w' => v = .bool (decide (x + 1 ≤ 3 * (y + 1) ∧ y + 1 ≤ 3 * (x + 1))) ∧ St g (L) w') := by
  refine Sp.enter Tryz.func200 rfl (by kernel_rfl) (by kernel_rfl) ?_
  have _ := hy
  have _ := hx
  refine WC.seq <| WC.region <| WL.r 1 rfl <| WL.nil <| WC.seq <| WC.seq <| WC.region <| WL.r 2 rfl <| WL.rG 12 rfl (fun j => ?_)
  refine WL.prop 18 rfl (bor (bor (bor (dd _) (dd _)) (dd _)) (dd _)) <| WL.nil <| WC.ifF rfl (decide_eq_false ((by omega))) ?_
  refine WC.skip <| WC.seq <| WC.region <| WL.r 2 rfl <| WL.nw 20 rfl (w64 (by omega)) ?_
  refine WL.r 2 rfl <| WL.nw 22 rfl (w64 (by omega)) ?_
  refine WL.r 1 rfl <| WL.nw 23 rfl (w64 (by omega)) ?_
  refine WL.r 1 rfl <| WL.rG 9 rfl (fun j => ?_)
  refine WL.prop 32 rfl (band (dd _) (dd _)) <| WL.nil ?_
  as_aux_lemma =>
  refine WC.ret ?_
  refine ⟨[.bool (bif (decide ((x + 1) ≤ (3 * (y + 1)))) then (decide ((IntKind.i64.wrap (y + 1)) ≤ (IntKind.i64.wrap (3 * (IntKind.i64.wrap (x + 1)))))) else false)], rfl, ?_⟩
  exact ⟨congrArg Value.bool (by rw [w64 (z := y + 1) (by omega), w64 (z := x + 1) (by omega), w64 (z := 3 * (x + 1)) (by omega), bif_and]), hS⟩
end Go.Proofs.YtbeacjcmdijdmaaGreat
/-! ## K2 -/
namespace Go.Proofs.YtbeacjcmdijdmaaGreat
open Go Go.V
def mkL (raw : Kvs) (k : Nat) : Kvs := (raw.take k).foldl (fun l e => lins e.1 e.2 l) []
theorem mkL_succ {raw : Kvs} {k : Nat} {e : Int × Int} (h : raw[k]? = some e) : mkL raw (k + 1) = lins e.1 e.2 (mkL raw k) := by
  unfold mkL
  rw [List.take_add_one, h, List.foldl_append]; rfl
theorem mkL_srt (raw : Kvs) : ∀ k, Srt (mkL raw k) ∧ (mkL raw k).length ≤ k
  | 0 => ⟨List.Pairwise.nil, Nat.le_refl _⟩
  | k + 1 => by
    obtain ⟨h1, h2⟩ := mkL_srt raw k
    cases h : raw[k]? with
    | none =>
      have : mkL raw (k + 1) = mkL raw k := by unfold mkL; rw [List.take_add_one, h]; simp
      rw [this]; exact ⟨h1, by omega⟩
    | some e =>
      rw [mkL_succ h, lins_len h1]
      exact ⟨lins_srt h1, by split <;> omega⟩
theorem mkL_end {raw : Kvs} {k m : Nat} (h : ¬ (k < raw.length ∧ k < m)) (hk : k ≤ raw.length ∧ k ≤ m) : mkL raw k = mkL raw m := by
  unfold mkL
  by_cases h1 : k = m
  · rw [h1]
  · rw [List.take_of_length_le (show raw.length ≤ k by omega), List.take_of_length_le (show raw.length ≤ m by omega)]
set_option maxRecDepth 8192 in
theorem kt_list {g w : World} {L : List HP} (raw : Kvs) (u : Option Addr) (d : Nat) (most : Int) (hm : 0 ≤ most ∧ most ≤ 1000) (hS : St g (Sh 121 2 (en2 raw) u d :: L) w) :
    Sp Tryz.prog 26 [.slice u (List.length (en2 raw)) d, .int .i64 most] w (fun v w' => ∃ (a2 : Option Addr) (c2 : Nat), v = .slice a2 (List.length (en2 (mkL raw most.toNat))) c2 ∧ St g (Own 121 2 (en2 (mkL raw most.toNat)) a2 c2 :: Sh 121 2 (en2 raw) u d :: L) w') := by
  refine Sp.enter Tryz.func26 rfl (by kernel_rfl) (by kernel_rfl) ?_
  refine WC.seq <| WC.region <| WL.r 1 rfl <| WL.nil <| WC.seq <| WC.region ?_
  have hll := en2_len raw
  refine WL.r 1 rfl <| WL.nil <| WC.seq <| WC.seq <| WC.region <| WL.r 1 rfl <| WL.nil <| WC.block ?_
  replace hS := hS.nil_ 121 2
  refine WC.loop [0, 1, 4, 5, 6] (fun kM vs w => ∃ (k : Nat) (m : Kvs) (ua : Option Addr) (uc : Nat), vs = [.slice u (List.length (en2 raw)) d, .int .i64 most, .slice none 0 0, .slice ua (List.length (en2 m)) uc, .int .i64 (k : Int)] ∧ St g (Own 121 2 (en2 m) ua uc :: Sh 121 2 (en2 raw) u d :: L) w ∧ (k ≤ raw.length ∧ k ≤ most) ∧ (m = mkL raw k) ∧ (raw.length - k) = kM) ((List.length raw) - 0) ⟨0, [], none, 0, rfl, hS, (by omega), (rfl), rfl⟩ ?_
  clear hS; rintro _ _ w j ⟨k, m, ua, uc, rfl, hS, hk, hm, rfl⟩
  refine WC.seq <| WC.seq <| WC.region <| WL.r 4 rfl <| WL.rG 5 rfl (fun j => ?_)
  refine WL.prop 15 rfl (band (dd _) (dd _)) <| WL.nil ?_
  as_aux_lemma =>
  refine WC.ifP rfl (fun cd1 => ?_) (fun cd1 => ?_)
  · refine WC.skip <| WC.seq <| WC.block <| WC.region <| WL.r 3 rfl ?_
    obtain ⟨e, he⟩ : ∃ e, raw[k]? = some e := ⟨_, List.getElem?_eq_getElem (by omega)⟩; have hms := mkL_srt raw k; rw [← hm] at hms
    refine WL.ix rfl rfl (i := (k : Int)) (k) el_49 rfl rfl (by omega) (by omega) (hS.rdS 1 rfl (en2_at he)).1 ?_
    refine WL.ldC rfl rfl [.int .i64 e.1, .int .i64 e.2] ag_121 rfl (hS.rdS 1 rfl (en2_at he)).2 ?_
    replace hS := (hS.at_ 0 rfl).share
    replace hS := hS.n2 L (a0 := Sh 121 2 (en2 m) ua uc) rfl
    refine WL.call rfl rfl (ref_ins (l := m) (u := ua) (d := uc) (k := e.1) (z := e.2) (hs := hms.1) (hl := (by omega)) (hS := hS)) rfl ?_
    clear hS; rintro _ w ⟨a1, c1, rfl, hS⟩
    replace hS := hS.n3 L (a0 := Own 121 2 (en2 (lins e.1 e.2 m)) a1 c1) rfl
    refine WL.r 1 rfl <| WL.nil <| WC.region <| WL.r 2 rfl <| WL.nw 17 rfl (w64 (by omega)) ?_
    refine WL.r 1 rfl <| WL.nil ?_
    exact ⟨_, by omega, k + 1, lins e.1 e.2 m, a1, c1, rfl, (hS.sel 2 [0] rfl), (by omega), (by rw [hm, mkL_succ he]), rfl⟩
  · refine WC.exit <| WC.seq <| WC.region <| WL.r 2 rfl <| WL.nil <| WC.ret ?_
    refine ⟨[.slice ua (List.length (en2 m)) uc], rfl, ?_⟩
    have e9 := mkL_end (raw := raw) (k := k) (m := most.toNat) (by omega) ⟨hk.1, by omega⟩; rw [← hm] at e9; rw [e9] at hS ⊢; exact ⟨_, _, rfl, hS⟩
end Go.Proofs.YtbeacjcmdijdmaaGreat
