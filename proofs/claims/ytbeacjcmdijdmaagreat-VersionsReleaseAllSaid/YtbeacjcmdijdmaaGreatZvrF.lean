/-
  The row of VersionsReleaseAll: for every input the law returns true, and the arguments read as before.
  Conditions: none.
-/
import Derived.Test.YtbeacjcmdijdmaaGreatZvrE
/-! ## U3 -/
namespace Go.Proofs.YtbeacjcmdijdmaaGreat
open Go Go.V Go.RowKit
theorem pick_ix (x : Int) {n m1 m2 : Nat} (h1 : n = m1 + 1) (h2 : m2 + 1 ≤ n) : ∃ j : Nat, (j : Int) = (n : Int) - 1 - x % Int.ofNat (m1 + 1) % Int.ofNat (m2 + 1) ∧ j < n ∧ 0 ≤ x % Int.ofNat (m1 + 1) % Int.ofNat (m2 + 1) ∧ x % Int.ofNat (m1 + 1) % Int.ofNat (m2 + 1) ≤ (m2 : Int) := by
  have h4 := Int.emod_nonneg (x % Int.ofNat (m1 + 1)) (b := Int.ofNat (m2 + 1)) (by first | (simp; done) | (simp; omega))
  have h5 := Int.emod_lt_of_pos (x % Int.ofNat (m1 + 1)) (b := Int.ofNat (m2 + 1)) (by first | (simp; done) | (simp; omega))
  generalize x % Int.ofNat (m1 + 1) % Int.ofNat (m2 + 1) = y at *
  have h6 : Int.ofNat (m2 + 1) = (m2 : Int) + 1 := rfl
  exact ⟨((n : Int) - 1 - y).toNat, by omega, by omega, h4, by omega⟩
structure StB (V : VM) (A : AM) (hs : List Int) (n : Nat) : Prop where
  la : V.last ≤ n
  hl : hs.length ≤ n
  hr : ∀ y ∈ hs, 0 ≤ y ∧ y ≤ 18446744073709551615
  ac : A.s.used.length = 2501
theorem StB.mono {V : VM} {A : AM} {hs : List Int} {n : Nat} (h : StB V A hs n) : StB V A hs (n + 1) := ⟨by have := h.la; omega, by have := h.hl; omega, h.hr, h.ac⟩
theorem root_any {V : VM} {A : AM} {R : List Int} {z : RSt} {m : Nat} (h : WR V A R z m) (x : Int) : (if V.T.s.opn x = true then V.rootOf (V.T.val x) else 0) = 0 ∨ (1 ≤ (if V.T.s.opn x = true then V.rootOf (V.T.val x) else 0) ∧ A.s.ok (if V.T.s.opn x = true then V.rootOf (V.T.val x) else 0) = true) := by
  by_cases ho : V.T.s.opn x = true
  · rw [if_pos ho]; exact root_ok h.vi ho
  · rw [if_neg ho]; exact .inl rfl
theorem two_rng {x y : Int} (hx : 0 ≤ x ∧ x ≤ 18446744073709551615) (hy : 0 ≤ y ∧ y ≤ 18446744073709551615) : ∀ q ∈ [x, y], 0 ≤ q ∧ q ≤ 18446744073709551615 := fun q hq => by
  simp only [List.mem_cons, List.not_mem_nil, or_false] at hq
  rcases hq with rfl | rfl
  · exact hx
  · exact hy
theorem comH_rng {V : VM} {A : AM} {R : List Int} (h : VI V A R) (ps : List Int) : 0 ≤ comH V.T V.room ps ∧ comH V.T V.room ps ≤ 18446744073709551615 := by
  unfold comH
  split
  · rename_i h0
    exact (TM.newH_mod h.t (room_pos h (by have := (comE_0 h0).2.2; omega)).2).2
  · omega
theorem in_snoc {hs : List Int} {k : Int} (h : ∀ y ∈ hs, 0 ≤ y ∧ y ≤ 18446744073709551615) (hk : 0 ≤ k ∧ k ≤ 18446744073709551615) : ∀ y ∈ hs ++ [k], 0 ≤ y ∧ y ≤ 18446744073709551615 := fun y hy => by
  rcases List.mem_append.1 hy with hy | hy
  · exact h y hy
  · rw [List.mem_singleton.1 hy]; exact hk
theorem StB.of {V V2 : VM} {A A2 : AM} {hs hs2 : List Int} {n : Nat} (h : StB V A hs n) (h1 : V2.last ≤ V.last + 1) (h2 : A2.s.used.length = A.s.used.length) (h3 : hs2.length ≤ hs.length + 1) (h4 : ∀ y ∈ hs2, 0 ≤ y ∧ y ≤ 18446744073709551615) : StB V2 A2 hs2 (n + 1) := ⟨by have := h.la; omega, by have := h.hl; omega, h4, h2.trans h.ac⟩
theorem xs_le {V : VM} {A : AM} {R : List Int} (h : VI V A R) : (V.xs.length : Int) ≤ V.last := by
  have h1 := nodup_bnd V.last.toNat (V.xs.map VN.n) (List.pairwise_map.2 h.g.ok.uniq) fun n hn => by
    obtain ⟨x, hx, rfl⟩ := List.mem_map.1 hn
    have h2 := h.g.le x hx
    have h3 := h.g.ok.pos x.n (by rw [vw_mem h.g.ok.uniq hx]; rfl)
    omega
  have := h.g.la
  rw [List.length_map] at h1; omega
theorem WR.free {V : VM} {A : AM} {z : RSt} {hs : List Int} {n : Nat} (h : WR V A [] z 52) (hB : StB V A hs n) (hn : n ≤ 40) : 420 ≤ A.s.free := by
  have h1 := h.used
  have h2 := rs_len h.vi
  have h3 := xs_le h.vi
  have h4 := hB.la
  have h5 : V.rs.length * 52 ≤ 40 * 52 := Nat.mul_le_mul_right _ (by omega)
  have h6 : A.s.cap = 2500 := by show (A.s.used.length : Int) - 1 = 2500; rw [hB.ac]; rfl
  omega
theorem WR.rl {V : VM} {A : AM} {R : List Int} {z : RSt} {m : Nat} (h : WR V A R z m) : V.rs.length ≤ 900 := by
  have h2 := rs_len h.vi
  have h3 := xs_le h.vi
  have h4 := h.la
  omega
theorem WR.rtn {V : VM} {A : AM} {z : RSt} {m : Nat} (h : WR V A [] z m) {rt : Int} (hr : rt = 0 ∨ (1 ≤ rt ∧ A.s.ok rt = true)) : WR V (A.ret rt) [rt] z m :=
  h.ar ((AM.ret_eq h.vi.ref hr (by have := h.rl; simp; omega)).1.perm (by simpa using (List.perm_append_comm (l₁ := [rt]) (l₂ := List.map RN.root V.rs)))) (Kp.ret A rt _)
theorem WR.one {V : VM} {A B : AM} {z : RSt} {m : Nat} {i : Int} {t : Tr} {c : Nat} (h : WR V A [] z m) (hT : TOp A B (V.rs.map RN.root ++ []) i t c) : WR V B [i] z m :=
  h.ar (hT.ref.perm (by simpa using (List.perm_append_comm (l₁ := [i]) (l₂ := List.map RN.root V.rs)))) (hT.kp.sub fun r hr => List.mem_append_left _ hr)
theorem WR.lst {V : VM} {A : AM} {R : List Int} {z : RSt} {m : Nat} (h : WR V A R z m) {x : Int} {l : LsE} (h1 : (z.T.s.opn x = true ∧ ∃ k : Nat, z.T.val x = (k : Int) + 1 ∧ z.LL[k]? = some l) ∨ (z.T.s.opn x = false ∧ l = ⟨[], none, 0⟩)) : l.es.length ≤ m ∧ Srt l.es ∧ (V.T.s.opn x = true → TrL A (V.rootOf (V.T.val x)) l.es) := by
  rcases h1 with ⟨h1, k, h2, h3⟩ | ⟨h1, rfl⟩
  · refine ⟨(h.sz l (List.mem_of_getElem? h3)).1, (h.sz l (List.mem_of_getElem? h3)).2, fun ho => ?_⟩
    obtain ⟨k', l', h4, h5, h6, _⟩ := h.open ho
    have e : z.T.val x = V.T.val x := by rw [h.tt]
    have ek : k = k' := by omega
    subst ek
    rw [h3] at h5
    rw [Option.some.inj h5]; exact h6
  · exact ⟨Nat.zero_le _, List.Pairwise.nil, fun ho => by rw [h.tt, ho] at h1; cases h1⟩
theorem ya_0 {b : Bool} (h : ¬ (if b = true then (0 : Int) else 5) ≠ 0) : b = true := by
  cases b with
  | true => rfl
  | false => exact absurd (by decide) h
set_option maxRecDepth 8192 in
theorem pick_spec {g w : World} {L : List HP} (kd ca cb : Int) (es : Kvs) (ea : Option Addr) (ec : Nat) (rb : Bool) (x : Int) (hs : List Int) (u : Option Addr) (d : Nat) (hx : 0 ≤ x ∧ x ≤ 18446744073709551615) (hhs : ∀ y ∈ hs, 0 ≤ y ∧ y ≤ 18446744073709551615) (hhl : hs.length ≤ 1000) (hS : St g (Own 23 1 (u64s hs) u d :: L) w) :
    Sp Tryz.prog 62 [.agg #[.int .i64 kd, .int .u64 ca, .int .u64 cb, .slice ea (List.length (en2 es)) ec, .bool rb], .int .u64 x, .slice u (List.length (u64s hs)) d] w (fun v w' => ∃ (y : Int), v = .int .u64 y ∧ St g (Own 23 1 (u64s hs) u d :: L) w' ∧ (0 ≤ y ∧ y ≤ 18446744073709551615)) := by
  refine Sp.enter Tryz.func62 rfl (by kernel_rfl) (by kernel_rfl) ?_
  have _ := hhl
  refine WC.seq <| WC.region ?_
  have hul := u64s_len hs
  refine WL.box rfl rfl #[.int .i64 kd, .int .u64 ca, .int .u64 cb, .slice ea (List.length (en2 es)) ec, .bool rb] hS rfl rfl (fun b1 w hS => ?_)
  refine WL.r 1 rfl <| WL.nil <| WC.seq <| WC.seq <| WC.region <| WL.run 2 [.bool rb] rfl (by exact hS.ld 0 rfl rfl) ?_
  refine WL.rG 5 rfl (fun j => ?_)
  refine WL.prop 13 rfl (bor (dv _) (dd _)) <| WL.nil <| WC.ifP rfl (fun cd1 => ?_) (fun cd1 => ?_)
  · refine WC.seq <| WC.region <| WL.r 2 rfl <| WL.nil <| WC.ret ?_
    refine ⟨[.int .u64 x], rfl, ?_⟩
    replace hS := (hS.sel 1 [] rfl)
    exact ⟨_, rfl, hS, hx⟩
  · refine WC.skip <| WC.seq <| WC.region ?_
    obtain ⟨m1, hm1⟩ : ∃ m : Nat, hs.length = m + 1 := ⟨hs.length - 1, by omega⟩; obtain ⟨m2, hm2⟩ : ∃ m : Nat, min hs.length 9 = m + 1 := ⟨min hs.length 9 - 1, by omega⟩; obtain ⟨j, hj, hjl, hp1, hp2⟩ := pick_ix x hm1 (show m2 + 1 ≤ hs.length by omega); obtain ⟨y, hy⟩ : ∃ y, hs[j]? = some y := ⟨_, List.getElem?_eq_getElem hjl⟩; have ho1 : Int.ofNat (m1 + 1) = (m1 : Int) + 1 := rfl; have ho2 : Int.ofNat (m2 + 1) = (m2 : Int) + 1 := rfl; have hyr := hhs y (List.mem_of_getElem? hy); have hp0 := Int.emod_nonneg x (b := Int.ofNat (m1 + 1)) (by omega)
    refine WL.r 4 rfl <| WL.nw 18 rfl (wu64 (by omega)) ?_
    refine WL.r 1 rfl <| WL.nw 19 rfl (wu64 (by omega)) ?_
    refine WL.r 4 rfl <| WL.reb 23 (.int .u64 (Int.ofNat (m1 + 1))) (congrArg (Value.int .u64) (by rw [wu64 (by omega)]; omega)) ?_
    refine WL.r 1 rfl <| WL.reb 24 (.int .u64 (x % (Int.ofNat (m1 + 1)))) (congrArg (Value.int .u64) (Int.tmod_eq_emod_of_nonneg (a := x) (by omega))) ?_
    refine WL.r 4 rfl <| WL.reb 28 (.int .u64 (Int.ofNat (m2 + 1))) (congrArg (Value.int .u64) (by show IntKind.u64.wrap (min ((List.length (u64s hs) : Nat) : Int) 9) = _; rw [wu64 (by omega)]; omega)) ?_
    refine WL.r 1 rfl <| WL.reb 29 (.int .u64 ((x % (Int.ofNat (m1 + 1))) % (Int.ofNat (m2 + 1)))) (congrArg (Value.int .u64) (Int.tmod_eq_emod_of_nonneg (a := x % (Int.ofNat (m1 + 1))) (by omega))) ?_
    refine WL.r 1 rfl <| WL.nw 30 rfl (wu64 (by omega)) ?_
    refine WL.ix rfl rfl (i := ((List.length (u64s hs) : Int) - 1) - ((x % (Int.ofNat (m1 + 1))) % (Int.ofNat (m2 + 1)))) (j) el_45 rfl rfl (by omega) (by omega) (hS.rdO 1 rfl (u64s_at hy)).1 ?_
    refine WL.run 2 [.int .u64 y] rfl (by exact (hS.rdO 1 rfl (u64s_at hy)).2 0 _ rfl) ?_
    refine WL.nil ?_
    as_aux_lemma =>
    refine WC.ret ?_
    refine ⟨[.int .u64 y], rfl, ?_⟩
    replace hS := (hS.sel 1 [] rfl)
    exact ⟨_, rfl, hS, hyr⟩
set_option maxRecDepth 8192 in
theorem wcommit {g w : World} {L : List HP} (p s a : Nat) (V : VM) (A : AM) (z : RSt) (m : Nat) (hs : List Int) (u : Option Addr) (d : Nat) (root : Int) (xe : Kvs) (xa : Option Addr) (xc : Nat) (ps : List Int) (pa : Option Addr) (pc : Nat) (hW : WR V A [root] z m) (hx : xe.length ≤ m) (ht : comE V.T V.room ps = 0 → TrL A root xe) (hps : ∀ y ∈ ps, 0 ≤ y ∧ y ≤ 18446744073709551615) (hpl : ps.length ≤ 2) (hla : V.last ≤ 100) (hhs : ∀ y ∈ hs, 0 ≤ y ∧ y ≤ 18446744073709551615) (hhl : hs.length ≤ 1000) (hS : St g (cel p #[.pointer (some ⟨s, 0, none⟩), .int .i64 z.cap, .int .i64 z.T.s.cap, .slice z.ra (List.length (u32s z.T.s.rel)) z.rc, .int .i64 (z.T.s.fresh + 1), .slice z.ga (List.length (u32s (z.T.s.gen.drop 1))) z.gc, .slice z.oa (List.length (bos (z.T.s.used.drop 1))) z.oc, .slice z.va (List.length (u32s (z.T.vals.drop 1))) z.vc, .int .i64 z.cap, .slice z.pa (List.length (enP z.P)) z.pc, .slice z.ba (List.length (bos z.B)) z.bc, .slice z.la (List.length (enL z.LL)) z.lc, .slice u (List.length (u64s hs)) d] 47 :: Own 23 1 (u64s hs) u d :: Vst s a V :: Arn a A :: Shs rsF [z] :: Sh 121 2 (en2 xe) xa xc :: Sh 23 1 (u64s ps) pa pc :: L) w) :
    Sp Tryz.prog 67 [.pointer (some ⟨p, 0, none⟩), .int .u32 root, .slice xa (List.length (en2 xe)) xc, .slice pa (List.length (u64s ps)) pc] w (fun v w' => ∃ (V2 : VM) (A2 : AM) (z2 : RSt) (hs2 : List Int) (u2 : Option Addr) (d2 : Nat), v = .bool true ∧ St g (cel p #[.pointer (some ⟨s, 0, none⟩), .int .i64 z2.cap, .int .i64 z2.T.s.cap, .slice z2.ra (List.length (u32s z2.T.s.rel)) z2.rc, .int .i64 (z2.T.s.fresh + 1), .slice z2.ga (List.length (u32s (z2.T.s.gen.drop 1))) z2.gc, .slice z2.oa (List.length (bos (z2.T.s.used.drop 1))) z2.oc, .slice z2.va (List.length (u32s (z2.T.vals.drop 1))) z2.vc, .int .i64 z2.cap, .slice z2.pa (List.length (enP z2.P)) z2.pc, .slice z2.ba (List.length (bos z2.B)) z2.bc, .slice z2.la (List.length (enL z2.LL)) z2.lc, .slice u2 (List.length (u64s hs2)) d2] 47 :: Own 23 1 (u64s hs2) u2 d2 :: Vst s a V2 :: Arn a A2 :: Shs rsF [z2] :: L) w' ∧ (WR V2 A2 [] z2 m) ∧ (V2.last ≤ V.last + 1 ∧ V2.cap = V.cap ∧ A2.s.used.length = A.s.used.length) ∧ (hs2.length ≤ hs.length + 1 ∧ ∀ y ∈ hs2, 0 ≤ y ∧ y ≤ 18446744073709551615)) := by
  refine Sp.enter Tryz.func67 rfl (by kernel_rfl) (by kernel_rfl) ?_
  have _ := hhl
  have _ := hla
  refine WC.seq <| WC.region ?_
  have hrk := hW.rok; have hul := u64s_len hs
  refine WL.r 1 rfl <| WL.nil <| WC.seq <| WC.region <| WL.run 6 [.pointer (some ⟨s, 0, none⟩)] rfl (by exact hS.ld 0 rfl rfl) ?_
  refine WL.call rfl rfl (vs_com (s := s) (a := a) (V := V) (A := A) (R := [root]) (root := root) (ps := ps) (pa := pa) (pc := pc) (hV := hW.vi) (hr := hW.vi.ref.ref root (by simp)) (hhs := hps) (hpl := hpl) (hxl := hW.xl) (hla := (by omega)) (hlen := (by simp)) (hS := (hS.sel 7 [2, 2, 4, 0, 0, 0, 0] rfl))) rfl ?_
  clear hS; rintro _ w ⟨V1, A1, rfl, hS, f1⟩
  replace hS := hS.n7 L (a0 := Vst s a V1) (a1 := Arn a A1) rfl
  refine WL.r 5 rfl <| WL.nil <| WC.seq <| WC.region <| WL.r 3 rfl <| WL.ldC rfl rfl [.int .i64 z.cap, .int .i64 z.T.s.cap, .slice z.ra (List.length (u32s z.T.s.rel)) z.rc, .int .i64 (z.T.s.fresh + 1), .slice z.ga (List.length (u32s (z.T.s.gen.drop 1))) z.gc, .slice z.oa (List.length (bos (z.T.s.used.drop 1))) z.oc, .slice z.va (List.length (u32s (z.T.vals.drop 1))) z.vc, .int .i64 z.cap, .slice z.pa (List.length (enP z.P)) z.pc, .slice z.ba (List.length (bos z.B)) z.bc, .slice z.la (List.length (enL z.LL)) z.lc] ag_43 rfl (hS.part 3 rfl rfl) <| WL.r 2 rfl <| WL.call rfl rfl (qs_com (z := z) (xe := xe) (xa := xa) (xc := xc) (ps := ps) (pa2 := pa) (pc2 := pc) (hz := hrk) (hhs := hps) (hpl := hpl) (hpv := hW.pv) (hS := (hS.sel 7 [5, 5, 2, 0, 0, 0, 0] rfl))) rfl ?_
  clear hS; rintro _ w ⟨z1, rfl, hS, f2⟩
  replace hS := hS.n7 L (a0 := Shs rsF [z1]) rfl
  refine WL.r 4 rfl <| WL.new rfl rfl zv_43 hS (fun b1 w hS => ?_)
  refine WL.stF rfl rfl rfl 0 hS rfl rfl rfl rfl rfl ag_43 (fun w hS => ?_)
  replace hS := hS.n8 L (a0 := cel b1 #[.int .i64 z1.cap, .int .i64 z1.T.s.cap, .slice z1.ra (List.length (u32s z1.T.s.rel)) z1.rc, .int .i64 (z1.T.s.fresh + 1), .slice z1.ga (List.length (u32s (z1.T.s.gen.drop 1))) z1.gc, .slice z1.oa (List.length (bos (z1.T.s.used.drop 1))) z1.oc, .slice z1.va (List.length (u32s (z1.T.vals.drop 1))) z1.vc, .int .i64 z1.cap, .slice z1.pa (List.length (enP z1.P)) z1.pc, .slice z1.ba (List.length (bos z1.B)) z1.bc, .slice z1.la (List.length (enL z1.LL)) z1.lc] 43) rfl
  refine WL.r 2 rfl <| WL.nil ?_
  as_aux_lemma =>
  refine WC.seq <| WC.seq <| WC.region ?_
  obtain ⟨hW1, hl1, hc1, hs1⟩ := hW.com f1 f2 (by omega) ht hx
  refine WL.run 4 [.pointer (some ⟨s, 0, none⟩)] rfl (by exact hS.ld 6 rfl rfl) ?_
  refine WL.call rfl rfl (vs_arena (s := s) (a := a) (V := V1)  (hS := (hS.sel 5 [4, 0, 0, 0, 0] rfl))) rfl ?_
  clear hS; rintro _ w ⟨rfl, hS⟩
  replace hS := hS.n8 L rfl
  refine WL.r 1 rfl <| WL.call rfl rfl (tr_rel (a := a) (A := A1) (R := List.map RN.root V1.rs ++ []) (i := root) (hA := hW1.vi.ref.perm (by simp)) (hR := (by have := hW1.rl; simp; omega)) (hS := (hS.sel 6 [5, 0, 0, 0, 0, 0] rfl))) rfl ?_
  clear hS; rintro _ w ⟨A2, f3, rfl, hS, f4, f5⟩
  replace hS := hS.n8 L (a0 := Arn a A2) rfl
  refine WL.r 5 rfl <| WL.nil <| WC.seq <| WC.region <| WL.r 2 rfl <| WL.nil <| WC.ifF rfl (by decide) ?_
  refine WC.skip <| WC.seq <| WC.region <| WL.r 1 rfl <| WL.ldF rfl rfl 2 hS rfl rfl ag_43 <| WL.r 2 rfl <| WL.stP (ds := #[.pointer (some ⟨s, 0, none⟩), .int .i64 z1.cap, .int .i64 z1.T.s.cap, .slice z1.ra (List.length (u32s z1.T.s.rel)) z1.rc, .int .i64 (z1.T.s.fresh + 1), .slice z1.ga (List.length (u32s (z1.T.s.gen.drop 1))) z1.gc, .slice z1.oa (List.length (bos (z1.T.s.used.drop 1))) z1.oc, .slice z1.va (List.length (u32s (z1.T.vals.drop 1))) z1.vc, .int .i64 z1.cap, .slice z1.pa (List.length (enP z1.P)) z1.pc, .slice z1.ba (List.length (bos z1.B)) z1.bc, .slice z1.la (List.length (enL z1.LL)) z1.lc, .slice u (List.length (u64s hs)) d]) rfl rfl rfl 6 hS rfl rfl rfl rfl (Nat.le_of_ble_eq_true rfl) rfl ag_43 (fun w hS => ?_)
  replace hS := hS.n8 L (a6 := cel p #[.pointer (some ⟨s, 0, none⟩), .int .i64 z1.cap, .int .i64 z1.T.s.cap, .slice z1.ra (List.length (u32s z1.T.s.rel)) z1.rc, .int .i64 (z1.T.s.fresh + 1), .slice z1.ga (List.length (u32s (z1.T.s.gen.drop 1))) z1.gc, .slice z1.oa (List.length (bos (z1.T.s.used.drop 1))) z1.oc, .slice z1.va (List.length (u32s (z1.T.vals.drop 1))) z1.vc, .int .i64 z1.cap, .slice z1.pa (List.length (enP z1.P)) z1.pc, .slice z1.ba (List.length (bos z1.B)) z1.bc, .slice z1.la (List.length (enL z1.LL)) z1.lc, .slice u (List.length (u64s hs)) d] 47) rfl
  refine WL.nil ?_
  as_aux_lemma =>
  refine WC.seq <| WC.seq <| WC.region <| WL.r 2 rfl <| WL.nil <| WC.ifP rfl (fun cd2 => ?_) (fun cd2 => ?_)
  · refine WC.seq <| WC.region <| WL.run 5 [.slice u (List.length (u64s hs)) d] rfl (by exact hS.ld 6 rfl rfl) ?_
    refine WL.lit rfl rfl (u64s [comH z.T z.room ps]) el_45 hS (by exact ⟨rfl, rfl⟩) (u64s_ok _) rfl (Nat.le_of_ble_eq_true rfl) (fun b2 w hS => ?_)
    refine WL.app rfl rfl 8 (u64s (hs ++ [comH z.T z.room ps])) el_45 hS rfl (hS.srcO 0 rfl) (u64s_app _ _).symm (Rm.of (by first | omega | (simp <;> omega)) (by decide)) rfl rfl (fun a1 c1 w hS => ?_)
    replace hS := hS.n9 L (a0 := Own 23 1 (u64s [comH z.T z.room ps]) (some ⟨b2, 0, none⟩) (List.length (u64s [comH z.T z.room ps]))) (a8 := Own 23 1 (u64s (hs ++ [comH z.T z.room ps])) a1 c1) rfl
    refine WL.r 1 rfl <| WL.nil <| WC.region <| WL.r 4 rfl <| WL.st rfl rfl rfl 7 hS rfl rfl rfl rfl rfl rfl (fun w hS => ?_)
    replace hS := hS.n9 L (a7 := cel p #[.pointer (some ⟨s, 0, none⟩), .int .i64 z1.cap, .int .i64 z1.T.s.cap, .slice z1.ra (List.length (u32s z1.T.s.rel)) z1.rc, .int .i64 (z1.T.s.fresh + 1), .slice z1.ga (List.length (u32s (z1.T.s.gen.drop 1))) z1.gc, .slice z1.oa (List.length (bos (z1.T.s.used.drop 1))) z1.oc, .slice z1.va (List.length (u32s (z1.T.vals.drop 1))) z1.vc, .int .i64 z1.cap, .slice z1.pa (List.length (enP z1.P)) z1.pc, .slice z1.ba (List.length (bos z1.B)) z1.bc, .slice z1.la (List.length (enL z1.LL)) z1.lc, .slice a1 (List.length (u64s (hs ++ [comH z.T z.room ps]))) c1] 47) rfl
    refine WL.nil <| WC.seq <| WC.region <| WL.r 3 rfl <| WL.rG 6 rfl (fun j => ?_)
    refine WL.prop 74 rfl (band (dd _) (dd _)) <| WL.nil ?_
    as_aux_lemma =>
    refine WC.ret ?_
    refine ⟨[.bool (bif (decide ((comH V.T V.room ps) = (comH z.T z.room ps))) then (decide ((comE V.T V.room ps) = (comE z.T z.room ps))) else false)], rfl, ?_⟩
    replace hS := (hS.sel 9 [7, 7, 2, 1, 2] rfl)
    exact ⟨V1, A2, z1, _, _, _, congrArg Value.bool (by rw [(hW.same ps).1, (hW.same ps).2]; simp), hS, hW1.ar f4.ref (f4.kp.sub (fun r hr => List.mem_append_left _ hr)), ⟨hl1, hc1, f4.cap.trans (congrArg (fun q => List.length (SM.used q)) hs1)⟩, by simp, in_snoc hhs (by rw [(hW.same ps).2]; exact comH_rng hW.vi ps)⟩
  · refine WC.skip <| WC.seq <| WC.region <| WL.r 3 rfl <| WL.rG 6 rfl (fun j => ?_)
    refine WL.prop 74 rfl (band (dd _) (dd _)) <| WL.nil <| WC.ret ?_
    refine ⟨[.bool (bif (decide ((comH V.T V.room ps) = (comH z.T z.room ps))) then (decide ((comE V.T V.room ps) = (comE z.T z.room ps))) else false)], rfl, ?_⟩
    replace hS := (hS.sel 8 [6, 6, 1, 0, 1] rfl)
    exact ⟨V1, A2, z1, _, _, _, congrArg Value.bool (by rw [(hW.same ps).1, (hW.same ps).2]; simp), hS, hW1.ar f4.ref (f4.kp.sub (fun r hr => List.mem_append_left _ hr)), ⟨hl1, hc1, f4.cap.trans (congrArg (fun q => List.length (SM.used q)) hs1)⟩, by simp, hhs⟩
set_option maxHeartbeats 2000000 in
set_option maxRecDepth 8192 in
theorem wstep {g w : World} {L : List HP} (p s a : Nat) (V : VM) (A : AM) (z : RSt) (n : Nat) (hs : List Int) (u : Option Addr) (d : Nat) (kd ca cb : Int) (es : Kvs) (ea : Option Addr) (ec : Nat) (rb : Bool) (hW : WR V A [] z (12 + n)) (hB : StB V A hs n) (hn : n < 40) (hkd : -9223372036854775808 ≤ kd ∧ kd ≤ 9223372036854775807) (hca : 0 ≤ ca ∧ ca ≤ 18446744073709551615) (hcb : 0 ≤ cb ∧ cb ≤ 18446744073709551615) (hel : es.length ≤ maxLen) (hS : St g (cel p #[.pointer (some ⟨s, 0, none⟩), .int .i64 z.cap, .int .i64 z.T.s.cap, .slice z.ra (List.length (u32s z.T.s.rel)) z.rc, .int .i64 (z.T.s.fresh + 1), .slice z.ga (List.length (u32s (z.T.s.gen.drop 1))) z.gc, .slice z.oa (List.length (bos (z.T.s.used.drop 1))) z.oc, .slice z.va (List.length (u32s (z.T.vals.drop 1))) z.vc, .int .i64 z.cap, .slice z.pa (List.length (enP z.P)) z.pc, .slice z.ba (List.length (bos z.B)) z.bc, .slice z.la (List.length (enL z.LL)) z.lc, .slice u (List.length (u64s hs)) d] 47 :: Own 23 1 (u64s hs) u d :: Vst s a V :: Arn a A :: Shs rsF [z] :: Sh 121 2 (en2 es) ea ec :: L) w) :
    Sp Tryz.prog 13 [.pointer (some ⟨p, 0, none⟩), .agg #[.int .i64 kd, .int .u64 ca, .int .u64 cb, .slice ea (List.length (en2 es)) ec, .bool rb]] w (fun v w' => ∃ (V2 : VM) (A2 : AM) (z2 : RSt) (hs2 : List Int) (u2 : Option Addr) (d2 : Nat), v = .bool true ∧ St g (cel p #[.pointer (some ⟨s, 0, none⟩), .int .i64 z2.cap, .int .i64 z2.T.s.cap, .slice z2.ra (List.length (u32s z2.T.s.rel)) z2.rc, .int .i64 (z2.T.s.fresh + 1), .slice z2.ga (List.length (u32s (z2.T.s.gen.drop 1))) z2.gc, .slice z2.oa (List.length (bos (z2.T.s.used.drop 1))) z2.oc, .slice z2.va (List.length (u32s (z2.T.vals.drop 1))) z2.vc, .int .i64 z2.cap, .slice z2.pa (List.length (enP z2.P)) z2.pc, .slice z2.ba (List.length (bos z2.B)) z2.bc, .slice z2.la (List.length (enL z2.LL)) z2.lc, .slice u2 (List.length (u64s hs2)) d2] 47 :: Own 23 1 (u64s hs2) u2 d2 :: Vst s a V2 :: Arn a A2 :: Shs rsF [z2] :: Sh 121 2 (en2 es) ea ec :: L) w' ∧ (WR V2 A2 [] z2 (12 + (n + 1))) ∧ (StB V2 A2 hs2 (n + 1) ∧ V2.cap = V.cap)) := by
  refine Sp.enter Tryz.func13 rfl (by kernel_rfl) (by kernel_rfl) ?_
  have _ := hn
  refine WC.seq <| WC.region <| WL.box rfl rfl #[.int .i64 kd, .int .u64 ca, .int .u64 cb, .slice ea (List.length (en2 es)) ec, .bool rb] hS rfl rfl (fun b1 w hS => ?_)
  refine WL.r 1 rfl <| WL.nil <| WC.seq <| WC.region ?_
  have hrk := hW.rok; have hW52 := hW.up (m2 := 52) (by omega); have hfr := hW52.free hB (by omega); have hhl := hB.hl; have hla := hB.la; have hell := en2_len es; have hrl := hW.rl; have htt := hW.tt; have hmx : es.length ≤ 9223372036854775807 := hel
  refine WL.run 4 [.pointer (some ⟨s, 0, none⟩)] rfl (by exact hS.ld 1 rfl rfl) ?_
  refine WL.call rfl rfl (vs_arena (s := s) (a := a) (V := V)  (hS := (hS.sel 4 [3, 0, 0, 0] rfl))) rfl ?_
  clear hS; rintro _ w ⟨rfl, hS⟩
  replace hS := hS.n7 L (a1 := cel b1 #[.int .i64 kd, .int .u64 ca, .int .u64 cb, .slice ea (List.length (en2 es)) ec, .bool rb] 51) rfl
  refine WL.r 1 rfl <| WL.nil <| WC.seq <| WC.plan [([0, 1, 3, 8, 9, 11, 2, 4, 10, 12, 5, 13, 6, 14], some (7, [8, 9, 10, 11, 12, 13, 14])), ([], some (15, [])), ([16, 17], none)] (by kernel_rfl) (by kernel_rfl) ?_
  refine WQ.ldF rfl rfl 1 hS rfl rfl ag_51 <| WQ.r 2 rfl <| WQ.ldF rfl rfl 1 hS rfl rfl ag_51 <| WQ.run 10 [.int .u64 ca, .int .u64 cb, .slice u (List.length (u64s hs)) d, .slice u (List.length (u64s hs)) d] rfl (by exact ⟨hS.ld 1 rfl rfl, hS.ld 1 rfl rfl, hS.ld 2 rfl rfl, hS.ld 2 rfl rfl⟩) ?_
  refine WQ.nil ?_
  intro m1
  replace hS := hS.drewN m1; generalize hwm1 : World.drewN _ _ = w at *; clear hwm1
  refine WL.call rfl rfl (pick_spec (kd := kd) (ca := ca) (cb := cb) (es := es) (ea := ea) (ec := ec) (rb := rb) (x := ca) (hs := hs) (u := u) (d := d) (hx := hca) (hhs := hB.hr) (hhl := (by omega)) (hS := (hS.sel 4 [3, 0, 0, 0] rfl))) rfl ?_
  clear hS; rintro _ w ⟨y1, rfl, hS, f1⟩
  replace hS := hS.n7 L rfl
  refine WL.nil ?_
  refine ⟨by exact ⟨RQ.ldF rfl rfl 2 hS rfl rfl ag_51 rfl rfl, RQ.pure rfl rfl rfl rfl, RQ.load rfl rfl rfl rfl (hS.ld 2 rfl rfl), RQ.pure rfl rfl rfl rfl, RQ.pure rfl rfl rfl rfl, RQ.pure rfl rfl rfl rfl, RQ.load rfl rfl rfl rfl (hS.ld 3 rfl rfl)⟩, ?_⟩
  refine WQ.nil ?_
  intro m2
  replace hS := hS.drewN m2; generalize hwm2 : World.drewN _ _ = w at *; clear hwm2
  refine WL.call rfl rfl (pick_spec (kd := kd) (ca := ca) (cb := cb) (es := es) (ea := ea) (ec := ec) (rb := rb) (x := cb) (hs := hs) (u := u) (d := d) (hx := hcb) (hhs := hB.hr) (hhl := (by omega)) (hS := hS)) rfl ?_
  clear hS; rintro _ w ⟨y2, rfl, hS, f2⟩
  replace hS := hS.n7 L rfl
  refine WL.nil ?_
  refine ⟨by exact trivial, ?_⟩
  refine WQ.r 2 rfl <| WQ.nil ?_
  intro m3
  replace hS := hS.drewN m3; generalize hwm3 : World.drewN _ _ = w at *; clear hwm3
  as_aux_lemma =>
  refine WC.seq <| WC.region <| WL.r 3 rfl <| WL.ldC rfl rfl [.int .i64 z.cap, .int .i64 z.T.s.cap, .slice z.ra (List.length (u32s z.T.s.rel)) z.rc, .int .i64 (z.T.s.fresh + 1), .slice z.ga (List.length (u32s (z.T.s.gen.drop 1))) z.gc, .slice z.oa (List.length (bos (z.T.s.used.drop 1))) z.oc, .slice z.va (List.length (u32s (z.T.vals.drop 1))) z.vc, .int .i64 z.cap, .slice z.pa (List.length (enP z.P)) z.pc, .slice z.ba (List.length (bos z.B)) z.bc, .slice z.la (List.length (enL z.LL)) z.lc] ag_43 rfl (hS.part 3 rfl rfl) <| WL.r 1 rfl <| WL.call rfl rfl (qs_list (z := z) (h := y1) (hz := hrk) (hh := f1) (hx := (fun h => hW.opl h)) (hS := (hS.sel 6 [5, 0, 0, 0, 0, 0] rfl))) rfl ?_
  clear hS; rintro _ w ⟨x1, rfl, hS, f3⟩
  replace hS := hS.n8 L (a1 := Sh 121 2 (en2 x1.es) x1.a x1.c) rfl
  refine WL.r 5 rfl <| WL.nil <| WC.seq <| WC.region ?_
  obtain ⟨hl1, hl2, hl3⟩ := hW.lst f3
  refine WL.run 5 [.pointer (some ⟨s, 0, none⟩)] rfl (by exact hS.ld 5 rfl rfl) ?_
  refine WL.call rfl rfl (vs_rt (s := s) (a := a) (V := V) (A := A) (R := []) (h := y1) (hV := hW.vi) (hh := f1) (hS := (hS.sel 4 [3, 0, 0, 0] rfl))) rfl ?_
  clear hS; rintro _ w ⟨rfl, hS⟩
  replace hS := hS.n8 L rfl
  refine WL.r 5 rfl <| WL.nil <| WC.seq <| WC.region <| WL.run 5 [.pointer (some ⟨s, 0, none⟩)] rfl (by exact hS.ld 5 rfl rfl) ?_
  refine WL.call rfl rfl (vs_num (s := s) (a := a) (V := V) (h := y1) (hT := hW.vi.t) (hh := f1) (hS := hS)) rfl ?_
  clear hS; rintro _ w ⟨rfl, hS⟩
  replace hS := hS.n8 L rfl
  refine WL.r 5 rfl <| WL.nil ?_
  as_aux_lemma =>
  refine WC.seq <| WC.region ?_
  have hWu := hW.up (m2 := 12 + (n + 1)) (by omega)
  refine WL.r 3 rfl <| WL.ldC rfl rfl [.int .i64 z.cap, .int .i64 z.T.s.cap, .slice z.ra (List.length (u32s z.T.s.rel)) z.rc, .int .i64 (z.T.s.fresh + 1), .slice z.ga (List.length (u32s (z.T.s.gen.drop 1))) z.gc, .slice z.oa (List.length (bos (z.T.s.used.drop 1))) z.oc, .slice z.va (List.length (u32s (z.T.vals.drop 1))) z.vc, .int .i64 z.cap, .slice z.pa (List.length (enP z.P)) z.pc, .slice z.ba (List.length (bos z.B)) z.bc, .slice z.la (List.length (enL z.LL)) z.lc] ag_43 rfl (hS.part 5 rfl rfl) <| WL.r 1 rfl <| WL.call rfl rfl (qs_num (z := z) (h := y1) (hz := hrk) (hh := f1) (hS := (hS.sel 2 [1, 0] rfl))) rfl ?_
  clear hS; rintro _ w ⟨rfl, hS⟩
  replace hS := hS.n8 L rfl
  refine WL.r 5 rfl <| WL.nil <| WC.seq <| WC.seq <| WC.region <| WL.r 3 rfl <| WL.rG 10 rfl (fun j => ?_)
  refine WL.prop 102 rfl (bor (bor (dd _) (dd _)) (dd _)) <| WL.nil <| WC.ifF rfl (decide_eq_false ((by rw [htt]; simp))) ?_
  refine WC.skip <| WC.seq <| WC.seq <| WC.region <| WL.run 2 [.int .i64 kd] rfl (by exact hS.ld 4 rfl rfl) ?_
  refine WL.call rfl rfl (md_spec (k := kd) (n := 8) (hk := hkd) (hn := (by decide)) (hS := hS)) rfl ?_
  clear hS; rintro _ w ⟨rfl, hS⟩
  replace hS := hS.n8 L rfl
  refine WL.nil ?_
  as_aux_lemma =>
  refine WC.block <| WC.seq <| WC.region <| WL.r 2 rfl <| WL.nil <| WC.ifP rfl (fun cd1 => ?_) (fun cd1 => ?_)
  · refine WC.seq <| WC.region <| WL.run 2 [.slice ea (List.length (en2 es)) ec] rfl (by exact hS.ld 4 rfl rfl) ?_
    refine WL.call rfl rfl (kt_list (raw := es) (u := ea) (d := ec) (most := 12) (hm := (by decide)) (hS := (hS.sel 8 [7, 0, 0, 0, 0, 0, 0, 0] rfl))) rfl ?_
    clear hS; rintro _ w ⟨a1, c1, rfl, hS⟩
    replace hS := hS.n9 L (a0 := Own 121 2 (en2 (mkL es 12)) a1 c1) rfl
    refine WL.r 1 rfl <| WL.nil <| WC.seq <| WC.region ?_
    obtain ⟨hms, hmk⟩ := mkL_srt es 12; have hroots : (List.map RN.root V.rs ++ []).length = V.rs.length := (by simp)
    refine WL.r 2 rfl ?_
    replace hS := (hS.at_ 0 rfl).share
    replace hS := hS.n9 L (a0 := Sh 121 2 (en2 (mkL es 12)) a1 c1) rfl
    refine WL.call rfl rfl (bk_build (a := a) (A := A) (R := List.map RN.root V.rs ++ []) (l := mkL es 12) (u := a1) (d := c1) (hA := hW.vi.ref) (hs := hms) (hf := (by omega)) (hl := (by omega)) (hz := (by omega)) (hS := (hS.sel 9 [8, 0, 0, 0, 0, 0, 0, 0, 0] rfl))) rfl ?_
    clear hS; rintro _ w ⟨A1, i1, rfl, hS, f4⟩
    replace hS := hS.n9 L (a0 := Arn a A1) rfl
    refine WL.r 5 rfl <| WL.nil ?_
    as_aux_lemma =>
    refine WC.seq <| WC.region <| WL.r 3 rfl <| WL.reb 119 (.bool true) (congrArg Value.bool (decide_eq_true (by decide))) ?_
    refine WL.ung rfl rfl rfl <| WL.r 1 rfl <| WL.ung rfl rfl rfl <| WL.r 1 rfl <| WL.ung rfl rfl rfl <| WL.r 1 rfl <| WL.ung rfl rfl rfl ?_
    replace hS := hS.nilS 23 1
    replace hS := hS.n10 L (a0 := Sh 23 1 (u64s []) none 0) rfl
    refine WL.call rfl rfl (wcommit (p := p) (s := s) (a := a) (V := V) (A := A1) (z := z) (m := 12 + (n + 1)) (hs := hs) (u := u) (d := d) (root := i1) (xe := mkL es 12) (xa := a1) (xc := c1) (ps := []) (pa := none) (pc := 0) (hW := (hWu.one f4)) (hx := (by omega)) (ht := (fun _ => ⟨_, f4.is, Tr.bld_ok _ _ (Nat.le_refl _), by rw [Tr.bld_ls _ _ (Nat.le_refl _)]; exact hms, Tr.bld_ls _ _ (Nat.le_refl _)⟩)) (hps := (fun _ h => by cases h)) (hpl := (by decide)) (hla := (by omega)) (hhs := hB.hr) (hhl := (by omega)) (hS := (hS.sel 10 [9, 7, 5, 1, 3, 1, 0, 0, 0, 0] rfl))) rfl ?_
    clear hS; rintro _ w ⟨V1, A2, z1, hs1, u1, d1, rfl, hS, f5, f6, f7⟩
    replace hS := hS.n8 L (a0 := cel p #[.pointer (some ⟨s, 0, none⟩), .int .i64 z1.cap, .int .i64 z1.T.s.cap, .slice z1.ra (List.length (u32s z1.T.s.rel)) z1.rc, .int .i64 (z1.T.s.fresh + 1), .slice z1.ga (List.length (u32s (z1.T.s.gen.drop 1))) z1.gc, .slice z1.oa (List.length (bos (z1.T.s.used.drop 1))) z1.oc, .slice z1.va (List.length (u32s (z1.T.vals.drop 1))) z1.vc, .int .i64 z1.cap, .slice z1.pa (List.length (enP z1.P)) z1.pc, .slice z1.ba (List.length (bos z1.B)) z1.bc, .slice z1.la (List.length (enL z1.LL)) z1.lc, .slice u1 (List.length (u64s hs1)) d1] 47) (a1 := Own 23 1 (u64s hs1) u1 d1) (a2 := Vst s a V1) (a3 := Arn a A2) (a4 := Shs rsF [z1]) rfl
    refine WL.r 2 rfl <| WL.nil <| WC.ret ?_
    refine ⟨[.bool true], rfl, ?_⟩
    replace hS := (hS.sel 8 [0, 0, 0, 0, 0, 0] rfl)
    exact ⟨_, _, _, _, _, _, rfl, hS, f5, hB.of f6.1 (f6.2.2.trans f4.cap) f7.1 f7.2, f6.2.1⟩
  · refine WC.seq <| WC.region <| WL.r 2 rfl <| WL.nil <| WC.ifP rfl (fun cd2 => ?_) (fun cd2 => ?_)
    · refine WC.seq <| WC.region <| WL.run 5 [.pointer (some ⟨s, 0, none⟩)] rfl (by exact hS.ld 5 rfl rfl) ?_
      refine WL.call rfl rfl (vs_snp (s := s) (a := a) (V := V) (A := A) (R := []) (h := y1) (hV := hW.vi) (hh := f1) (hxl := hW.xl) (hla := (by omega)) (hlen := (by simp)) (hS := (hS.sel 7 [1, 5, 0, 0, 0, 0, 0] rfl))) rfl ?_
      clear hS; rintro _ w ⟨V1, A1, rfl, hS, f4⟩
      replace hS := hS.n8 L (a0 := Vst s a V1) (a1 := Arn a A1) rfl
      refine WL.r 5 rfl <| WL.nil <| WC.seq <| WC.region <| WL.r 3 rfl <| WL.ldC rfl rfl [.int .i64 z.cap, .int .i64 z.T.s.cap, .slice z.ra (List.length (u32s z.T.s.rel)) z.rc, .int .i64 (z.T.s.fresh + 1), .slice z.ga (List.length (u32s (z.T.s.gen.drop 1))) z.gc, .slice z.oa (List.length (bos (z.T.s.used.drop 1))) z.oc, .slice z.va (List.length (u32s (z.T.vals.drop 1))) z.vc, .int .i64 z.cap, .slice z.pa (List.length (enP z.P)) z.pc, .slice z.ba (List.length (bos z.B)) z.bc, .slice z.la (List.length (enL z.LL)) z.lc] ag_43 rfl (hS.part 6 rfl rfl) <| WL.r 2 rfl <| WL.lit rfl rfl (u64s [y1]) el_45 hS (by exact ⟨rfl, rfl⟩) (u64s_ok _) rfl (Nat.le_of_ble_eq_true rfl) (fun b2 w hS => ?_)
      replace hS := (hS.at_ 0 rfl).share
      replace hS := hS.n9 L (a0 := Sh 23 1 (u64s [y1]) (some ⟨b2, 0, none⟩) (List.length (u64s [y1]))) rfl
      refine WL.call rfl rfl (qs_com (z := z) (xe := x1.es) (xa := x1.a) (xc := x1.c) (ps := [y1]) (pa2 := some ⟨b2, 0, none⟩) (pc2 := List.length (u64s [y1])) (hz := hrk) (hhs := (fun q hq => by rw [List.mem_singleton.1 hq]; exact f1)) (hpl := (by simp)) (hpv := hW.pv) (hS := (hS.sel 5 [3, 3, 0, 0, 0] rfl))) rfl ?_
      clear hS; rintro _ w ⟨z1, rfl, hS, f5⟩
      replace hS := hS.n9 L (a0 := Shs rsF [z1]) rfl
      refine WL.r 4 rfl <| WL.new rfl rfl zv_43 hS (fun b3 w hS => ?_)
      refine WL.stF rfl rfl rfl 0 hS rfl rfl rfl rfl rfl ag_43 (fun w hS => ?_)
      replace hS := hS.n10 L (a0 := cel b3 #[.int .i64 z1.cap, .int .i64 z1.T.s.cap, .slice z1.ra (List.length (u32s z1.T.s.rel)) z1.rc, .int .i64 (z1.T.s.fresh + 1), .slice z1.ga (List.length (u32s (z1.T.s.gen.drop 1))) z1.gc, .slice z1.oa (List.length (bos (z1.T.s.used.drop 1))) z1.oc, .slice z1.va (List.length (u32s (z1.T.vals.drop 1))) z1.vc, .int .i64 z1.cap, .slice z1.pa (List.length (enP z1.P)) z1.pc, .slice z1.ba (List.length (bos z1.B)) z1.bc, .slice z1.la (List.length (enL z1.LL)) z1.lc] 43) rfl
      refine WL.r 2 rfl <| WL.nil ?_
      as_aux_lemma =>
      refine WC.seq <| WC.region ?_
      obtain ⟨hW1, hla1, hcp1, hus1⟩ := hWu.com f4 f5 (by omega) (fun h0 => hl3 ((comE_0 h0).2.1 _ (by simp))) (Nat.le_trans hl1 (by omega)); have hus2 : A1.s.used.length = A.s.used.length := congrArg (fun q => List.length (SM.used q)) hus1; have hsm := hW.same [y1]; have hul := u64s_len hs
      refine WL.r 1 rfl <| WL.ldF rfl rfl 0 hS rfl rfl ag_43 <| WL.r 2 rfl <| WL.stP (ds := #[.pointer (some ⟨s, 0, none⟩), .int .i64 z1.cap, .int .i64 z1.T.s.cap, .slice z1.ra (List.length (u32s z1.T.s.rel)) z1.rc, .int .i64 (z1.T.s.fresh + 1), .slice z1.ga (List.length (u32s (z1.T.s.gen.drop 1))) z1.gc, .slice z1.oa (List.length (bos (z1.T.s.used.drop 1))) z1.oc, .slice z1.va (List.length (u32s (z1.T.vals.drop 1))) z1.vc, .int .i64 z1.cap, .slice z1.pa (List.length (enP z1.P)) z1.pc, .slice z1.ba (List.length (bos z1.B)) z1.bc, .slice z1.la (List.length (enL z1.LL)) z1.lc, .slice u (List.length (u64s hs)) d]) rfl rfl rfl 8 hS rfl rfl rfl rfl (Nat.le_of_ble_eq_true rfl) rfl ag_43 (fun w hS => ?_)
      replace hS := hS.n10 L (a8 := cel p #[.pointer (some ⟨s, 0, none⟩), .int .i64 z1.cap, .int .i64 z1.T.s.cap, .slice z1.ra (List.length (u32s z1.T.s.rel)) z1.rc, .int .i64 (z1.T.s.fresh + 1), .slice z1.ga (List.length (u32s (z1.T.s.gen.drop 1))) z1.gc, .slice z1.oa (List.length (bos (z1.T.s.used.drop 1))) z1.oc, .slice z1.va (List.length (u32s (z1.T.vals.drop 1))) z1.vc, .int .i64 z1.cap, .slice z1.pa (List.length (enP z1.P)) z1.pc, .slice z1.ba (List.length (bos z1.B)) z1.bc, .slice z1.la (List.length (enL z1.LL)) z1.lc, .slice u (List.length (u64s hs)) d] 47) rfl
      refine WL.nil <| WC.seq <| WC.seq <| WC.region <| WL.r 2 rfl <| WL.nil <| WC.ifP rfl (fun cd3 => ?_) (fun cd3 => ?_)
      · refine WC.seq <| WC.region <| WL.run 5 [.slice u (List.length (u64s hs)) d] rfl (by exact hS.ld 8 rfl rfl) ?_
        refine WL.lit rfl rfl (u64s [comH z.T z.room [y1]]) el_45 hS (by exact ⟨rfl, rfl⟩) (u64s_ok _) rfl (Nat.le_of_ble_eq_true rfl) (fun b4 w hS => ?_)
        refine WL.app rfl rfl 7 (u64s (hs ++ [comH z.T z.room [y1]])) el_45 hS rfl (hS.srcO 0 rfl) (u64s_app _ _).symm (Rm.of (by first | omega | (simp <;> omega)) (by decide)) rfl rfl (fun a1 c1 w hS => ?_)
        replace hS := hS.n11 L (a0 := Own 23 1 (u64s [comH z.T z.room [y1]]) (some ⟨b4, 0, none⟩) (List.length (u64s [comH z.T z.room [y1]]))) (a7 := Own 23 1 (u64s (hs ++ [comH z.T z.room [y1]])) a1 c1) rfl
        refine WL.r 1 rfl <| WL.nil <| WC.region <| WL.r 4 rfl <| WL.st rfl rfl rfl 9 hS rfl rfl rfl rfl rfl rfl (fun w hS => ?_)
        replace hS := hS.n11 L (a9 := cel p #[.pointer (some ⟨s, 0, none⟩), .int .i64 z1.cap, .int .i64 z1.T.s.cap, .slice z1.ra (List.length (u32s z1.T.s.rel)) z1.rc, .int .i64 (z1.T.s.fresh + 1), .slice z1.ga (List.length (u32s (z1.T.s.gen.drop 1))) z1.gc, .slice z1.oa (List.length (bos (z1.T.s.used.drop 1))) z1.oc, .slice z1.va (List.length (u32s (z1.T.vals.drop 1))) z1.vc, .int .i64 z1.cap, .slice z1.pa (List.length (enP z1.P)) z1.pc, .slice z1.ba (List.length (bos z1.B)) z1.bc, .slice z1.la (List.length (enL z1.LL)) z1.lc, .slice a1 (List.length (u64s (hs ++ [comH z.T z.room [y1]]))) c1] 47) rfl
        refine WL.nil ?_
        as_aux_lemma =>
        refine WC.seq <| WC.region <| WL.r 3 rfl <| WL.rG 6 rfl (fun j => ?_)
        refine WL.prop 172 rfl (band (dd _) (dd _)) <| WL.nil <| WC.ret ?_
        refine ⟨[.bool (bif (decide ((comH V.T V.room [y1]) = (comH z.T z.room [y1]))) then (decide ((comE V.T V.room [y1]) = (comE z.T z.room [y1]))) else false)], rfl, ?_⟩
        replace hS := (hS.sel 10 [9, 7, 5, 5, 2] rfl)
        exact ⟨_, _, _, _, _, _, congrArg Value.bool (by rw [hsm.1, hsm.2]; simp), hS, hW1, hB.of hla1 hus2 (by simp) (in_snoc hB.hr (by rw [hsm.2]; exact comH_rng hW.vi _)), hcp1⟩
      · refine WC.skip <| WC.seq <| WC.region <| WL.r 3 rfl <| WL.rG 6 rfl (fun j => ?_)
        refine WL.prop 172 rfl (band (dd _) (dd _)) <| WL.nil <| WC.ret ?_
        refine ⟨[.bool (bif (decide ((comH V.T V.room [y1]) = (comH z.T z.room [y1]))) then (decide ((comE V.T V.room [y1]) = (comE z.T z.room [y1]))) else false)], rfl, ?_⟩
        replace hS := (hS.sel 9 [8, 6, 4, 4, 1] rfl)
        exact ⟨_, _, _, _, _, _, congrArg Value.bool (by rw [hsm.1, hsm.2]; simp), hS, hW1, hB.of hla1 hus2 (by simp) hB.hr, hcp1⟩
    · refine WC.seq <| WC.seq <| WC.region <| WL.r 2 rfl <| WL.nil <| WC.ifP rfl (fun cd3 => ?_) (fun cd3 => ?_)
      · refine WC.skip <| WC.ifT rfl (decide_eq_true cd3) <| WC.seq <| WC.region <| WL.run 5 [.pointer (some ⟨s, 0, none⟩)] rfl (by exact hS.ld 5 rfl rfl) ?_
        refine WL.call rfl rfl (vs_rl (s := s) (a := a) (V := V) (A := A) (R := []) (h := y1) (hV := hW.vi) (hh := f1) (hlen := (by simp)) (hS := (hS.sel 7 [1, 5, 0, 0, 0, 0, 0] rfl))) rfl ?_
        clear hS; rintro _ w ⟨V1, A1, rfl, hS, f4⟩
        replace hS := hS.n8 L (a0 := Vst s a V1) (a1 := Arn a A1) rfl
        refine WL.r 5 rfl <| WL.nil ?_
        as_aux_lemma =>
        refine WC.seq <| WC.region <| WL.r 3 rfl <| WL.ldC rfl rfl [.int .i64 z.cap, .int .i64 z.T.s.cap, .slice z.ra (List.length (u32s z.T.s.rel)) z.rc, .int .i64 (z.T.s.fresh + 1), .slice z.ga (List.length (u32s (z.T.s.gen.drop 1))) z.gc, .slice z.oa (List.length (bos (z.T.s.used.drop 1))) z.oc, .slice z.va (List.length (u32s (z.T.vals.drop 1))) z.vc, .int .i64 z.cap, .slice z.pa (List.length (enP z.P)) z.pc, .slice z.ba (List.length (bos z.B)) z.bc, .slice z.la (List.length (enL z.LL)) z.lc] ag_43 rfl (hS.part 6 rfl rfl) <| WL.r 1 rfl <| WL.call rfl rfl (qs_rl (z := z) (h := y1) (hz := hrk) (hh := f1) (hl := (fun h => hW.liv h)) (hS := (hS.sel 3 [2, 0, 0] rfl))) rfl ?_
        clear hS; rintro _ w ⟨z1, rfl, hS, f5⟩
        replace hS := hS.n8 L (a0 := Shs rsF [z1]) rfl
        refine WL.r 3 rfl <| WL.new rfl rfl zv_43 hS (fun b2 w hS => ?_)
        refine WL.stF rfl rfl rfl 0 hS rfl rfl rfl rfl rfl ag_43 (fun w hS => ?_)
        replace hS := hS.n9 L (a0 := cel b2 #[.int .i64 z1.cap, .int .i64 z1.T.s.cap, .slice z1.ra (List.length (u32s z1.T.s.rel)) z1.rc, .int .i64 (z1.T.s.fresh + 1), .slice z1.ga (List.length (u32s (z1.T.s.gen.drop 1))) z1.gc, .slice z1.oa (List.length (bos (z1.T.s.used.drop 1))) z1.oc, .slice z1.va (List.length (u32s (z1.T.vals.drop 1))) z1.vc, .int .i64 z1.cap, .slice z1.pa (List.length (enP z1.P)) z1.pc, .slice z1.ba (List.length (bos z1.B)) z1.bc, .slice z1.la (List.length (enL z1.LL)) z1.lc] 43) rfl
        refine WL.r 1 rfl <| WL.nil <| WC.seq <| WC.region ?_
        obtain ⟨hW1, hla1, hcp1, hus1⟩ := hWu.rls f4 f5
        refine WL.r 1 rfl <| WL.ldF rfl rfl 0 hS rfl rfl ag_43 <| WL.r 2 rfl <| WL.stP (ds := #[.pointer (some ⟨s, 0, none⟩), .int .i64 z1.cap, .int .i64 z1.T.s.cap, .slice z1.ra (List.length (u32s z1.T.s.rel)) z1.rc, .int .i64 (z1.T.s.fresh + 1), .slice z1.ga (List.length (u32s (z1.T.s.gen.drop 1))) z1.gc, .slice z1.oa (List.length (bos (z1.T.s.used.drop 1))) z1.oc, .slice z1.va (List.length (u32s (z1.T.vals.drop 1))) z1.vc, .int .i64 z1.cap, .slice z1.pa (List.length (enP z1.P)) z1.pc, .slice z1.ba (List.length (bos z1.B)) z1.bc, .slice z1.la (List.length (enL z1.LL)) z1.lc, .slice u (List.length (u64s hs)) d]) rfl rfl rfl 7 hS rfl rfl rfl rfl (Nat.le_of_ble_eq_true rfl) rfl ag_43 (fun w hS => ?_)
        replace hS := hS.n9 L (a7 := cel p #[.pointer (some ⟨s, 0, none⟩), .int .i64 z1.cap, .int .i64 z1.T.s.cap, .slice z1.ra (List.length (u32s z1.T.s.rel)) z1.rc, .int .i64 (z1.T.s.fresh + 1), .slice z1.ga (List.length (u32s (z1.T.s.gen.drop 1))) z1.gc, .slice z1.oa (List.length (bos (z1.T.s.used.drop 1))) z1.oc, .slice z1.va (List.length (u32s (z1.T.vals.drop 1))) z1.vc, .int .i64 z1.cap, .slice z1.pa (List.length (enP z1.P)) z1.pc, .slice z1.ba (List.length (bos z1.B)) z1.bc, .slice z1.la (List.length (enL z1.LL)) z1.lc, .slice u (List.length (u64s hs)) d] 47) rfl
        refine WL.nil <| WC.seq <| WC.region <| WL.r 4 rfl <| WL.nil ?_
        as_aux_lemma =>
        refine WC.ret ?_
        refine ⟨[.bool (decide ((if V.T.s.opn y1 = true then 0 else 5) = (if z.T.s.opn y1 = true then 0 else 5)))], rfl, ?_⟩
        replace hS := (hS.sel 8 [7, 5, 2, 2, 1] rfl)
        exact ⟨_, _, _, _, _, _, congrArg Value.bool (by rw [htt]; simp), hS, hW1, hB.of (by omega) hus1 (by omega) hB.hr, hcp1⟩
      · refine WC.region <| WL.r 2 rfl <| WL.nil <| WC.ifP rfl (fun cd4 => ?_) (fun cd4 => ?_)
        · refine WC.seq <| WC.region <| WL.run 5 [.pointer (some ⟨s, 0, none⟩)] rfl (by exact hS.ld 5 rfl rfl) ?_
          refine WL.call rfl rfl (vs_rl (s := s) (a := a) (V := V) (A := A) (R := []) (h := y1) (hV := hW.vi) (hh := f1) (hlen := (by simp)) (hS := (hS.sel 7 [1, 5, 0, 0, 0, 0, 0] rfl))) rfl ?_
          clear hS; rintro _ w ⟨V1, A1, rfl, hS, f4⟩
          replace hS := hS.n8 L (a0 := Vst s a V1) (a1 := Arn a A1) rfl
          refine WL.r 5 rfl <| WL.nil ?_
          as_aux_lemma =>
          refine WC.seq <| WC.region <| WL.r 3 rfl <| WL.ldC rfl rfl [.int .i64 z.cap, .int .i64 z.T.s.cap, .slice z.ra (List.length (u32s z.T.s.rel)) z.rc, .int .i64 (z.T.s.fresh + 1), .slice z.ga (List.length (u32s (z.T.s.gen.drop 1))) z.gc, .slice z.oa (List.length (bos (z.T.s.used.drop 1))) z.oc, .slice z.va (List.length (u32s (z.T.vals.drop 1))) z.vc, .int .i64 z.cap, .slice z.pa (List.length (enP z.P)) z.pc, .slice z.ba (List.length (bos z.B)) z.bc, .slice z.la (List.length (enL z.LL)) z.lc] ag_43 rfl (hS.part 6 rfl rfl) <| WL.r 1 rfl <| WL.call rfl rfl (qs_rl (z := z) (h := y1) (hz := hrk) (hh := f1) (hl := (fun h => hW.liv h)) (hS := (hS.sel 3 [2, 0, 0] rfl))) rfl ?_
          clear hS; rintro _ w ⟨z1, rfl, hS, f5⟩
          replace hS := hS.n8 L (a0 := Shs rsF [z1]) rfl
          refine WL.r 3 rfl <| WL.new rfl rfl zv_43 hS (fun b2 w hS => ?_)
          refine WL.stF rfl rfl rfl 0 hS rfl rfl rfl rfl rfl ag_43 (fun w hS => ?_)
          replace hS := hS.n9 L (a0 := cel b2 #[.int .i64 z1.cap, .int .i64 z1.T.s.cap, .slice z1.ra (List.length (u32s z1.T.s.rel)) z1.rc, .int .i64 (z1.T.s.fresh + 1), .slice z1.ga (List.length (u32s (z1.T.s.gen.drop 1))) z1.gc, .slice z1.oa (List.length (bos (z1.T.s.used.drop 1))) z1.oc, .slice z1.va (List.length (u32s (z1.T.vals.drop 1))) z1.vc, .int .i64 z1.cap, .slice z1.pa (List.length (enP z1.P)) z1.pc, .slice z1.ba (List.length (bos z1.B)) z1.bc, .slice z1.la (List.length (enL z1.LL)) z1.lc] 43) rfl
          refine WL.r 1 rfl <| WL.nil <| WC.seq <| WC.region ?_
          obtain ⟨hW1, hla1, hcp1, hus1⟩ := hWu.rls f4 f5
          refine WL.r 1 rfl <| WL.ldF rfl rfl 0 hS rfl rfl ag_43 <| WL.r 2 rfl <| WL.stP (ds := #[.pointer (some ⟨s, 0, none⟩), .int .i64 z1.cap, .int .i64 z1.T.s.cap, .slice z1.ra (List.length (u32s z1.T.s.rel)) z1.rc, .int .i64 (z1.T.s.fresh + 1), .slice z1.ga (List.length (u32s (z1.T.s.gen.drop 1))) z1.gc, .slice z1.oa (List.length (bos (z1.T.s.used.drop 1))) z1.oc, .slice z1.va (List.length (u32s (z1.T.vals.drop 1))) z1.vc, .int .i64 z1.cap, .slice z1.pa (List.length (enP z1.P)) z1.pc, .slice z1.ba (List.length (bos z1.B)) z1.bc, .slice z1.la (List.length (enL z1.LL)) z1.lc, .slice u (List.length (u64s hs)) d]) rfl rfl rfl 7 hS rfl rfl rfl rfl (Nat.le_of_ble_eq_true rfl) rfl ag_43 (fun w hS => ?_)
          replace hS := hS.n9 L (a7 := cel p #[.pointer (some ⟨s, 0, none⟩), .int .i64 z1.cap, .int .i64 z1.T.s.cap, .slice z1.ra (List.length (u32s z1.T.s.rel)) z1.rc, .int .i64 (z1.T.s.fresh + 1), .slice z1.ga (List.length (u32s (z1.T.s.gen.drop 1))) z1.gc, .slice z1.oa (List.length (bos (z1.T.s.used.drop 1))) z1.oc, .slice z1.va (List.length (u32s (z1.T.vals.drop 1))) z1.vc, .int .i64 z1.cap, .slice z1.pa (List.length (enP z1.P)) z1.pc, .slice z1.ba (List.length (bos z1.B)) z1.bc, .slice z1.la (List.length (enL z1.LL)) z1.lc, .slice u (List.length (u64s hs)) d] 47) rfl
          refine WL.nil <| WC.seq <| WC.region <| WL.r 4 rfl <| WL.nil ?_
          as_aux_lemma =>
          refine WC.ret ?_
          refine ⟨[.bool (decide ((if V.T.s.opn y1 = true then 0 else 5) = (if z.T.s.opn y1 = true then 0 else 5)))], rfl, ?_⟩
          replace hS := (hS.sel 8 [7, 5, 2, 2, 1] rfl)
          exact ⟨_, _, _, _, _, _, congrArg Value.bool (by rw [htt]; simp), hS, hW1, hB.of (by omega) hus1 (by omega) hB.hr, hcp1⟩
        · refine WC.seq <| WC.region <| WL.r 2 rfl <| WL.nil ?_
          as_aux_lemma =>
          refine WC.ifP rfl (fun cd5 => ?_) (fun cd5 => ?_)
          · refine WC.seq <| WC.seq <| WC.region <| WL.r 2 rfl <| WL.nil <| WC.cut [0, 3, 4, 5, 6, 7, 8, 9, 10] (fun vs w => ∃ (rt : Int) (xe : Kvs) (xa : Option Addr) (xc : Nat), vs = [.pointer (some ⟨p, 0, none⟩), .pointer (some ⟨b1, 0, none⟩), .bool false, .pointer (some ⟨a, 0, none⟩), .int .u64 y1, .int .u64 y2, .slice xa (List.length (en2 xe)) xc, .int .i64 (if z.T.s.opn y1 = true then 0 else 5), .int .u32 rt] ∧ St g (Shs rsF [z] :: Vst s a V :: Sh 121 2 (en2 xe) xa xc :: Own 23 1 (u64s hs) u d :: cel b1 #[.int .i64 kd, .int .u64 ca, .int .u64 cb, .slice ea (List.length (en2 es)) ec, .bool rb] 51 :: cel p #[.pointer (some ⟨s, 0, none⟩), .int .i64 z.cap, .int .i64 z.T.s.cap, .slice z.ra (List.length (u32s z.T.s.rel)) z.rc, .int .i64 (z.T.s.fresh + 1), .slice z.ga (List.length (u32s (z.T.s.gen.drop 1))) z.gc, .slice z.oa (List.length (bos (z.T.s.used.drop 1))) z.oc, .slice z.va (List.length (u32s (z.T.vals.drop 1))) z.vc, .int .i64 z.cap, .slice z.pa (List.length (enP z.P)) z.pc, .slice z.ba (List.length (bos z.B)) z.bc, .slice z.la (List.length (enL z.LL)) z.lc, .slice u (List.length (u64s hs)) d] 47 :: Arn a A :: Sh 121 2 (en2 es) ea ec :: L) w ∧ (rt = 0 ∨ (1 ≤ rt ∧ A.s.ok rt = true)) ∧ (xe.length ≤ 12 + n) ∧ (V.T.s.opn y1 = true → TrL A rt xe)) ?_ ?_
            · refine WC.ifP rfl (fun cd6 => ?_) (fun cd6 => ?_)
              · refine WC.region ?_
                replace hS : St g (Sh 121 2 (en2 []) none 0 :: Shs rsF [z] :: Vst s a V :: Sh 121 2 (en2 x1.es) x1.a x1.c :: Own 23 1 (u64s hs) u d :: cel b1 #[.int .i64 kd, .int .u64 ca, .int .u64 cb, .slice ea (List.length (en2 es)) ec, .bool rb] 51 :: cel p #[.pointer (some ⟨s, 0, none⟩), .int .i64 z.cap, .int .i64 z.T.s.cap, .slice z.ra (List.length (u32s z.T.s.rel)) z.rc, .int .i64 (z.T.s.fresh + 1), .slice z.ga (List.length (u32s (z.T.s.gen.drop 1))) z.gc, .slice z.oa (List.length (bos (z.T.s.used.drop 1))) z.oc, .slice z.va (List.length (u32s (z.T.vals.drop 1))) z.vc, .int .i64 z.cap, .slice z.pa (List.length (enP z.P)) z.pc, .slice z.ba (List.length (bos z.B)) z.bc, .slice z.la (List.length (enL z.LL)) z.lc, .slice u (List.length (u64s hs)) d] 47 :: Arn a A :: Sh 121 2 (en2 es) ea ec :: L) w := hS.nilS 121 2
                refine WL.r 2 rfl <| WL.nil ?_
                exact ⟨0, [], none, 0, rfl, (hS.sel 4 [1, 1, 0] rfl), (.inl rfl), (Nat.zero_le _), (fun h => absurd (if_pos (by rw [htt]; exact h)) cd6)⟩
              · refine WC.skip ?_
                exact ⟨(if V.T.s.opn y1 = true then V.rootOf (V.T.val y1) else 0), x1.es, x1.a, x1.c, rfl, hS, (root_any hW y1), (hl1), (fun h => by rw [if_pos h]; exact hl3 h)⟩
            clear hS; rintro _ w j ⟨rt, xe, xa, xc, rfl, hS, hro, hxe, hxt⟩
            refine WC.seq <| WC.region ?_
            have hre := AM.ret_eq hW.vi.ref hro (by simp; omega); have hrr := hW.vi.ref.okrng hro
            refine WL.r 2 rfl <| WL.call rfl rfl (ar_retain (a := a) (A := A) (i := rt) (hA := hW.vi.ref.toAWf) (hi := (by omega)) (hS := (hS.sel 7 [6, 0, 0, 0, 0, 0, 0] rfl))) rfl ?_
            clear hS; rintro _ w ⟨rfl, hS⟩
            replace hS := hS.n8 L (a0 := Arn a (A.ret rt)) rfl
            refine WL.r 2 rfl <| WL.reb 209 (.bool true) (congrArg Value.bool (decide_eq_true (hre.2))) <| WL.ung rfl rfl rfl <| WL.r 1 rfl <| WL.ung rfl rfl rfl <| WL.r 1 rfl <| WL.ung rfl rfl rfl <| WL.r 1 rfl <| WL.ung rfl rfl rfl <| WL.r 1 rfl <| WL.ung rfl rfl rfl <| WL.r 1 rfl ?_
            refine WL.ung rfl rfl rfl <| WL.lit rfl rfl (u64s [y1, y2]) el_45 hS (by exact ⟨rfl, rfl, rfl, rfl⟩) (u64s_ok _) rfl (Nat.le_of_ble_eq_true rfl) (fun b2 w hS => ?_)
            refine WL.ung rfl rfl rfl ?_
            replace hS := (hS.at_ 0 rfl).share
            replace hS := hS.n9 L (a0 := Sh 23 1 (u64s [y1, y2]) (some ⟨b2, 0, none⟩) (List.length (u64s [y1, y2]))) rfl
            refine WL.call rfl rfl (wcommit (p := p) (s := s) (a := a) (V := V) (A := A.ret rt) (z := z) (m := 12 + (n + 1)) (hs := hs) (u := u) (d := d) (root := rt) (xe := xe) (xa := xa) (xc := xc) (ps := [y1, y2]) (pa := some ⟨b2, 0, none⟩) (pc := List.length (u64s [y1, y2])) (hW := (hWu.rtn hro)) (hx := (by omega)) (ht := (fun h0 => (hxt ((comE_0 h0).2.1 _ (by simp))).ret rt)) (hps := (two_rng f1 f2)) (hpl := (by simp)) (hla := (by omega)) (hhs := hB.hr) (hhl := (by omega)) (hS := (hS.sel 8 [7, 5, 3, 1, 1, 1, 0, 0] rfl))) rfl ?_
            clear hS; rintro _ w ⟨V1, A1, z1, hs1, u1, d1, rfl, hS, f4, f5, f6⟩
            replace hS := hS.n7 L (a0 := cel p #[.pointer (some ⟨s, 0, none⟩), .int .i64 z1.cap, .int .i64 z1.T.s.cap, .slice z1.ra (List.length (u32s z1.T.s.rel)) z1.rc, .int .i64 (z1.T.s.fresh + 1), .slice z1.ga (List.length (u32s (z1.T.s.gen.drop 1))) z1.gc, .slice z1.oa (List.length (bos (z1.T.s.used.drop 1))) z1.oc, .slice z1.va (List.length (u32s (z1.T.vals.drop 1))) z1.vc, .int .i64 z1.cap, .slice z1.pa (List.length (enP z1.P)) z1.pc, .slice z1.ba (List.length (bos z1.B)) z1.bc, .slice z1.la (List.length (enL z1.LL)) z1.lc, .slice u1 (List.length (u64s hs1)) d1] 47) (a1 := Own 23 1 (u64s hs1) u1 d1) (a2 := Vst s a V1) (a3 := Arn a A1) (a4 := Shs rsF [z1]) rfl
            refine WL.r 2 rfl <| WL.nil ?_
            as_aux_lemma =>
            refine WC.ret ?_
            refine ⟨[.bool true], rfl, ?_⟩
            replace hS := (hS.sel 6 [0, 0, 0, 0, 0] rfl)
            exact ⟨_, _, _, _, _, _, rfl, hS, f4, hB.of f5.1 (f5.2.2.trans (congrArg (fun q => List.length (SM.used q)) (A.ret_same rt).1)) f6.1 f6.2, f5.2.1⟩
          · refine WC.skip <| WC.seq <| WC.seq <| WC.region <| WL.r 2 rfl <| WL.runG 6 [.slice ea (List.length (en2 es)) ec] rfl (by exact (fun _ => hS.ld 4 rfl rfl)) (fun j => ?_)
            refine WL.prop 225 rfl (bor (dd _) (dd _)) <| WL.nil <| WC.ifP rfl (fun he => ?_) (fun he => ?_)
            · refine WC.seq <| WC.region <| WL.r 1 rfl <| WL.nil <| WC.ret ?_
              refine ⟨[.bool true], rfl, ?_⟩
              replace hS := (hS.sel 7 [5, 3, 1, 3, 0] rfl)
              exact ⟨V, A, z, hs, _, _, rfl, hS, hWu, hB.mono, rfl⟩
            · refine WC.skip <| WC.seq <| WC.region ?_
              obtain ⟨e, hes⟩ : ∃ e, es[0]? = some e := ⟨_, List.getElem?_eq_getElem (by omega)⟩; have hop : V.T.s.opn y1 = true := (by have h9 := ya_0 (fun h => he (.inl h)); rw [htt] at h9; exact h9); obtain ⟨t, t1, t2, t3, t4⟩ := hl3 hop; have htn : t.n = x1.es.length := (by rw [← Tr.ls_len, t4]); have hmx := Tr.mxH_le (t.n + 1); have hroots : (List.map RN.root V.rs ++ []).length = V.rs.length := (by simp); have hins := Tr.ins_ls e.1 e.2 t t3; have hlen := lins_len (k := e.1) (v := e.2) hl2; have hle : (lins e.1 e.2 x1.es).length ≤ x1.es.length + 1 := (by split at hlen <;> omega)
              refine WL.run 4 [.slice ea (List.length (en2 es)) ec] rfl (by exact hS.ld 4 rfl rfl) ?_
              refine WL.ix rfl rfl (i := 0) (0) el_49 rfl rfl (by omega) (by omega) (hS.rdS 7 rfl (en2_at hes)).1 ?_
              refine WL.ldC rfl rfl [.int .i64 e.1, .int .i64 e.2] ag_121 rfl (hS.rdS 7 rfl (en2_at hes)).2 <| WL.call rfl rfl (up_ins (a := a) (A := A) (R := List.map RN.root V.rs ++ []) (i := if V.T.s.opn y1 = true then V.rootOf (V.T.val y1) else 0) (k := e.1) (z := e.2) (t := t) (hA := hW.vi.ref) (hi := (by rw [if_pos hop]; exact t1)) (hb := t2) (hn := (by omega)) (hf := (by omega)) (hz := (by omega)) (hS := (hS.sel 7 [6, 0, 0, 0, 0, 0, 0] rfl))) rfl ?_
              clear hS; rintro _ w ⟨A1, j1, rfl, hS, f4⟩
              replace hS := hS.n8 L (a0 := Arn a A1) rfl
              refine WL.r 9 rfl <| WL.nil <| WC.seq <| WC.region <| WL.r 3 rfl <| WL.reb 240 (.bool true) (congrArg Value.bool (decide_eq_true (by decide))) ?_
              refine WL.ung rfl rfl rfl <| WL.r 1 rfl <| WL.ung rfl rfl rfl <| WL.r 1 rfl <| WL.ung rfl rfl rfl <| WL.r 1 rfl <| WL.ung rfl rfl rfl <| WL.r 1 rfl <| WL.ung rfl rfl rfl <| WL.run 1 [.slice ea (List.length (en2 es)) ec] rfl (by exact hS.ld 5 rfl rfl) ?_
              refine WL.ung rfl rfl rfl <| WL.ix rfl rfl (i := 0) (0) el_49 rfl rfl (by omega) (by omega) (hS.rdS 7 rfl (en2_at hes)).1 ?_
              refine WL.ung rfl rfl rfl <| WL.ldC rfl rfl [.int .i64 e.1, .int .i64 e.2] ag_121 rfl (hS.rdS 7 rfl (en2_at hes)).2 <| WL.ung rfl rfl rfl <| WL.call rfl rfl (ref_ins (l := x1.es) (u := x1.a) (d := x1.c) (k := e.1) (z := e.2) (hs := hl2) (hl := (by omega)) (hS := (hS.sel 4 [3, 0, 0, 0] rfl))) rfl ?_
              clear hS; rintro _ w ⟨a1, c1, rfl, hS⟩
              replace hS := hS.n9 L (a0 := Own 121 2 (en2 (lins e.1 e.2 x1.es)) a1 c1) rfl
              refine WL.ung rfl rfl rfl <| WL.r 1 rfl <| WL.ung rfl rfl rfl <| WL.lit rfl rfl (u64s [y1]) el_45 hS (by exact ⟨rfl, rfl⟩) (u64s_ok _) rfl (Nat.le_of_ble_eq_true rfl) (fun b2 w hS => ?_)
              refine WL.ung rfl rfl rfl ?_
              replace hS := (hS.at_ 1 rfl).share
              replace hS := hS.n10 L (a0 := Sh 121 2 (en2 (lins e.1 e.2 x1.es)) a1 c1) (a1 := Own 23 1 (u64s [y1]) (some ⟨b2, 0, none⟩) (List.length (u64s [y1]))) rfl
              replace hS := (hS.at_ 1 rfl).share
              replace hS := hS.n10 L (a0 := Sh 23 1 (u64s [y1]) (some ⟨b2, 0, none⟩) (List.length (u64s [y1]))) rfl
              refine WL.call rfl rfl (wcommit (p := p) (s := s) (a := a) (V := V) (A := A1) (z := z) (m := 12 + (n + 1)) (hs := hs) (u := u) (d := d) (root := j1) (xe := lins e.1 e.2 x1.es) (xa := a1) (xc := c1) (ps := [y1]) (pa := some ⟨b2, 0, none⟩) (pc := List.length (u64s [y1])) (hW := (hWu.one f4)) (hx := (by omega)) (ht := (fun _ => ⟨_, f4.is, Tr.ins_ok _ _ t t2, by rw [hins, t4]; exact lins_srt hl2, by rw [hins, t4]⟩)) (hps := (fun q hq => by rw [List.mem_singleton.1 hq]; exact f1)) (hpl := (by simp)) (hla := (by omega)) (hhs := hB.hr) (hhl := (by omega)) (hS := (hS.sel 9 [8, 6, 5, 3, 3, 1, 0, 0, 0] rfl))) rfl ?_
              clear hS; rintro _ w ⟨V1, A2, z1, hs1, u1, d1, rfl, hS, f5, f6, f7⟩
              replace hS := hS.n8 L (a0 := cel p #[.pointer (some ⟨s, 0, none⟩), .int .i64 z1.cap, .int .i64 z1.T.s.cap, .slice z1.ra (List.length (u32s z1.T.s.rel)) z1.rc, .int .i64 (z1.T.s.fresh + 1), .slice z1.ga (List.length (u32s (z1.T.s.gen.drop 1))) z1.gc, .slice z1.oa (List.length (bos (z1.T.s.used.drop 1))) z1.oc, .slice z1.va (List.length (u32s (z1.T.vals.drop 1))) z1.vc, .int .i64 z1.cap, .slice z1.pa (List.length (enP z1.P)) z1.pc, .slice z1.ba (List.length (bos z1.B)) z1.bc, .slice z1.la (List.length (enL z1.LL)) z1.lc, .slice u1 (List.length (u64s hs1)) d1] 47) (a1 := Own 23 1 (u64s hs1) u1 d1) (a2 := Vst s a V1) (a3 := Arn a A2) (a4 := Shs rsF [z1]) rfl
              refine WL.r 2 rfl <| WL.nil ?_
              as_aux_lemma =>
              refine WC.ret ?_
              refine ⟨[.bool true], rfl, ?_⟩
              replace hS := (hS.sel 7 [0, 0, 0, 0, 0] rfl)
              exact ⟨_, _, _, _, _, _, rfl, hS, f5, hB.of f6.1 (f6.2.2.trans f4.cap) f7.1 f7.2, f6.2.1⟩
end Go.Proofs.YtbeacjcmdijdmaaGreat
/-! ## V8 -/
namespace Go.Proofs.YtbeacjcmdijdmaaGreat
open Go Go.V Go.RowKit Go.Maps
theorem rs_at {V : VM} {ss : List Int} (hp : ss.Perm (V.rs.map RN.n)) {k : Nat} {x : Int} (h : ss[k]? = some x) : ∃ (j : Nat) (r : RN), V.rs[j]? = some r ∧ r.n = x := by
  obtain ⟨r, hr, e⟩ := List.mem_map.1 (hp.mem_iff.1 (List.mem_of_getElem? h))
  obtain ⟨j, hj⟩ := List.mem_iff_getElem?.1 hr
  exact ⟨j, r, hj, e⟩
set_option maxRecDepth 8192 in
theorem vs_refs {g w : World} {L : List HP} (s a : Nat) (V : VM) (ss : List Int) (hk : KOk rK RN.n V.rs V.q2) (hp : ss.Perm (V.rs.map RN.n)) (hs : ss.Pairwise (· ≤ ·)) (hl : ss.length ≤ 100000) (hS : St g (Vst s a V :: L) w) :
    Sp Tryz.prog 19 [.pointer (some ⟨s, 0, none⟩)] w (fun v w' => ∃ (a2 : Option Addr) (c2 : Nat), v = .slice a2 (List.length (u32s (ss.map V.rootOf))) c2 ∧ St g (Own 64 1 (u32s (ss.map V.rootOf)) a2 c2 :: Vst s a V :: L) w') := by
  refine Sp.enter Tryz.func19 rfl (by kernel_rfl) (by kernel_rfl) ?_
  have _ := hl
  refine WC.seq <| WC.region <| WL.r 1 rfl <| WL.nil <| WC.seq <| WC.region <| WL.r 1 rfl <| WL.nil <| WC.seq <| WC.seq <| WC.region ?_
  have hsl := i64s_len ss
  refine WL.r 1 rfl <| WL.call rfl rfl (vs_ret (s := s) (a := a) (V := V) (ss := ss) (hk := hk) (hp := hp) (hs := hs) (hS := hS)) rfl ?_
  clear hS; rintro _ w ⟨a1, c1, rfl, hS⟩
  replace hS := hS.n2 L (a0 := Own 3 1 (i64s ss) a1 c1) rfl
  refine WL.r 2 rfl <| WL.nil <| WC.block ?_
  replace hS := hS.nil_ 64 1
  refine WC.loop [0, 2, 3, 7, 8, 9] (fun kM vs w => ∃ (k : Nat) (acc : List Int) (u : Option Addr) (d : Nat), vs = [.pointer (some ⟨s, 0, none⟩), .slice none 0 0, .slice u (List.length (u32s acc)) d, .slice a1 (List.length (i64s ss)) c1, .int .i64 (List.length (i64s ss) : Int), .int .i64 (k : Int)] ∧ St g (Own 64 1 (u32s acc) u d :: Own 3 1 (i64s ss) a1 c1 :: Vst s a V :: L) w ∧ (k ≤ ss.length) ∧ (acc = (ss.take k).map V.rootOf) ∧ (ss.length - k) = kM) ((List.length ss) - 0) ⟨0, [], none, 0, rfl, hS, (Nat.zero_le _), (rfl), rfl⟩ ?_
  clear hS; rintro _ _ w j ⟨k, acc, u, d, rfl, hS, hkl, ha, rfl⟩
  refine WC.seq <| WC.region ?_
  have hsl := i64s_len ss
  refine WL.r 1 rfl <| WL.nil ?_
  as_aux_lemma =>
  refine WC.seq <| WC.ifP rfl (fun cd1 => ?_) (fun cd1 => ?_)
  · refine WC.skip <| WC.seq <| WC.block <| WC.seq <| WC.region ?_
    obtain ⟨x, hx⟩ : ∃ x, ss[k]? = some x := ⟨_, List.getElem?_eq_getElem (by omega)⟩; obtain ⟨j, r, hr, hn⟩ := rs_at hp hx; have hul := u32s_len acc; have hml : acc.length = k := (by rw [ha, List.length_map, List.length_take]; omega)
    refine WL.ix rfl rfl (i := (k : Int)) (k) el_56 rfl rfl (by omega) (by omega) (hS.rdO 1 rfl (i64s_at hx)).1 ?_
    refine WL.run 2 [.int .i64 x] rfl (by exact (hS.rdO 1 rfl (i64s_at hx)).2 0 _ rfl) ?_
    refine WL.nil <| WC.region ?_
    obtain ⟨⟨vt, vp, vm, vr⟩, hS⟩ := St.exOpen (f := vstF s a V) (hS.at_ 2 rfl)
    replace hS := hS.n8 L (a0 := cel s #[.pointer (some ⟨a, 0, none⟩), .pointer (some ⟨vt, 0, none⟩), .pointer (some ⟨vp, 0, none⟩), .map (some vr), .int .i64 V.cap] 144) (a1 := Tbl vt V.T) (a2 := cel vp #[.int .i64 V.cap, .int .i64 V.last, .map (some vm)] 231) (a3 := blk vm (.map (mE (List.map vK V.xs)) V.q)) (a4 := Shs vF V.xs) (a5 := blk vr (.map (mE (List.map rK V.rs)) V.q2)) rfl
    refine WL.run 7 [.map (some vr)] rfl (by exact hS.ld 0 rfl rfl) ?_
    refine WL.lk rfl rfl mt_140 5 hS rfl rfl rfl (by first | trivial | rfl) (r := some (j, .int .u32 r.root)) (hn ▸ ki_in hk.key hk.uniq hr) rfl ?_
    refine WL.lit rfl rfl (u32s [r.root]) el_32 hS (by exact ⟨rfl, rfl⟩) (u32s_ok _) rfl (Nat.le_of_ble_eq_true rfl) (fun b1 w hS => ?_)
    refine WL.app rfl rfl 7 (u32s (acc ++ [r.root])) el_32 hS rfl (hS.srcO 0 rfl) (u32s_app _ _).symm (Rm.of (by first | omega | (simp <;> omega)) (by decide)) rfl rfl (fun a2 c2 w hS => ?_)
    replace hS := hS.n9 L (a0 := Own 64 1 (u32s [r.root]) (some ⟨b1, 0, none⟩) (List.length (u32s [r.root]))) (a7 := Own 64 1 (u32s (acc ++ [r.root])) a2 c2) rfl
    refine WL.r 1 rfl <| WL.nil <| WC.region <| WL.r 1 rfl <| WL.nw 23 rfl (w64 (by omega)) ?_
    refine WL.r 1 rfl <| WL.nil ?_
    replace hS := St.exClose (f := vstF s a V) (L := Own 64 1 (u32s [r.root]) (some ⟨b1, 0, none⟩) (List.length (u32s [r.root])) :: Own 64 1 (u32s (acc ++ [r.root])) a2 c2 :: Own 3 1 (i64s ss) a1 c1 :: L) ⟨vt, vp, vm, vr⟩ ((hS.sel 7 [1, 1, 1, 1, 1, 1, 0] rfl))
    replace hS := hS.n4 L (a0 := Vst s a V) rfl
    exact ⟨_, by omega, k + 1, acc ++ [r.root], a2, c2, rfl, (hS.sel 4 [2, 2, 0] rfl), (by omega), (by rw [ha, List.take_add_one, hx, List.map_append, ← hn]; exact congrArg (fun q => _ ++ [q]) (VM.rootOf_at hk.uniq hr).symm), rfl⟩
  · refine WC.exit <| WC.seq <| WC.region <| WL.r 2 rfl <| WL.nil <| WC.ret ?_
    refine ⟨[.slice u (List.length (u32s acc)) d], rfl, ?_⟩
    replace hS := (hS.sel 2 [0] rfl)
    have e9 : k = ss.length := (by omega); subst e9; rw [List.take_length] at ha; subst ha; exact ⟨_, _, rfl, hS⟩
end Go.Proofs.YtbeacjcmdijdmaaGreat
/-! ## Vcl -/
namespace Go.V
open Go Go.RowKit
structure Vc where
  kd : Int
  ca : Int
  cb : Int
  es : Kvs
  a : Option Addr
  c : Nat
  rb : Bool
def vcC (z : Vc) : List Value := [.int .i64 z.kd, .int .u64 z.ca, .int .u64 z.cb, .slice z.a (en2 z.es).length z.c, .bool z.rb]
def vcF (z : Vc) : List HP := [Sh 121 2 (en2 z.es) z.a z.c]
def enV (l : List Vc) : List (List Value) := l.map vcC
@[simp] theorem enV_len (l : List Vc) : (enV l).length = l.length := by simp [enV]
theorem enV_at {l : List Vc} {k : Nat} {z : Vc} (h : l[k]? = some z) : (enV l)[k]? = some [.int .i64 z.kd, .int .u64 z.ca, .int .u64 z.cb, .slice z.a (en2 z.es).length z.c, .bool z.rb] := by simp [enV, h, vcC]
theorem enV_ok (l : List Vc) : OkE 5 (enV l) := fun x hx => by
  obtain ⟨y, _, rfl⟩ := List.mem_map.1 hx
  exact ⟨rfl, fun u hu => by simp [vcC] at hu; rcases hu with rfl | rfl | rfl | rfl | rfl <;> rfl⟩
structure VcOk (z : Vc) : Prop where
  kd : -9223372036854775808 ≤ z.kd ∧ z.kd ≤ 9223372036854775807
  ca : 0 ≤ z.ca ∧ z.ca ≤ 18446744073709551615
  cb : 0 ≤ z.cb ∧ z.cb ≤ 18446744073709551615
  es : z.es.length ≤ maxLen
end Go.V
/-! ## U4 -/
namespace Go.Proofs.YtbeacjcmdijdmaaGreat
open Go Go.V Go.RowKit
theorem live_len (S : SM) : ((AM.mk S [] []).live.length) = (TM.handles ⟨S, []⟩).length := by
  unfold AM.live TM.handles
  rw [List.length_map, List.filter_map, List.length_map]; rfl
theorem hnd_len {T : TM} (h : SOk T.s) : (T.handles.length : Int) = T.s.cap - T.s.free := by
  have h1 := AM.cnt_live (A := AM.mk T.s [] []) h
  rw [live_len] at h1
  have h2 : (AM.mk T.s [] []).s = T.s := rfl
  have h3 : TM.handles ⟨T.s, []⟩ = T.handles := rfl
  rw [h2, h3] at h1; omega
theorem hnd_opn {T : TM} (h : TOk T) {x : Int} (hx : x ∈ T.handles) : T.s.opn x = true ∧ 0 ≤ x ∧ x ≤ 18446744073709551615 := by
  obtain ⟨i, hi, rfl⟩ := List.mem_map.1 hx
  obtain ⟨h1, h2⟩ := List.mem_filter.1 hi
  have h3 := h.s.gen_rng (i : Int)
  have h4 := SM.ok_rng h.s (i := (i : Int)) (by omega) h2
  have h5 := h.s.cap
  have h6 : T.s.cap = (T.s.used.length : Int) - 1 := rfl
  have e : T.s.hd (i : Int) % 4294967296 = (i : Int) := by unfold SM.hd; omega
  refine ⟨?_, by unfold SM.hd; omega, by unfold SM.hd; omega⟩
  unfold SM.opn
  rw [e, h2, decide_eq_true rfl]; rfl
theorem VI.none {V : VM} {A : AM} {R : List Int} (h : VI V A R) (hk : KO V.xs) (h0 : V.T.s.free = V.T.s.cap) : V.xs = [] ∧ V.rs = [] := by
  have hd : ∀ z, liveG V.xs z ≠ true := fun z hz => by
    obtain ⟨i, i0, i1, _⟩ := h.all z hz
    have h1 := AM.cnt_live (A := AM.mk V.T.s [] []) h.t.s
    have h2 : i ∈ (AM.mk V.T.s [] []).live := (AM.mem_live i).2 ⟨i0, i1⟩
    have h3 := List.length_pos_of_mem h2
    have h4 : (AM.mk V.T.s [] []).s = V.T.s := rfl
    rw [h4] at h1; omega
  have hp : ∀ z, preG V.xs z ≠ true := fun z hz => by
    rcases hk z hz with h1 | ⟨_, x, _, h1, _⟩
    · exact hd z h1
    · exact hd x h1
  constructor
  · cases e : V.xs with
    | nil => rfl
    | cons x xs => exact absurd (pre_iff.2 ⟨x, by rw [e]; simp, rfl⟩) (hp x.n)
  · cases e : V.rs with
    | nil => rfl
    | cons r rs => exact absurd ((h.pre r.n).1 ⟨r, by rw [e]; simp, rfl⟩) (hp r.n)
theorem free_all {A : AM} (h : ARf A []) : A.s.free = A.s.cap := by
  have h1 := used_le h (fun _ => .nil) fun _ hr => by cases hr
  have h2 := AM.cnt_live h.s
  simp only [List.map_nil, List.foldr_nil] at h1
  omega
set_option maxRecDepth 8192 in
theorem rnew_q {g w : World} {L : List HP} (cap : Int) (hS : St g (L) w) :
    Sp Tryz.prog 61 [.int .i64 cap] w (fun v w' => v = .agg #[.int .i64 cap, .slice none 0 0, .slice none 0 0] ∧ St g (L) w') := by
  refine Sp.enter Tryz.func61 rfl (by kernel_rfl) (by kernel_rfl) ?_
  refine WC.seq <| WC.region <| WL.new rfl rfl zv_40 hS (fun b1 w hS => ?_)
  refine WL.nil <| WC.seq <| WC.region <| WL.r 1 rfl <| WL.build rfl rfl (cs := [.int .i64 cap, .slice none 0 0, .slice none 0 0]) zv_40 rfl rfl <| WL.stF rfl rfl rfl 0 hS rfl rfl rfl rfl rfl ag_40 (fun w hS => ?_)
  replace hS : St g (cel b1 #[.int .i64 cap, .slice none 0 0, .slice none 0 0] 40 :: L) w := hS
  refine WL.nil <| WC.ret ?_
  refine ⟨[.agg #[.int .i64 cap, .slice none 0 0, .slice none 0 0]], ⟨⟨_, rfl, hS.lvF 0 rfl ag_40⟩, trivial⟩, ?_⟩
  replace hS := (hS.sel 1 [] rfl)
  exact ⟨rfl, hS⟩
set_option maxRecDepth 8192 in
theorem ar_cap {g w : World} {L : List HP} (a : Nat) (A : AM) (hA : AWf A) (hS : St g (Arn a A :: L) w) :
    Sp Tryz.prog 14 [.pointer (some ⟨a, 0, none⟩)] w (fun v w' => v = .int .i64 A.s.cap ∧ St g (Arn a A :: L) w') := by
  refine Sp.enter Tryz.func14 rfl (by kernel_rfl) (by kernel_rfl) ?_
  refine WC.seq <| WC.region ?_
  obtain ⟨⟨ap, na, nc, ca, cc, rd⟩, hS⟩ := St.exOpen (f := arnF a A) hS
  replace hS : St g (cel a #[.pointer (some ⟨ap, 0, none⟩), .slice na (List.length (nds A.nodes)) nc, .slice ca (List.length (i64s A.cnt)) cc, .int .u64 rd] 161 :: Slt ap A.s :: Own 172 8 (nds A.nodes) na nc :: Own 3 1 (i64s A.cnt) ca cc :: L) w := hS
  have hAs := hA.s
  refine WL.r 1 rfl <| WL.nil <| WC.seq <| WC.region <| WL.run 4 [.pointer (some ⟨ap, 0, none⟩)] rfl (by exact hS.ld 0 rfl rfl) ?_
  refine WL.call rfl rfl (sl_cap (s := ap) (S := A.s) (hl := (by first | assumption | exact SOk.le (by assumption))) (hS := (hS.sel 2 [1, 0] rfl))) rfl ?_
  clear hS; rintro _ w ⟨rfl, hS⟩
  replace hS := hS.n4 L rfl
  refine WL.r 1 rfl <| WL.nil <| WC.ret ?_
  replace hS := St.exClose (f := arnF a A) (L := L) ⟨ap, na, nc, ca, cc, rd⟩ ((hS.sel 2 [1, 0] rfl))
  replace hS : St g (Arn a A :: L) w := hS
  refine ⟨[.int .i64 A.s.cap], rfl, ?_⟩
  exact ⟨rfl, hS⟩
set_option maxRecDepth 8192 in
theorem qs_new {g w : World} {L : List HP} (n : Nat) (cz : Int) (hc : cz = (n : Int)) (hn : 1 ≤ n ∧ n ≤ 4096) (hS : St g (L) w) :
    Sp Tryz.prog 12 [.int .i64 cz] w (fun v w' => ∃ (z : RSt), v = .agg #[.int .i64 z.cap, .int .i64 z.T.s.cap, .slice z.ra (List.length (u32s z.T.s.rel)) z.rc, .int .i64 (z.T.s.fresh + 1), .slice z.ga (List.length (u32s (z.T.s.gen.drop 1))) z.gc, .slice z.oa (List.length (bos (z.T.s.used.drop 1))) z.oc, .slice z.va (List.length (u32s (z.T.vals.drop 1))) z.vc, .int .i64 z.cap, .slice z.pa (List.length (enP z.P)) z.pc, .slice z.ba (List.length (bos z.B)) z.bc, .slice z.la (List.length (enL z.LL)) z.lc] ∧ St g (Shs rsF [z] :: L) w' ∧ (z.T = TM.new n ∧ z.cap = n ∧ z.P = [] ∧ z.B = [] ∧ z.LL = [])) := by
  refine Sp.enter Tryz.func12 rfl (by kernel_rfl) (by kernel_rfl) ?_
  refine WC.seq <| WC.region <| WL.new rfl rfl zv_43 hS (fun b1 w hS => ?_)
  refine WL.nil <| WC.seq <| WC.region ?_
  subst hc
  refine WL.r 2 rfl <| WL.call rfl rfl (q_new4 (n := n) (hn := hn) (hS := hS)) rfl ?_
  clear hS; rintro _ w ⟨ga1, oa1, va1, gc1, oc1, vc1, rfl, hS⟩
  replace hS : St g (Sh 64 1 (u32s (TM.new n).s.rel) none 0 :: Sh 64 1 (u32s ((TM.new n).s.gen.drop 1)) ga1 gc1 :: Sh 4 1 (bos ((TM.new n).s.used.drop 1)) oa1 oc1 :: Sh 64 1 (u32s ((TM.new n).vals.drop 1)) va1 vc1 :: cel b1 #[.int .i64 0, .int .i64 0, .slice none 0 0, .int .i64 0, .slice none 0 0, .slice none 0 0, .slice none 0 0, .int .i64 0, .slice none 0 0, .slice none 0 0, .slice none 0 0] 43 :: L) w := hS
  refine WL.r 1 rfl <| WL.call rfl rfl (rnew_q (cap := (n : Int))  (hS := hS)) rfl ?_
  clear hS; rintro _ w ⟨rfl, hS⟩
  replace hS := hS.n5 L rfl
  refine WL.build rfl rfl (cs := [.int .i64 (n : Int), .int .i64 (TM.new n).s.cap, .slice none (List.length (u32s (TM.new n).s.rel)) 0, .int .i64 ((TM.new n).s.fresh + 1), .slice ga1 (List.length (u32s ((TM.new n).s.gen.drop 1))) gc1, .slice oa1 (List.length (bos ((TM.new n).s.used.drop 1))) oc1, .slice va1 (List.length (u32s ((TM.new n).vals.drop 1))) vc1, .int .i64 (n : Int), .slice none 0 0, .slice none 0 0, .slice none 0 0]) zv_43 rfl rfl <| WL.stF rfl rfl rfl 4 hS rfl rfl rfl rfl rfl ag_43 (fun w hS => ?_)
  replace hS := hS.n5 L (a4 := cel b1 #[.int .i64 (n : Int), .int .i64 (TM.new n).s.cap, .slice none (List.length (u32s (TM.new n).s.rel)) 0, .int .i64 ((TM.new n).s.fresh + 1), .slice ga1 (List.length (u32s ((TM.new n).s.gen.drop 1))) gc1, .slice oa1 (List.length (bos ((TM.new n).s.used.drop 1))) oc1, .slice va1 (List.length (u32s ((TM.new n).vals.drop 1))) vc1, .int .i64 (n : Int), .slice none 0 0, .slice none 0 0, .slice none 0 0] 43) rfl
  refine WL.nil <| WC.ret ?_
  refine ⟨[.agg #[.int .i64 (n : Int), .int .i64 (TM.new n).s.cap, .slice none (List.length (u32s (TM.new n).s.rel)) 0, .int .i64 ((TM.new n).s.fresh + 1), .slice ga1 (List.length (u32s ((TM.new n).s.gen.drop 1))) gc1, .slice oa1 (List.length (bos ((TM.new n).s.used.drop 1))) oc1, .slice va1 (List.length (u32s ((TM.new n).vals.drop 1))) vc1, .int .i64 (n : Int), .slice none 0 0, .slice none 0 0, .slice none 0 0]], ⟨⟨_, rfl, hS.lvF 4 rfl ag_43⟩, trivial⟩, ?_⟩
  replace hS := ((((((hS.shsNil leF).nilS 49 1).nilS 4 1).shsNil prF).nilS 56 1).rsPut (RSt.mk n (TM.new n) [] [] [] none ga1 oa1 va1 none none none 0 gc1 oc1 vc1 0 0 0) [5, 5, 5, 5, 0, 0, 0, 0, 0] rfl).sel 11 [0] rfl; exact ⟨_, rfl, hS, rfl, rfl, rfl, rfl, rfl⟩
theorem WR.new {n : Nat} (h1 : 1 ≤ n ∧ n ≤ 4096) {z : RSt} (hz : z.T = TM.new n ∧ z.cap = n ∧ z.P = [] ∧ z.B = [] ∧ z.LL = []) (m : Nat) : WR (VM.new n) (AM.new 2500) [] z m := by
  obtain ⟨e1, e2, e3, e4, e5⟩ := hz
  refine ⟨VI.new (by omega) h1, KO.nil, ?_, e1, e2, by rw [e5, e3]; rfl, fun _ hr => (by cases hr), fun _ hx => (by rw [e5] at hx; cases hx), (show (0 : Int) ≤ 800 by decide), Int.natCast_nonneg _⟩
  rw [e3, e4]; exact RA.nil
set_option maxHeartbeats 2000000 in
set_option maxRecDepth 8192 in
theorem law_relall {g w : World} {L : List HP} (ls : List Vc) (la : Option Addr) (lc : Nat) (od : Int) (hls : ∀ z ∈ ls, VcOk z) (hll : ls.length ≤ maxLen) (hod : 0 ≤ od ∧ od ≤ 18446744073709551615) (hS : St g (Sh 51 5 (enV ls) la lc :: Shs vcF ls :: L) w) :
    Sp Tryz.prog 3 [.slice la (List.length (enV ls)) lc, .int .u64 od] w (fun v w' => v = .bool true ∧ St g (L) w') := by
  refine Sp.enter Tryz.func3 rfl (by kernel_rfl) (by kernel_rfl) ?_
  have _ := hod
  refine WC.seq <| WC.region <| WL.r 1 rfl <| WL.nil <| WC.seq <| WC.seq <| WC.region ?_
  have hel := enV_len ls; have hmx0 : ls.length ≤ 9223372036854775807 := hll
  refine WL.r 3 rfl <| WL.nil <| WC.ifP rfl (fun cd1 => ?_) (fun cd1 => ?_)
  · refine WC.seq <| WC.region <| WL.call rfl rfl (awake22_spec   (hS := hS)) rfl ?_
    clear hS; rintro _ w ⟨rfl, hS⟩
    replace hS := hS.n2 L rfl
    refine WL.r 1 rfl <| WL.nil <| WC.ret ?_
    refine ⟨[.bool true], rfl, ?_⟩
    replace hS := (hS.sel 2 [] rfl)
    exact ⟨rfl, hS⟩
  · refine WC.skip <| WC.seq <| WC.region <| WL.call rfl rfl (vs_new_ok (sl := 2500) (cap := 40) (hc := (by decide)) (hs := (by decide)) (hS := hS)) rfl ?_
    clear hS; rintro _ w ⟨s1, a1, rfl, hS⟩
    replace hS := hS.n4 L (a0 := Vst s1 a1 (VM.new 40)) (a1 := Arn a1 (AM.new 2500)) rfl
    refine WL.r 5 rfl <| WL.nil <| WC.seq <| WC.seq <| WC.region <| WL.call rfl rfl (awake22_spec   (hS := hS)) rfl ?_
    clear hS; rintro _ w ⟨rfl, hS⟩
    replace hS := hS.n4 L rfl
    refine WL.r 2 rfl <| WL.ung rfl rfl rfl <| WL.r 1 rfl <| WL.ung rfl rfl rfl <| WL.r 3 rfl <| WL.reb 29 (.bool false) (congrArg Value.bool (decide_eq_false (by decide))) ?_
    refine WL.ung rfl rfl rfl <| WL.r 1 rfl <| WL.ung rfl rfl rfl <| WL.r 3 rfl <| WL.ung rfl rfl rfl <| WL.r 1 rfl <| WL.ung rfl rfl rfl <| WL.call rfl rfl (vs_arena (s := s1) (a := a1) (V := VM.new 40)  (hS := hS)) rfl ?_
    clear hS; rintro _ w ⟨rfl, hS⟩
    replace hS := hS.n4 L rfl
    refine WL.ung rfl rfl rfl <| WL.r 2 rfl <| WL.nil ?_
    as_aux_lemma =>
    refine WC.ifF rfl rfl <| WC.skip <| WC.seq <| WC.region <| WL.r 1 rfl <| WL.call rfl rfl (qs_new (n := 40) (cz := 40) (hc := rfl) (hn := (by decide)) (hS := hS)) rfl ?_
    clear hS; rintro _ w ⟨z1, rfl, hS, f1⟩
    replace hS := hS.n5 L (a0 := Shs rsF [z1]) rfl
    refine WL.build rfl rfl (cs := [.pointer (some ⟨s1, 0, none⟩), .int .i64 z1.cap, .int .i64 z1.T.s.cap, .slice z1.ra (List.length (u32s z1.T.s.rel)) z1.rc, .int .i64 (z1.T.s.fresh + 1), .slice z1.ga (List.length (u32s (z1.T.s.gen.drop 1))) z1.gc, .slice z1.oa (List.length (bos (z1.T.s.used.drop 1))) z1.oc, .slice z1.va (List.length (u32s (z1.T.vals.drop 1))) z1.vc, .int .i64 z1.cap, .slice z1.pa (List.length (enP z1.P)) z1.pc, .slice z1.ba (List.length (bos z1.B)) z1.bc, .slice z1.la (List.length (enL z1.LL)) z1.lc, .slice none 0 0]) zv_47 rfl rfl <| WL.box rfl rfl #[.pointer (some ⟨s1, 0, none⟩), .int .i64 z1.cap, .int .i64 z1.T.s.cap, .slice z1.ra (List.length (u32s z1.T.s.rel)) z1.rc, .int .i64 (z1.T.s.fresh + 1), .slice z1.ga (List.length (u32s (z1.T.s.gen.drop 1))) z1.gc, .slice z1.oa (List.length (bos (z1.T.s.used.drop 1))) z1.oc, .slice z1.va (List.length (u32s (z1.T.vals.drop 1))) z1.vc, .int .i64 z1.cap, .slice z1.pa (List.length (enP z1.P)) z1.pc, .slice z1.ba (List.length (bos z1.B)) z1.bc, .slice z1.la (List.length (enL z1.LL)) z1.lc, .slice none 0 0] hS rfl rfl (fun b1 w hS => ?_)
    refine WL.r 1 rfl <| WL.nil <| WC.seq <| WC.seq <| WC.region <| WL.r 1 rfl <| WL.nil <| WC.block ?_
    replace hS := hS.nil_ 23 1
    replace hS := hS.n7 L (a0 := Own 23 1 (u64s []) none 0) (a1 := cel b1 #[.pointer (some ⟨s1, 0, none⟩), .int .i64 z1.cap, .int .i64 z1.T.s.cap, .slice z1.ra (List.length (u32s z1.T.s.rel)) z1.rc, .int .i64 (z1.T.s.fresh + 1), .slice z1.ga (List.length (u32s (z1.T.s.gen.drop 1))) z1.gc, .slice z1.oa (List.length (bos (z1.T.s.used.drop 1))) z1.oc, .slice z1.va (List.length (u32s (z1.T.vals.drop 1))) z1.vc, .int .i64 z1.cap, .slice z1.pa (List.length (enP z1.P)) z1.pc, .slice z1.ba (List.length (bos z1.B)) z1.bc, .slice z1.la (List.length (enL z1.LL)) z1.lc, .slice none (List.length (u64s [])) 0] 47) rfl
    refine WC.loop [0, 1, 5, 7, 8] (fun kM vs w => ∃ (k : Nat) (V : VM) (A : AM) (y : RSt) (hs : List Int) (u : Option Addr) (d : Nat), vs = [.slice la (List.length (enV ls)) lc, .int .u64 od, .pointer (some ⟨s1, 0, none⟩), .pointer (some ⟨b1, 0, none⟩), .int .i64 (k : Int)] ∧ St g (Own 23 1 (u64s hs) u d :: cel b1 #[.pointer (some ⟨s1, 0, none⟩), .int .i64 y.cap, .int .i64 y.T.s.cap, .slice y.ra (List.length (u32s y.T.s.rel)) y.rc, .int .i64 (y.T.s.fresh + 1), .slice y.ga (List.length (u32s (y.T.s.gen.drop 1))) y.gc, .slice y.oa (List.length (bos (y.T.s.used.drop 1))) y.oc, .slice y.va (List.length (u32s (y.T.vals.drop 1))) y.vc, .int .i64 y.cap, .slice y.pa (List.length (enP y.P)) y.pc, .slice y.ba (List.length (bos y.B)) y.bc, .slice y.la (List.length (enL y.LL)) y.lc, .slice u (List.length (u64s hs)) d] 47 :: Shs rsF [y] :: Vst s1 a1 V :: Arn a1 A :: Sh 51 5 (enV ls) la lc :: Shs vcF ls :: L) w ∧ (k ≤ ls.length) ∧ (WR V A [] y (12 + k)) ∧ (StB V A hs k) ∧ (V.cap = 40) ∧ (ls.length - k) = kM) ((List.length ls) - 0) ⟨0, VM.new 40, AM.new 2500, z1, [], none, 0, rfl, hS, (Nat.zero_le _), (WR.new (by decide) f1 12), (⟨Int.le_refl 0, Nat.zero_le _, fun _ h => (by cases h), List.length_replicate⟩), (rfl), rfl⟩ ?_
    clear hS; rintro _ _ w j ⟨k, V, A, y, hs, u, d, rfl, hS, hk, hW, hB, hcp, rfl⟩
    refine WC.seq <| WC.seq <| WC.region <| WL.r 4 rfl <| WL.nil ?_
    as_aux_lemma =>
    refine WC.ifP rfl (fun cd2 => ?_) (fun cd2 => ?_)
    · refine WC.skip <| WC.seq <| WC.block <| WC.seq <| WC.region ?_
      obtain ⟨z, hz⟩ : ∃ z, ls[k]? = some z := ⟨_, List.getElem?_eq_getElem (by omega)⟩; have hzk := hls z (List.mem_of_getElem? hz)
      replace hS : St g (Sh 121 2 (en2 z.es) z.a z.c :: Own 23 1 (u64s hs) u d :: cel b1 #[.pointer (some ⟨s1, 0, none⟩), .int .i64 y.cap, .int .i64 y.T.s.cap, .slice y.ra (List.length (u32s y.T.s.rel)) y.rc, .int .i64 (y.T.s.fresh + 1), .slice y.ga (List.length (u32s (y.T.s.gen.drop 1))) y.gc, .slice y.oa (List.length (bos (y.T.s.used.drop 1))) y.oc, .slice y.va (List.length (u32s (y.T.vals.drop 1))) y.vc, .int .i64 y.cap, .slice y.pa (List.length (enP y.P)) y.pc, .slice y.ba (List.length (bos y.B)) y.bc, .slice y.la (List.length (enL y.LL)) y.lc, .slice u (List.length (u64s hs)) d] 47 :: Shs rsF [y] :: Vst s1 a1 V :: Arn a1 A :: Sh 51 5 (enV ls) la lc :: Shs vcF ls :: L) w := hS.shsGet 6 rfl (List.mem_of_getElem? hz)
      refine WL.r 3 rfl <| WL.ix rfl rfl (i := (k : Int)) (k) el_22 rfl rfl (by omega) (by omega) (hS.rdS 6 rfl (enV_at hz)).1 ?_
      refine WL.ldC rfl rfl [.int .i64 z.kd, .int .u64 z.ca, .int .u64 z.cb, .slice z.a (List.length (en2 z.es)) z.c, .bool z.rb] ag_51 rfl (hS.rdS 6 rfl (enV_at hz)).2 <| WL.call rfl rfl (wstep (p := b1) (s := s1) (a := a1) (V := V) (A := A) (z := y) (n := k) (hs := hs) (u := u) (d := d) (kd := z.kd) (ca := z.ca) (cb := z.cb) (es := z.es) (ea := z.a) (ec := z.c) (rb := z.rb) (hW := hW) (hB := hB) (hn := (by omega)) (hkd := hzk.kd) (hca := hzk.ca) (hcb := hzk.cb) (hel := hzk.es) (hS := (hS.sel 6 [2, 1, 2, 2, 1, 0] rfl))) rfl ?_
      clear hS; rintro _ w ⟨V1, A1, z2, hs1, u1, d1, rfl, hS, f2, f3⟩
      replace hS := hS.n8 L (a0 := cel b1 #[.pointer (some ⟨s1, 0, none⟩), .int .i64 z2.cap, .int .i64 z2.T.s.cap, .slice z2.ra (List.length (u32s z2.T.s.rel)) z2.rc, .int .i64 (z2.T.s.fresh + 1), .slice z2.ga (List.length (u32s (z2.T.s.gen.drop 1))) z2.gc, .slice z2.oa (List.length (bos (z2.T.s.used.drop 1))) z2.oc, .slice z2.va (List.length (u32s (z2.T.vals.drop 1))) z2.vc, .int .i64 z2.cap, .slice z2.pa (List.length (enP z2.P)) z2.pc, .slice z2.ba (List.length (bos z2.B)) z2.bc, .slice z2.la (List.length (enL z2.LL)) z2.lc, .slice u1 (List.length (u64s hs1)) d1] 47) (a1 := Own 23 1 (u64s hs1) u1 d1) (a2 := Vst s1 a1 V1) (a3 := Arn a1 A1) (a4 := Shs rsF [z2]) (a5 := Sh 121 2 (en2 z.es) z.a z.c) rfl
      refine WL.r 1 rfl <| WL.nil <| WC.ifF rfl rfl <| WC.skip <| WC.region <| WL.r 2 rfl <| WL.nw 47 rfl (w64 (by omega)) ?_
      refine WL.r 1 rfl <| WL.nil ?_
      exact ⟨_, by omega, k + 1, V1, A1, z2, hs1, u1, d1, rfl, (hS.sel 6 [1, 0, 2, 0, 0] rfl), (by omega), (f2), (f3.1), (f3.2.trans hcp), rfl⟩
    · refine WC.exit <| WC.seq <| WC.region ?_
      have hVI := hW.vi; have hAw := hVI.ref.toAWf; have hfr0 := hAw.s.free_rng; have hce : A.s.cap = 2500 := (by show (A.s.used.length : Int) - 1 = 2500; rw [hB.ac]; rfl); have hcf := AM.cnt_live hAw.s
      refine WL.r 1 rfl <| WL.call rfl rfl (vs_arena (s := s1) (a := a1) (V := V)  (hS := (hS.sel 4 [3, 0, 0, 0] rfl))) rfl ?_
      clear hS; rintro _ w ⟨rfl, hS⟩
      replace hS := hS.n7 L rfl
      refine WL.call rfl rfl (ar_cap (a := a1) (A := A) (hA := hAw) (hS := (hS.sel 5 [4, 0, 0, 0, 0] rfl))) rfl ?_
      clear hS; rintro _ w ⟨rfl, hS⟩
      replace hS := hS.n7 L rfl
      refine WL.r 1 rfl <| WL.call rfl rfl (vs_arena (s := s1) (a := a1) (V := V)  (hS := (hS.sel 2 [1, 0] rfl))) rfl ?_
      clear hS; rintro _ w ⟨rfl, hS⟩
      replace hS := hS.n7 L rfl
      refine WL.call rfl rfl (ar_free (a := a1) (A := A) (hA := hAw) (hS := (hS.sel 2 [1, 0] rfl))) rfl ?_
      clear hS; rintro _ w ⟨rfl, hS⟩
      replace hS := hS.n7 L rfl
      refine WL.r 1 rfl <| WL.nw 61 rfl (w64 (by omega)) ?_
      refine WL.r 2 rfl <| WL.nil <| WC.seq <| WC.seq <| WC.region <| WL.r 1 rfl <| WL.nil ?_
      as_aux_lemma =>
      refine WC.block <| WC.loop [1, 5, 9, 10, 11] (fun kM vs w => ∃ (k2 : Nat) (V2 : VM) (A2 : AM) (fr : Int), vs = [.int .u64 od, .pointer (some ⟨s1, 0, none⟩), .int .i64 (A.s.cap - A.s.free), .int .i64 fr, .int .i64 (k2 : Int)] ∧ St g (Arn a1 A2 :: Vst s1 a1 V2 :: Own 23 1 (u64s hs) u d :: cel b1 #[.pointer (some ⟨s1, 0, none⟩), .int .i64 y.cap, .int .i64 y.T.s.cap, .slice y.ra (List.length (u32s y.T.s.rel)) y.rc, .int .i64 (y.T.s.fresh + 1), .slice y.ga (List.length (u32s (y.T.s.gen.drop 1))) y.gc, .slice y.oa (List.length (bos (y.T.s.used.drop 1))) y.oc, .slice y.va (List.length (u32s (y.T.vals.drop 1))) y.vc, .int .i64 y.cap, .slice y.pa (List.length (enP y.P)) y.pc, .slice y.ba (List.length (bos y.B)) y.bc, .slice y.la (List.length (enL y.LL)) y.lc, .slice u (List.length (u64s hs)) d] 47 :: Shs rsF [y] :: Sh 51 5 (enV ls) la lc :: Shs vcF ls :: L) w ∧ (VI V2 A2 []) ∧ (KO V2.xs) ∧ (fr = A2.s.free - A.s.free) ∧ (V2.cap = 40) ∧ (A2.s.used.length = A.s.used.length) ∧ ((k2 : Int) ≤ V2.T.s.free) ∧ (60 - k2) = kM) (60 - 0) ⟨0, V, A, 0, rfl, hS, (hVI), (hW.ko), (by omega), (hcp), (rfl), (by have := hVI.t.s.free_rng; omega), rfl⟩ ?_
      clear hS; rintro _ _ w j ⟨k2, V2, A2, fr, rfl, hS, hV2, hK2, hfr, hc2, hu2, hfk, rfl⟩
      refine WC.seq <| WC.seq <| WC.region <| WL.r 2 rfl <| WL.nil <| WC.ifP rfl (fun cd3 => ?_) (fun cd3 => ?_)
      · refine WC.skip <| WC.seq <| WC.block <| WC.seq <| WC.region ?_
        have hhl := hnd_len hV2.t.s; have hul := u64s_len V2.T.handles; have hcp2 := hV2.cp; have hfr2 := hV2.t.s.free_rng
        refine WL.r 1 rfl <| WL.call rfl rfl (vs_handles (s := s1) (a := a1) (V := V2) (hT := hV2.t) (hS := (hS.sel 2 [1, 0] rfl))) rfl ?_
        clear hS; rintro _ w ⟨a2, c1, rfl, hS⟩
        replace hS := hS.n8 L (a0 := Own 23 1 (u64s V2.T.handles) a2 c1) rfl
        refine WL.r 1 rfl <| WL.nil <| WC.seq <| WC.seq <| WC.region <| WL.r 3 rfl <| WL.nil ?_
        as_aux_lemma =>
        refine WC.ifP rfl (fun cd4 => ?_) (fun cd4 => ?_)
        · refine WC.exit <| WC.seq <| WC.region ?_
          have hhl9 := hnd_len hV2.t.s; have hul9 := u64s_len V2.T.handles; have hcp9 := hV2.cp; have hz9 : V2.T.s.free = V2.T.s.cap := (by omega); obtain ⟨hx9, hr9⟩ := VI.none hV2 hK2 hz9; have hfa := free_all (A := A2) (by have h8 := hV2.ref; rw [hr9] at h8; exact h8); have hc9 : A2.s.cap = A.s.cap := (by show (A2.s.used.length : Int) - 1 = (A.s.used.length : Int) - 1; rw [hu2])
          refine WL.r 1 rfl <| WL.call rfl rfl (vs_handles (s := s1) (a := a1) (V := V2) (hT := hV2.t) (hS := (hS.sel 2 [1, 0] rfl))) rfl ?_
          clear hS; rintro _ w ⟨a3, c2, rfl, hS⟩
          replace hS := hS.n9 L (a0 := Own 23 1 (u64s V2.T.handles) a3 c2) rfl
          refine WL.r 3 rfl <| WL.reb 93 (.bool true) (congrArg Value.bool (decide_eq_true cd4)) <| WL.ung rfl rfl rfl <| WL.r 1 rfl <| WL.ung rfl rfl rfl <| WL.call rfl rfl (vs_ret (s := s1) (a := a1) (V := V2) (ss := []) (hk := hV2.k) (hp := (by rw [hr9]; exact List.Perm.refl _)) (hs := List.Pairwise.nil) (hS := (hS.sel 2 [1, 0] rfl))) rfl ?_
          clear hS; rintro _ w ⟨a4, c3, rfl, hS⟩
          replace hS := hS.n10 L (a0 := Own 3 1 (i64s []) a4 c3) rfl
          refine WL.ung rfl rfl rfl <| WL.r 1 rfl <| WL.ung rfl rfl rfl <| WL.r 3 rfl <| WL.reb 99 (.bool true) (congrArg Value.bool (decide_eq_true (rfl))) <| WL.ung rfl rfl rfl <| WL.r 1 rfl <| WL.ung rfl rfl rfl <| WL.call rfl rfl (vs_refs (s := s1) (a := a1) (V := V2) (ss := []) (hk := hV2.k) (hp := (by rw [hr9]; exact List.Perm.refl _)) (hs := List.Pairwise.nil) (hl := (by decide)) (hS := (hS.sel 2 [1, 0] rfl))) rfl ?_
          clear hS; rintro _ w ⟨a5, c4, rfl, hS⟩
          replace hS := hS.n11 L (a0 := Own 64 1 (u32s (([]).map V2.rootOf)) a5 c4) rfl
          refine WL.ung rfl rfl rfl <| WL.r 1 rfl <| WL.ung rfl rfl rfl <| WL.r 3 rfl <| WL.reb 105 (.bool true) (congrArg Value.bool (decide_eq_true (rfl))) <| WL.ung rfl rfl rfl <| WL.r 1 rfl <| WL.ung rfl rfl rfl <| WL.r 1 rfl <| WL.ung rfl rfl rfl <| WL.r 3 rfl <| WL.reb 110 (.bool true) (congrArg Value.bool (decide_eq_true ((by omega)))) ?_
          refine WL.ung rfl rfl rfl <| WL.r 1 rfl <| WL.ung rfl rfl rfl <| WL.call rfl rfl (vs_arena (s := s1) (a := a1) (V := V2)  (hS := (hS.sel 2 [1, 0] rfl))) rfl ?_
          clear hS; rintro _ w ⟨rfl, hS⟩
          replace hS := hS.n11 L rfl
          refine WL.ung rfl rfl rfl <| WL.call rfl rfl (ar_free (a := a1) (A := A2) (hA := hV2.ref.toAWf) (hS := (hS.sel 6 [5, 0, 0, 0, 0, 0] rfl))) rfl ?_
          clear hS; rintro _ w ⟨rfl, hS⟩
          replace hS := hS.n11 L rfl
          refine WL.ung rfl rfl rfl <| WL.r 1 rfl <| WL.ung rfl rfl rfl <| WL.call rfl rfl (vs_arena (s := s1) (a := a1) (V := V2)  (hS := (hS.sel 2 [1, 0] rfl))) rfl ?_
          clear hS; rintro _ w ⟨rfl, hS⟩
          replace hS := hS.n11 L rfl
          refine WL.ung rfl rfl rfl <| WL.call rfl rfl (ar_cap (a := a1) (A := A2) (hA := hV2.ref.toAWf) (hS := (hS.sel 2 [1, 0] rfl))) rfl ?_
          clear hS; rintro _ w ⟨rfl, hS⟩
          replace hS := hS.n11 L rfl
          refine WL.ung rfl rfl rfl <| WL.r 3 rfl <| WL.nil ?_
          as_aux_lemma =>
          refine WC.ret ?_
          refine ⟨[.bool (decide (A2.s.free = A2.s.cap))], rfl, ?_⟩
          replace hS := (hS.sel 11 [] rfl)
          exact ⟨congrArg Value.bool (decide_eq_true hfa), hS⟩
        · refine WC.skip <| WC.seq <| WC.region ?_
          obtain ⟨m1, hm1⟩ : ∃ m : Nat, V2.T.handles.length = m + 1 := ⟨V2.T.handles.length - 1, by omega⟩; have ho1 : Int.ofNat (m1 + 1) = (m1 : Int) + 1 := rfl; have hp0 := Int.emod_nonneg od (b := Int.ofNat (m1 + 1)) (by omega); have hp1 := Int.emod_lt_of_pos od (b := Int.ofNat (m1 + 1)) (by omega); obtain ⟨h, hh⟩ : ∃ y, V2.T.handles[(od % Int.ofNat (m1 + 1)).toNat]? = some y := ⟨_, List.getElem?_eq_getElem (by omega)⟩; obtain ⟨hho, hhr⟩ := hnd_opn hV2.t (List.mem_of_getElem? hh)
          refine WL.r 6 rfl <| WL.reb 77 (.int .u64 (Int.ofNat (m1 + 1))) (congrArg (Value.int .u64) (by rw [wu64 (by omega)]; omega)) ?_
          refine WL.r 1 rfl <| WL.reb 78 (.int .u64 (od % (Int.ofNat (m1 + 1)))) (congrArg (Value.int .u64) (Int.tmod_eq_emod_of_nonneg (a := od) (by omega))) ?_
          refine WL.ix rfl rfl (i := od % (Int.ofNat (m1 + 1))) ((od % Int.ofNat (m1 + 1)).toNat) el_45 rfl rfl (by omega) (by omega) (hS.rdO 0 rfl (u64s_at hh)).1 ?_
          refine WL.run 1 [.int .u64 h] rfl (by exact (hS.rdO 0 rfl (u64s_at hh)).2 0 _ rfl) ?_
          refine WL.call rfl rfl (vs_release (s := s1) (a := a1) (V := V2) (A := A2) (R := []) (h := h) (hV := hV2) (hh := hhr) (hn := hho) (hlen := (by simp)) (hS := (hS.sel 3 [1, 1, 0] rfl))) rfl ?_
          clear hS; rintro _ w ⟨V1, A1, f2, rfl, hS, f3, f4, f5, f6⟩
          replace hS := hS.n8 L (a0 := Vst s1 a1 V1) (a1 := Arn a1 A1) rfl
          refine WL.r 5 rfl <| WL.nil <| WC.seq <| WC.seq <| WC.region <| WL.r 2 rfl <| WL.nil <| WC.ifF rfl (decide_eq_false ((by decide))) ?_
          refine WC.skip <| WC.region ?_
          have hz1 := f3.ref.toAWf.s.free_rng; have hz2 := f5.1; have hz3 := hV2.ref.toAWf.s.free_rng
          refine WL.r 3 rfl <| WL.nw 88 rfl (w64 (by omega)) ?_
          refine WL.r 1 rfl <| WL.nil ?_
          as_aux_lemma =>
          refine WC.region <| WL.r 2 rfl <| WL.nw 65 rfl (w64 (by omega)) ?_
          refine WL.r 1 rfl <| WL.nil ?_
          exact ⟨_, by omega, k2 + 1, V1, A1, fr + f2, rfl, (hS.sel 3 [1, 0] rfl), (f3), (hK2.rel hV2.g.ok f4.rel), (by have := f5.1; omega), ((congrArg VM.cap f4.eq).trans hc2), (f5.2.trans hu2), (by have h9 : V1.T.s.free = V2.T.s.free + 1 := (by rw [congrArg VM.T f4.eq]; exact SM.release_free _); omega), rfl⟩
      · refine WC.exit <| WC.seq <| WC.region ?_
        have hhl9 := hnd_len hV2.t.s; have hul9 := u64s_len V2.T.handles; have hcp9 := hV2.cp; have hz9 : V2.T.s.free = V2.T.s.cap := (by omega); obtain ⟨hx9, hr9⟩ := VI.none hV2 hK2 hz9; have hfa := free_all (A := A2) (by have h8 := hV2.ref; rw [hr9] at h8; exact h8); have hc9 : A2.s.cap = A.s.cap := (by show (A2.s.used.length : Int) - 1 = (A.s.used.length : Int) - 1; rw [hu2])
        refine WL.r 1 rfl <| WL.call rfl rfl (vs_handles (s := s1) (a := a1) (V := V2) (hT := hV2.t) (hS := (hS.sel 2 [1, 0] rfl))) rfl ?_
        clear hS; rintro _ w ⟨a2, c1, rfl, hS⟩
        replace hS := hS.n8 L (a0 := Own 23 1 (u64s V2.T.handles) a2 c1) rfl
        refine WL.r 3 rfl <| WL.reb 93 (.bool true) (congrArg Value.bool (decide_eq_true ((by omega)))) ?_
        refine WL.ung rfl rfl rfl <| WL.r 1 rfl <| WL.ung rfl rfl rfl <| WL.call rfl rfl (vs_ret (s := s1) (a := a1) (V := V2) (ss := []) (hk := hV2.k) (hp := (by rw [hr9]; exact List.Perm.refl _)) (hs := List.Pairwise.nil) (hS := (hS.sel 2 [1, 0] rfl))) rfl ?_
        clear hS; rintro _ w ⟨a3, c2, rfl, hS⟩
        replace hS := hS.n9 L (a0 := Own 3 1 (i64s []) a3 c2) rfl
        refine WL.ung rfl rfl rfl <| WL.r 1 rfl <| WL.ung rfl rfl rfl <| WL.r 3 rfl <| WL.reb 99 (.bool true) (congrArg Value.bool (decide_eq_true (rfl))) <| WL.ung rfl rfl rfl <| WL.r 1 rfl <| WL.ung rfl rfl rfl <| WL.call rfl rfl (vs_refs (s := s1) (a := a1) (V := V2) (ss := []) (hk := hV2.k) (hp := (by rw [hr9]; exact List.Perm.refl _)) (hs := List.Pairwise.nil) (hl := (by decide)) (hS := (hS.sel 2 [1, 0] rfl))) rfl ?_
        clear hS; rintro _ w ⟨a4, c3, rfl, hS⟩
        replace hS := hS.n10 L (a0 := Own 64 1 (u32s (([]).map V2.rootOf)) a4 c3) rfl
        refine WL.ung rfl rfl rfl <| WL.r 1 rfl <| WL.ung rfl rfl rfl <| WL.r 3 rfl <| WL.reb 105 (.bool true) (congrArg Value.bool (decide_eq_true (rfl))) <| WL.ung rfl rfl rfl <| WL.r 1 rfl <| WL.ung rfl rfl rfl <| WL.r 1 rfl <| WL.ung rfl rfl rfl <| WL.r 3 rfl <| WL.reb 110 (.bool true) (congrArg Value.bool (decide_eq_true ((by omega)))) ?_
        refine WL.ung rfl rfl rfl <| WL.r 1 rfl <| WL.ung rfl rfl rfl <| WL.call rfl rfl (vs_arena (s := s1) (a := a1) (V := V2)  (hS := (hS.sel 2 [1, 0] rfl))) rfl ?_
        clear hS; rintro _ w ⟨rfl, hS⟩
        replace hS := hS.n10 L rfl
        refine WL.ung rfl rfl rfl <| WL.call rfl rfl (ar_free (a := a1) (A := A2) (hA := hV2.ref.toAWf) (hS := (hS.sel 5 [4, 0, 0, 0, 0] rfl))) rfl ?_
        clear hS; rintro _ w ⟨rfl, hS⟩
        replace hS := hS.n10 L rfl
        refine WL.ung rfl rfl rfl <| WL.r 1 rfl <| WL.ung rfl rfl rfl <| WL.call rfl rfl (vs_arena (s := s1) (a := a1) (V := V2)  (hS := (hS.sel 2 [1, 0] rfl))) rfl ?_
        clear hS; rintro _ w ⟨rfl, hS⟩
        replace hS := hS.n10 L rfl
        refine WL.ung rfl rfl rfl <| WL.call rfl rfl (ar_cap (a := a1) (A := A2) (hA := hV2.ref.toAWf) (hS := (hS.sel 2 [1, 0] rfl))) rfl ?_
        clear hS; rintro _ w ⟨rfl, hS⟩
        replace hS := hS.n10 L rfl
        refine WL.ung rfl rfl rfl <| WL.r 3 rfl <| WL.nil ?_
        as_aux_lemma =>
        refine WC.ret ?_
        refine ⟨[.bool (decide (A2.s.free = A2.s.cap))], rfl, ?_⟩
        replace hS := (hS.sel 10 [] rfl)
        exact ⟨congrArg Value.bool (decide_eq_true hfa), hS⟩
end Go.Proofs.YtbeacjcmdijdmaaGreat
/-! ## Argp -/
namespace Go.Proofs.YtbeacjcmdijdmaaGreat
open Go Go.V Go.RowKit
set_option maxRecDepth 100000
section
variable {H : Type} {enc : TypeId × Value → H} {w : World} {cs : List Value}
theorem rd_int (h : Rdc enc Tryz.prog w 3 cs) : ∃ n, cs = [.int .i64 n] ∧ (-9223372036854775808 ≤ n ∧ n ≤ 9223372036854775807) := by
  obtain ⟨n, h1, h2, h3⟩ := h.int (k := .i64) (by kernel_rfl)
  exact ⟨n, h1, h2, h3⟩
theorem rd_bool (h : Rdc enc Tryz.prog w 4 cs) : ∃ b, cs = [.bool b] := h.bool (by kernel_rfl)
end
end Go.Proofs.YtbeacjcmdijdmaaGreat
/-! ## Argv -/
namespace Go.Proofs.YtbeacjcmdijdmaaGreat
open Go Go.V Go.RowKit
set_option maxRecDepth 100000
theorem rdf_121 {H : Type} {enc : TypeId × Value → H} {w : World} {cs : List Value} (h : Rdc enc Tryz.prog w 121 cs) : ∃ c0 c1 : Value, cs = [c0, c1] ∧ Rdc enc Tryz.prog w 2 [c0] ∧ Rdc enc Tryz.prog w 2 [c1] := by
  obtain ⟨hl, hf⟩ := Rdc.struct h Tryz.underlying121
  rw [show Tryz.prog.cellsOf 121 = 2 by kernel_rfl] at hl
  match cs, hl with
  | [c0, c1], _ =>
    have f0 : Rdc enc Tryz.prog w 2 (([c0, c1].drop 0).take (Tryz.prog.cellsOf 2)) := hf 0 _ rfl
    rw [show Tryz.prog.cellsOf 2 = 1 by kernel_rfl] at f0
    have f1 : Rdc enc Tryz.prog w 2 (([c0, c1].drop 1).take (Tryz.prog.cellsOf 2)) := hf 1 _ rfl
    rw [show Tryz.prog.cellsOf 2 = 1 by kernel_rfl] at f1
    exact ⟨c0, c1, rfl, f0, f1⟩
section
variable {H : Type} {enc : TypeId × Value → H} {w : World} {cs : List Value}
theorem rd_i64 (h : Rdc enc Tryz.prog w 2 cs) : ∃ n, cs = [.int .i64 n] ∧ Ir n := by
  obtain ⟨n, h1, h2, h3⟩ := h.int (k := .i64) (by kernel_rfl)
  exact ⟨n, h1, h2, h3⟩
theorem rd_u64 (h : Rdc enc Tryz.prog w 23 cs) : ∃ n, cs = [.int .u64 n] ∧ 0 ≤ n ∧ n ≤ 18446744073709551615 := by
  obtain ⟨n, h1, h2, h3⟩ := h.int (k := .u64) (by kernel_rfl)
  exact ⟨n, h1, h2, h3⟩
theorem rd_ent (h : Rdc enc Tryz.prog w 121 cs) : ∃ x : Int × Int, cs = [.int .i64 x.1, .int .i64 x.2] ∧ Ir x.1 ∧ Ir x.2 := by
  obtain ⟨c0, c1, rfl, h0, h1⟩ := rdf_121 h
  obtain ⟨a, e0, w0⟩ := rd_i64 h0
  obtain ⟨b, e1, w1⟩ := rd_i64 h1
  cases e0; cases e1
  exact ⟨(a, b), rfl, w0, w1⟩
theorem rd_ents (h : Rdc enc Tryz.prog w 49 cs) : ∃ (l : List (Int × Int)) (a : Option Addr) (c : Nat), cs = [.slice a (en2 l).length c] ∧ (∀ x ∈ l, Ir x.1 ∧ Ir x.2) ∧ l.length ≤ maxLen ∧ ∀ e, Hw w (Sh e 2 (en2 l) a c) := by
  obtain ⟨a, c, ls, h1, h2, h3, h4⟩ := Rdc.slice (e := 121) (size := 2) h (by kernel_rfl) (by kernel_rfl) (by decide) (fun x hx => by
    obtain ⟨n, hn, _⟩ := rd_ent hx
    subst hn; exact ⟨rfl, fun u hu => by simp at hu; rcases hu with rfl | rfl <;> rfl⟩)
  obtain ⟨m, rfl, hm⟩ := map_of (fun x : Int × Int => [Value.int .i64 x.1, Value.int .i64 x.2]) (fun x => Ir x.1 ∧ Ir x.2) ls (fun x hx => by
    obtain ⟨n, hn, hb⟩ := rd_ent (h3 x hx)
    exact ⟨n, hn, hb⟩)
  exact ⟨m, a, c, h1, hm, by simpa using h2, h4⟩
end
end Go.Proofs.YtbeacjcmdijdmaaGreat
/-! ## Argx -/
namespace Go.Proofs.YtbeacjcmdijdmaaGreat
open Go Go.V Go.RowKit
set_option maxRecDepth 100000
theorem rdf_51 {H : Type} {enc : TypeId × Value → H} {w : World} {cs : List Value} (h : Rdc enc Tryz.prog w 51 cs) : ∃ c0 c1 c2 c3 c4 : Value, cs = [c0, c1, c2, c3, c4] ∧ Rdc enc Tryz.prog w 3 [c0] ∧ Rdc enc Tryz.prog w 23 [c1] ∧ Rdc enc Tryz.prog w 23 [c2] ∧ Rdc enc Tryz.prog w 49 [c3] ∧ Rdc enc Tryz.prog w 4 [c4] := by
  obtain ⟨hl, hf⟩ := Rdc.struct h Tryz.underlying51
  rw [show Tryz.prog.cellsOf 51 = 5 by kernel_rfl] at hl
  match cs, hl with
  | [c0, c1, c2, c3, c4], _ =>
    have f0 : Rdc enc Tryz.prog w 3 (([c0, c1, c2, c3, c4].drop 0).take (Tryz.prog.cellsOf 3)) := hf 0 _ rfl
    rw [show Tryz.prog.cellsOf 3 = 1 by kernel_rfl] at f0
    have f1 : Rdc enc Tryz.prog w 23 (([c0, c1, c2, c3, c4].drop 1).take (Tryz.prog.cellsOf 23)) := hf 1 _ rfl
    rw [show Tryz.prog.cellsOf 23 = 1 by kernel_rfl] at f1
    have f2 : Rdc enc Tryz.prog w 23 (([c0, c1, c2, c3, c4].drop 2).take (Tryz.prog.cellsOf 23)) := hf 2 _ rfl
    rw [show Tryz.prog.cellsOf 23 = 1 by kernel_rfl] at f2
    have f3 : Rdc enc Tryz.prog w 49 (([c0, c1, c2, c3, c4].drop 3).take (Tryz.prog.cellsOf 49)) := hf 3 _ rfl
    rw [show Tryz.prog.cellsOf 49 = 1 by kernel_rfl] at f3
    have f4 : Rdc enc Tryz.prog w 4 (([c0, c1, c2, c3, c4].drop 4).take (Tryz.prog.cellsOf 4)) := hf 4 _ rfl
    rw [show Tryz.prog.cellsOf 4 = 1 by kernel_rfl] at f4
    exact ⟨c0, c1, c2, c3, c4, rfl, f0, f1, f2, f3, f4⟩
section
variable {H : Type} {enc : TypeId × Value → H} {w : World} {cs : List Value}
theorem rd_call (h : Rdc enc Tryz.prog w 51 cs) : ∃ z : Vc, cs = vcC z ∧ VcOk z ∧ ∀ A ∈ vcF z, Hw w A := by
  obtain ⟨c0, c1, c2, c3, c4, rfl, h0, h1, h2, h3, h4⟩ := rdf_51 h
  obtain ⟨kd, e0, w0⟩ := rd_int h0
  obtain ⟨ca, e1, w1⟩ := rd_u64 h1
  obtain ⟨cb, e2, w2⟩ := rd_u64 h2
  obtain ⟨l, a, c, e3, w3, m3, s3⟩ := rd_ents h3
  obtain ⟨rb, e4⟩ := rd_bool h4
  cases e0; cases e1; cases e2; cases e3; cases e4
  refine ⟨⟨kd, ca, cb, l, a, c, rb⟩, rfl, ⟨w0, w1, w2, m3⟩, fun A hA => ?_⟩
  simp only [vcF, List.mem_singleton] at hA
  subst hA; exact s3 _
theorem rd_vcs (h : Rdc enc Tryz.prog w 22 cs) : ∃ (l : List Vc) (a : Option Addr) (c : Nat), cs = [.slice a (enV l).length c] ∧ (∀ z ∈ l, VcOk z) ∧ l.length ≤ maxLen ∧ (∀ e, Hw w (Sh e 5 (enV l) a c)) ∧ Hw w (Shs vcF l) := by
  obtain ⟨a, c, ls, h1, h2, h3, h4⟩ := Rdc.slice (e := 51) (size := 5) h (by kernel_rfl) (by kernel_rfl) (by decide) (fun x hx => by
    obtain ⟨n, hn, _⟩ := rd_call hx
    subst hn; exact enV_ok [n] _ (List.mem_singleton.2 rfl))
  obtain ⟨m, rfl, hm⟩ := map_of vcC (fun z => VcOk z ∧ ∀ A ∈ vcF z, Hw w A) ls (fun x hx => by
    obtain ⟨n, hn, hb⟩ := rd_call (h3 x hx)
    exact ⟨n, hn, hb⟩)
  refine ⟨m, a, c, ?_, fun z hz => (hm z hz).1, by simpa using h2, h4, fun r hr z hz => ?_⟩
  · rw [h1, enV_len, List.length_map]
  have h5 := (hm z hz).2
  have : ∀ M : List HP, (∀ A ∈ M, Hw w A) → All M (fun _ => none) r := by
    intro M
    induction M with
    | nil => exact fun _ => trivial
    | cons A M ih => exact fun hM => ⟨fun _ => none, fun _ => none, Sub.refl _, Sub.refl _, Dj.none _, hM A (List.mem_cons_self ..) r hr, ih fun B hB => hM B (List.mem_cons_of_mem _ hB)⟩
  exact this _ h5
end
end Go.Proofs.YtbeacjcmdijdmaaGreat
/-! ## Jvr -/
namespace Go.Proofs.YtbeacjcmdijdmaaGreat
open Go Go.V Go.RowKit Go.ChangeShapes Go.WideShapes
set_option maxRecDepth 100000
theorem vrel_calls {H : Type} {enc : TypeId × Value → H} {W : World} {base : Nat} {args : List Value} (h : AOk enc Tryz.prog W base [22, 23] args) :
    Calls Tryz.prog 3 args.toArray W fun e W' => e = .returned (.bool true) ∧ Below W.heap.size W W' := by
  obtain ⟨v0, vs0, rfl, k0, r0, h⟩ := h.cons
  obtain ⟨v1, vs1, rfl, k1, r1, h⟩ := h.cons
  obtain rfl := h.nil
  obtain ⟨l0, a0, c0, e0, h0, m0, s0, t0⟩ := rd_vcs r0
  obtain ⟨n1, e1, h1⟩ := rd_u64 r1
  obtain rfl := okv_one (okv_slice k0 Tryz.underlying22) e0
  obtain rfl := okv_one (okv_int k1 Tryz.underlying23) e1
  have hS := St.start W
  have hS := t0.add hS
  have hS := (s0 51).add hS
  exact law_calls (law_relall l0 a0 c0 n1 h0 m0 h1 hS)
theorem vrel_lifted (os : Os) (started : os.Started) (H : Type) (enc : TypeId × Value → H) :
    ReturnsInHanded {} Tryz.checked os 3 .any (Rows.versionsReleaseAllSpec.pre6 enc Tryz.prog Tryz.f3 Rows.versionsReleaseAllRow.domain false) (Rows.versionsReleaseAllSpec.post enc Tryz.prog Tryz.f3 false true false false) := by
  refine returnsInHanded_of_change (C := Tryz.checked) (by kernel_rfl) started (by kernel_rfl) Tryz.func3
    (ChangeSpec.witness6 (enc := enc) (C := Tryz.checked) false ⟨#[], #[.slice none 0 0, .int .u64 0], []⟩ 8 (by kernel_rfl) (by kernel_rfl) (by kernel_rfl) (by kernel_rfl)) ?_
  intro W base args ds gs before hval0 hW _ _
  have hval : ∀ (j : Nat) t v, Tryz.f3.params[j]? = some t → args[j]? = some v → Value.okWide Tryz.prog W .any base t v := hval0
  have hW0 := hW
  obtain ⟨p, q, hA0, _⟩ := hW
  have hA : DataW.TrodAll enc Tryz.prog W 0 (fun _ => true) true Tryz.f3.params.toList args.toList ds p := hA0
  rw [Tryz.params3] at hA hval
  clear hA0 hval0
  have hc := vrel_calls (AOk.args hA hval)
  rw [Array.toArray_toList] at hc
  refine hc.mono fun e W' ⟨he, hb⟩ => ⟨_, he, ?_⟩
  refine law_post rfl hW0 (by kernel_rfl) ?_ (by kernel_rfl) Tryz.underlying4 ?_ hb
  · exact fun t ht => by
      simp only [Tryz.params3, List.mem_cons, List.not_mem_nil, or_false] at ht
      rcases ht with rfl | rfl <;> exact ⟨by kernel_rfl, of_decide_eq_true (by kernel_rfl)⟩
  · intro hd
    match ds, hd with
    | [d1, d2], _ => exact ⟨rfl, rfl, rfl⟩
theorem vrel_holds : Rows.VersionsReleaseAllSaid :=
  OpenClaim.holds_of_wide 3 Tryz.f3 rfl rfl rfl rfl rfl rfl rfl ⟨rfl, rfl, rfl, rfl, rfl⟩ rfl rfl rfl rfl rfl (by kernel_rfl) Tryz.func3 (by kernel_rfl)
    (of_decide_eq_true (by kernel_rfl)) (by unfold Func.isWrapper; first | (rw [if_pos (by decide +kernel)]; kernel_rfl) | (rw [if_neg (by decide +kernel)]; exact ⟨rfl, rfl⟩))
    (fun os started H enc _ => vrel_lifted os started H enc)
end Go.Proofs.YtbeacjcmdijdmaaGreat
