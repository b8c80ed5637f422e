/-
  The row of VersionsBases: for every input the law returns true, and the arguments read as before.
  Conditions: none.
-/
import Derived.Test.YtbeacjcmdijdmaaGreatZvbE
/-! ## U3 -/
namespace Go.Proofs.YtbeacjcmdijdmaaGreat
open Go Go.V Go.RowKit
theorem pick_ix (x : Int) {n m1 m2 : Nat} (h1 : n = m1 + 1) (h2 : m2 + 1 ≤ n) : ∃ j : Nat, (j : Int) = (n : Int) - 1 - x % Int.ofNat (m1 + 1) % Int.ofNat (m2 + 1) ∧ j < n ∧ 0 ≤ x % Int.ofNat (m1 + 1) % Int.ofNat (m2 + 1) ∧ x % Int.ofNat (m1 + 1) % Int.ofNat (m2 + 1) ≤ (m2 : Int) := by
  have h4 := Int.emod_nonneg (x % Int.ofNat (m1 + 1)) (b := Int.ofNat (m2 + 1)) (by first | (simp; done) | (simp; omega))
  have h5 := Int.emod_lt_of_pos (x % Int.ofNat (m1 + 1)) (b := Int.ofNat (m2 + 1)) (by first | (simp; done) | (simp; omega))
  generalize x % Int.ofNat (m1 + 1) % Int.ofNat (m2 + 1) = y at *
  have h6 : Int.ofNat (m2 + 1) = (m2 : Int) + 1 := rfl
  exact ⟨((n : Int) - 1 - y).toNat, by omega, by omega, h4, by omega⟩
structure StB (V : VM) (A : AM) (hs : List Int) (n : Nat) : Prop where
  la : V.last ≤ n
  hl : hs.length ≤ n
  hr : ∀ y ∈ hs, 0 ≤ y ∧ y ≤ 18446744073709551615
  ac : A.s.used.length = 2501
theorem StB.mono {V : VM} {A : AM} {hs : List Int} {n : Nat} (h : StB V A hs n) : StB V A hs (n + 1) := ⟨by have := h.la; omega, by have := h.hl; omega, h.hr, h.ac⟩
theorem root_any {V : VM} {A : AM} {R : List Int} {z : RSt} {m : Nat} (h : WR V A R z m) (x : Int) : (if V.T.s.opn x = true then V.rootOf (V.T.val x) else 0) = 0 ∨ (1 ≤ (if V.T.s.opn x = true then V.rootOf (V.T.val x) else 0) ∧ A.s.ok (if V.T.s.opn x = true then V.rootOf (V.T.val x) else 0) = true) := by
  by_cases ho : V.T.s.opn x = true
  · rw [if_pos ho]; exact root_ok h.vi ho
  · rw [if_neg ho]; exact .inl rfl
theorem two_rng {x y : Int} (hx : 0 ≤ x ∧ x ≤ 18446744073709551615) (hy : 0 ≤ y ∧ y ≤ 18446744073709551615) : ∀ q ∈ [x, y], 0 ≤ q ∧ q ≤ 18446744073709551615 := fun q hq => by
  simp only [List.mem_cons, List.not_mem_nil, or_false] at hq
  rcases hq with rfl | rfl
  · exact hx
  · exact hy
theorem comH_rng {V : VM} {A : AM} {R : List Int} (h : VI V A R) (ps : List Int) : 0 ≤ comH V.T V.room ps ∧ comH V.T V.room ps ≤ 18446744073709551615 := by
  unfold comH
  split
  · rename_i h0
    exact (TM.newH_mod h.t (room_pos h (by have := (comE_0 h0).2.2; omega)).2).2
  · omega
theorem in_snoc {hs : List Int} {k : Int} (h : ∀ y ∈ hs, 0 ≤ y ∧ y ≤ 18446744073709551615) (hk : 0 ≤ k ∧ k ≤ 18446744073709551615) : ∀ y ∈ hs ++ [k], 0 ≤ y ∧ y ≤ 18446744073709551615 := fun y hy => by
  rcases List.mem_append.1 hy with hy | hy
  · exact h y hy
  · rw [List.mem_singleton.1 hy]; exact hk
theorem StB.of {V V2 : VM} {A A2 : AM} {hs hs2 : List Int} {n : Nat} (h : StB V A hs n) (h1 : V2.last ≤ V.last + 1) (h2 : A2.s.used.length = A.s.used.length) (h3 : hs2.length ≤ hs.length + 1) (h4 : ∀ y ∈ hs2, 0 ≤ y ∧ y ≤ 18446744073709551615) : StB V2 A2 hs2 (n + 1) := ⟨by have := h.la; omega, by have := h.hl; omega, h4, h2.trans h.ac⟩
theorem xs_le {V : VM} {A : AM} {R : List Int} (h : VI V A R) : (V.xs.length : Int) ≤ V.last := by
  have h1 := nodup_bnd V.last.toNat (V.xs.map VN.n) (List.pairwise_map.2 h.g.ok.uniq) fun n hn => by
    obtain ⟨x, hx, rfl⟩ := List.mem_map.1 hn
    have h2 := h.g.le x hx
    have h3 := h.g.ok.pos x.n (by rw [vw_mem h.g.ok.uniq hx]; rfl)
    omega
  have := h.g.la
  rw [List.length_map] at h1; omega
theorem WR.free {V : VM} {A : AM} {z : RSt} {hs : List Int} {n : Nat} (h : WR V A [] z 52) (hB : StB V A hs n) (hn : n ≤ 40) : 420 ≤ A.s.free := by
  have h1 := h.used
  have h2 := rs_len h.vi
  have h3 := xs_le h.vi
  have h4 := hB.la
  have h5 : V.rs.length * 52 ≤ 40 * 52 := Nat.mul_le_mul_right _ (by omega)
  have h6 : A.s.cap = 2500 := by show (A.s.used.length : Int) - 1 = 2500; rw [hB.ac]; rfl
  omega
theorem WR.rl {V : VM} {A : AM} {R : List Int} {z : RSt} {m : Nat} (h : WR V A R z m) : V.rs.length ≤ 900 := by
  have h2 := rs_len h.vi
  have h3 := xs_le h.vi
  have h4 := h.la
  omega
theorem WR.rtn {V : VM} {A : AM} {z : RSt} {m : Nat} (h : WR V A [] z m) {rt : Int} (hr : rt = 0 ∨ (1 ≤ rt ∧ A.s.ok rt = true)) : WR V (A.ret rt) [rt] z m :=
  h.ar ((AM.ret_eq h.vi.ref hr (by have := h.rl; simp; omega)).1.perm (by simpa using (List.perm_append_comm (l₁ := [rt]) (l₂ := List.map RN.root V.rs)))) (Kp.ret A rt _)
theorem WR.one {V : VM} {A B : AM} {z : RSt} {m : Nat} {i : Int} {t : Tr} {c : Nat} (h : WR V A [] z m) (hT : TOp A B (V.rs.map RN.root ++ []) i t c) : WR V B [i] z m :=
  h.ar (hT.ref.perm (by simpa using (List.perm_append_comm (l₁ := [i]) (l₂ := List.map RN.root V.rs)))) (hT.kp.sub fun r hr => List.mem_append_left _ hr)
theorem WR.lst {V : VM} {A : AM} {R : List Int} {z : RSt} {m : Nat} (h : WR V A R z m) {x : Int} {l : LsE} (h1 : (z.T.s.opn x = true ∧ ∃ k : Nat, z.T.val x = (k : Int) + 1 ∧ z.LL[k]? = some l) ∨ (z.T.s.opn x = false ∧ l = ⟨[], none, 0⟩)) : l.es.length ≤ m ∧ Srt l.es ∧ (V.T.s.opn x = true → TrL A (V.rootOf (V.T.val x)) l.es) := by
  rcases h1 with ⟨h1, k, h2, h3⟩ | ⟨h1, rfl⟩
  · refine ⟨(h.sz l (List.mem_of_getElem? h3)).1, (h.sz l (List.mem_of_getElem? h3)).2, fun ho => ?_⟩
    obtain ⟨k', l', h4, h5, h6, _⟩ := h.open ho
    have e : z.T.val x = V.T.val x := by rw [h.tt]
    have ek : k = k' := by omega
    subst ek
    rw [h3] at h5
    rw [Option.some.inj h5]; exact h6
  · exact ⟨Nat.zero_le _, List.Pairwise.nil, fun ho => by rw [h.tt, ho] at h1; cases h1⟩
theorem ya_0 {b : Bool} (h : ¬ (if b = true then (0 : Int) else 5) ≠ 0) : b = true := by
  cases b with
  | true => rfl
  | false => exact absurd (by decide) h
set_option maxRecDepth 8192 in
theorem pick_spec {g w : World} {L : List HP} (kd ca cb : Int) (es : Kvs) (ea : Option Addr) (ec : Nat) (rb : Bool) (x : Int) (hs : List Int) (u : Option Addr) (d : Nat) (hx : 0 ≤ x ∧ x ≤ 18446744073709551615) (hhs : ∀ y ∈ hs, 0 ≤ y ∧ y ≤ 18446744073709551615) (hhl : hs.length ≤ 1000) (hS : St g (Own 23 1 (u64s hs) u d :: L) w) :
    Sp Tryz.prog 62 [.agg #[.int .i64 kd, .int .u64 ca, .int .u64 cb, .slice ea (List.length (en2 es)) ec, .bool rb], .int .u64 x, .slice u (List.length (u64s hs)) d] w (fun v w' => ∃ (y : Int), v = .int .u64 y ∧ St g (Own 23 1 (u64s hs) u d :: L) w' ∧ (0 ≤ y ∧ y ≤ 18446744073709551615)) := by
  refine Sp.enter Tryz.func62 rfl (by kernel_rfl) (by kernel_rfl) ?_
  have _ := hhl
  refine WC.seq <| WC.region ?_
  have hul := u64s_len hs
  refine WL.box rfl rfl #[.int .i64 kd, .int .u64 ca, .int .u64 cb, .slice ea (List.length (en2 es)) ec, .bool rb] hS rfl rfl (fun b1 w hS => ?_)
  refine WL.r 1 rfl <| WL.nil <| WC.seq <| WC.seq <| WC.region <| WL.run 2 [.bool rb] rfl (by exact hS.ld 0 rfl rfl) ?_
  refine WL.rG 5 rfl (fun j => ?_)
  refine WL.prop 13 rfl (bor (dv _) (dd _)) <| WL.nil <| WC.ifP rfl (fun cd1 => ?_) (fun cd1 => ?_)
  · refine WC.seq <| WC.region <| WL.r 2 rfl <| WL.nil <| WC.ret ?_
    refine ⟨[.int .u64 x], rfl, ?_⟩
    replace hS := (hS.sel 1 [] rfl)
    exact ⟨_, rfl, hS, hx⟩
  · refine WC.skip <| WC.seq <| WC.region ?_
    obtain ⟨m1, hm1⟩ : ∃ m : Nat, hs.length = m + 1 := ⟨hs.length - 1, by omega⟩; obtain ⟨m2, hm2⟩ : ∃ m : Nat, min hs.length 9 = m + 1 := ⟨min hs.length 9 - 1, by omega⟩; obtain ⟨j, hj, hjl, hp1, hp2⟩ := pick_ix x hm1 (show m2 + 1 ≤ hs.length by omega); obtain ⟨y, hy⟩ : ∃ y, hs[j]? = some y := ⟨_, List.getElem?_eq_getElem hjl⟩; have ho1 : Int.ofNat (m1 + 1) = (m1 : Int) + 1 := rfl; have ho2 : Int.ofNat (m2 + 1) = (m2 : Int) + 1 := rfl; have hyr := hhs y (List.mem_of_getElem? hy); have hp0 := Int.emod_nonneg x (b := Int.ofNat (m1 + 1)) (by omega)
    refine WL.r 4 rfl <| WL.nw 18 rfl (wu64 (by omega)) ?_
    refine WL.r 1 rfl <| WL.nw 19 rfl (wu64 (by omega)) ?_
    refine WL.r 4 rfl <| WL.reb 23 (.int .u64 (Int.ofNat (m1 + 1))) (congrArg (Value.int .u64) (by rw [wu64 (by omega)]; omega)) ?_
    refine WL.r 1 rfl <| WL.reb 24 (.int .u64 (x % (Int.ofNat (m1 + 1)))) (congrArg (Value.int .u64) (Int.tmod_eq_emod_of_nonneg (a := x) (by omega))) ?_
    refine WL.r 4 rfl <| WL.reb 28 (.int .u64 (Int.ofNat (m2 + 1))) (congrArg (Value.int .u64) (by show IntKind.u64.wrap (min ((List.length (u64s hs) : Nat) : Int) 9) = _; rw [wu64 (by omega)]; omega)) ?_
    refine WL.r 1 rfl <| WL.reb 29 (.int .u64 ((x % (Int.ofNat (m1 + 1))) % (Int.ofNat (m2 + 1)))) (congrArg (Value.int .u64) (Int.tmod_eq_emod_of_nonneg (a := x % (Int.ofNat (m1 + 1))) (by omega))) ?_
    refine WL.r 1 rfl <| WL.nw 30 rfl (wu64 (by omega)) ?_
    refine WL.ix rfl rfl (i := ((List.length (u64s hs) : Int) - 1) - ((x % (Int.ofNat (m1 + 1))) % (Int.ofNat (m2 + 1)))) (j) el_45 rfl rfl (by omega) (by omega) (hS.rdO 1 rfl (u64s_at hy)).1 ?_
    refine WL.run 2 [.int .u64 y] rfl (by exact (hS.rdO 1 rfl (u64s_at hy)).2 0 _ rfl) ?_
    refine WL.nil ?_
    as_aux_lemma =>
    refine WC.ret ?_
    refine ⟨[.int .u64 y], rfl, ?_⟩
    replace hS := (hS.sel 1 [] rfl)
    exact ⟨_, rfl, hS, hyr⟩
set_option maxRecDepth 8192 in
theorem wcommit {g w : World} {L : List HP} (p s a : Nat) (V : VM) (A : AM) (z : RSt) (m : Nat) (hs : List Int) (u : Option Addr) (d : Nat) (root : Int) (xe : Kvs) (xa : Option Addr) (xc : Nat) (ps : List Int) (pa : Option Addr) (pc : Nat) (hW : WR V A [root] z m) (hx : xe.length ≤ m) (ht : comE V.T V.room ps = 0 → TrL A root xe) (hps : ∀ y ∈ ps, 0 ≤ y ∧ y ≤ 18446744073709551615) (hpl : ps.length ≤ 2) (hla : V.last ≤ 100) (hhs : ∀ y ∈ hs, 0 ≤ y ∧ y ≤ 18446744073709551615) (hhl : hs.length ≤ 1000) (hS : St g (cel p #[.pointer (some ⟨s, 0, none⟩), .int .i64 z.cap, .int .i64 z.T.s.cap, .slice z.ra (List.length (u32s z.T.s.rel)) z.rc, .int .i64 (z.T.s.fresh + 1), .slice z.ga (List.length (u32s (z.T.s.gen.drop 1))) z.gc, .slice z.oa (List.length (bos (z.T.s.used.drop 1))) z.oc, .slice z.va (List.length (u32s (z.T.vals.drop 1))) z.vc, .int .i64 z.cap, .slice z.pa (List.length (enP z.P)) z.pc, .slice z.ba (List.length (bos z.B)) z.bc, .slice z.la (List.length (enL z.LL)) z.lc, .slice u (List.length (u64s hs)) d] 47 :: Own 23 1 (u64s hs) u d :: Vst s a V :: Arn a A :: Shs rsF [z] :: Sh 121 2 (en2 xe) xa xc :: Sh 23 1 (u64s ps) pa pc :: L) w) :
    Sp Tryz.prog 67 [.pointer (some ⟨p, 0, none⟩), .int .u32 root, .slice xa (List.length (en2 xe)) xc, .slice pa (List.length (u64s ps)) pc] w (fun v w' => ∃ (V2 : VM) (A2 : AM) (z2 : RSt) (hs2 : List Int) (u2 : Option Addr) (d2 : Nat), v = .bool true ∧ St g (cel p #[.pointer (some ⟨s, 0, none⟩), .int .i64 z2.cap, .int .i64 z2.T.s.cap, .slice z2.ra (List.length (u32s z2.T.s.rel)) z2.rc, .int .i64 (z2.T.s.fresh + 1), .slice z2.ga (List.length (u32s (z2.T.s.gen.drop 1))) z2.gc, .slice z2.oa (List.length (bos (z2.T.s.used.drop 1))) z2.oc, .slice z2.va (List.length (u32s (z2.T.vals.drop 1))) z2.vc, .int .i64 z2.cap, .slice z2.pa (List.length (enP z2.P)) z2.pc, .slice z2.ba (List.length (bos z2.B)) z2.bc, .slice z2.la (List.length (enL z2.LL)) z2.lc, .slice u2 (List.length (u64s hs2)) d2] 47 :: Own 23 1 (u64s hs2) u2 d2 :: Vst s a V2 :: Arn a A2 :: Shs rsF [z2] :: L) w' ∧ (WR V2 A2 [] z2 m) ∧ (V2.last ≤ V.last + 1 ∧ V2.cap = V.cap ∧ A2.s.used.length = A.s.used.length) ∧ (hs2.length ≤ hs.length + 1 ∧ ∀ y ∈ hs2, 0 ≤ y ∧ y ≤ 18446744073709551615)) := by
  refine Sp.enter Tryz.func67 rfl (by kernel_rfl) (by kernel_rfl) ?_
  have _ := hhl
  have _ := hla
  refine WC.seq <| WC.region ?_
  have hrk := hW.rok; have hul := u64s_len hs
  refine WL.r 1 rfl <| WL.nil <| WC.seq <| WC.region <| WL.run 6 [.pointer (some ⟨s, 0, none⟩)] rfl (by exact hS.ld 0 rfl rfl) ?_
  refine WL.call rfl rfl (vs_com (s := s) (a := a) (V := V) (A := A) (R := [root]) (root := root) (ps := ps) (pa := pa) (pc := pc) (hV := hW.vi) (hr := hW.vi.ref.ref root (by simp)) (hhs := hps) (hpl := hpl) (hxl := hW.xl) (hla := (by omega)) (hlen := (by simp)) (hS := (hS.sel 7 [2, 2, 4, 0, 0, 0, 0] rfl))) rfl ?_
  clear hS; rintro _ w ⟨V1, A1, rfl, hS, f1⟩
  replace hS := hS.n7 L (a0 := Vst s a V1) (a1 := Arn a A1) rfl
  refine WL.r 5 rfl <| WL.nil <| WC.seq <| WC.region <| WL.r 3 rfl <| WL.ldC rfl rfl [.int .i64 z.cap, .int .i64 z.T.s.cap, .slice z.ra (List.length (u32s z.T.s.rel)) z.rc, .int .i64 (z.T.s.fresh + 1), .slice z.ga (List.length (u32s (z.T.s.gen.drop 1))) z.gc, .slice z.oa (List.length (bos (z.T.s.used.drop 1))) z.oc, .slice z.va (List.length (u32s (z.T.vals.drop 1))) z.vc, .int .i64 z.cap, .slice z.pa (List.length (enP z.P)) z.pc, .slice z.ba (List.length (bos z.B)) z.bc, .slice z.la (List.length (enL z.LL)) z.lc] ag_43 rfl (hS.part 3 rfl rfl) <| WL.r 2 rfl <| WL.call rfl rfl (qs_com (z := z) (xe := xe) (xa := xa) (xc := xc) (ps := ps) (pa2 := pa) (pc2 := pc) (hz := hrk) (hhs := hps) (hpl := hpl) (hpv := hW.pv) (hS := (hS.sel 7 [5, 5, 2, 0, 0, 0, 0] rfl))) rfl ?_
  clear hS; rintro _ w ⟨z1, rfl, hS, f2⟩
  replace hS := hS.n7 L (a0 := Shs rsF [z1]) rfl
  refine WL.r 4 rfl <| WL.new rfl rfl zv_43 hS (fun b1 w hS => ?_)
  refine WL.stF rfl rfl rfl 0 hS rfl rfl rfl rfl rfl ag_43 (fun w hS => ?_)
  replace hS := hS.n8 L (a0 := cel b1 #[.int .i64 z1.cap, .int .i64 z1.T.s.cap, .slice z1.ra (List.length (u32s z1.T.s.rel)) z1.rc, .int .i64 (z1.T.s.fresh + 1), .slice z1.ga (List.length (u32s (z1.T.s.gen.drop 1))) z1.gc, .slice z1.oa (List.length (bos (z1.T.s.used.drop 1))) z1.oc, .slice z1.va (List.length (u32s (z1.T.vals.drop 1))) z1.vc, .int .i64 z1.cap, .slice z1.pa (List.length (enP z1.P)) z1.pc, .slice z1.ba (List.length (bos z1.B)) z1.bc, .slice z1.la (List.length (enL z1.LL)) z1.lc] 43) rfl
  refine WL.r 2 rfl <| WL.nil ?_
  as_aux_lemma =>
  refine WC.seq <| WC.seq <| WC.region ?_
  obtain ⟨hW1, hl1, hc1, hs1⟩ := hW.com f1 f2 (by omega) ht hx
  refine WL.run 4 [.pointer (some ⟨s, 0, none⟩)] rfl (by exact hS.ld 6 rfl rfl) ?_
  refine WL.call rfl rfl (vs_arena (s := s) (a := a) (V := V1)  (hS := (hS.sel 5 [4, 0, 0, 0, 0] rfl))) rfl ?_
  clear hS; rintro _ w ⟨rfl, hS⟩
  replace hS := hS.n8 L rfl
  refine WL.r 1 rfl <| WL.call rfl rfl (tr_rel (a := a) (A := A1) (R := List.map RN.root V1.rs ++ []) (i := root) (hA := hW1.vi.ref.perm (by simp)) (hR := (by have := hW1.rl; simp; omega)) (hS := (hS.sel 6 [5, 0, 0, 0, 0, 0] rfl))) rfl ?_
  clear hS; rintro _ w ⟨A2, f3, rfl, hS, f4, f5⟩
  replace hS := hS.n8 L (a0 := Arn a A2) rfl
  refine WL.r 5 rfl <| WL.nil <| WC.seq <| WC.region <| WL.r 2 rfl <| WL.nil <| WC.ifF rfl (by decide) ?_
  refine WC.skip <| WC.seq <| WC.region <| WL.r 1 rfl <| WL.ldF rfl rfl 2 hS rfl rfl ag_43 <| WL.r 2 rfl <| WL.stP (ds := #[.pointer (some ⟨s, 0, none⟩), .int .i64 z1.cap, .int .i64 z1.T.s.cap, .slice z1.ra (List.length (u32s z1.T.s.rel)) z1.rc, .int .i64 (z1.T.s.fresh + 1), .slice z1.ga (List.length (u32s (z1.T.s.gen.drop 1))) z1.gc, .slice z1.oa (List.length (bos (z1.T.s.used.drop 1))) z1.oc, .slice z1.va (List.length (u32s (z1.T.vals.drop 1))) z1.vc, .int .i64 z1.cap, .slice z1.pa (List.length (enP z1.P)) z1.pc, .slice z1.ba (List.length (bos z1.B)) z1.bc, .slice z1.la (List.length (enL z1.LL)) z1.lc, .slice u (List.length (u64s hs)) d]) rfl rfl rfl 6 hS rfl rfl rfl rfl (Nat.le_of_ble_eq_true rfl) rfl ag_43 (fun w hS => ?_)
  replace hS := hS.n8 L (a6 := cel p #[.pointer (some ⟨s, 0, none⟩), .int .i64 z1.cap, .int .i64 z1.T.s.cap, .slice z1.ra (List.length (u32s z1.T.s.rel)) z1.rc, .int .i64 (z1.T.s.fresh + 1), .slice z1.ga (List.length (u32s (z1.T.s.gen.drop 1))) z1.gc, .slice z1.oa (List.length (bos (z1.T.s.used.drop 1))) z1.oc, .slice z1.va (List.length (u32s (z1.T.vals.drop 1))) z1.vc, .int .i64 z1.cap, .slice z1.pa (List.length (enP z1.P)) z1.pc, .slice z1.ba (List.length (bos z1.B)) z1.bc, .slice z1.la (List.length (enL z1.LL)) z1.lc, .slice u (List.length (u64s hs)) d] 47) rfl
  refine WL.nil ?_
  as_aux_lemma =>
  refine WC.seq <| WC.seq <| WC.region <| WL.r 2 rfl <| WL.nil <| WC.ifP rfl (fun cd2 => ?_) (fun cd2 => ?_)
  · refine WC.seq <| WC.region <| WL.run 5 [.slice u (List.length (u64s hs)) d] rfl (by exact hS.ld 6 rfl rfl) ?_
    refine WL.lit rfl rfl (u64s [comH z.T z.room ps]) el_45 hS (by exact ⟨rfl, rfl⟩) (u64s_ok _) rfl (Nat.le_of_ble_eq_true rfl) (fun b2 w hS => ?_)
    refine WL.app rfl rfl 8 (u64s (hs ++ [comH z.T z.room ps])) el_45 hS rfl (hS.srcO 0 rfl) (u64s_app _ _).symm (Rm.of (by first | omega | (simp <;> omega)) (by decide)) rfl rfl (fun a1 c1 w hS => ?_)
    replace hS := hS.n9 L (a0 := Own 23 1 (u64s [comH z.T z.room ps]) (some ⟨b2, 0, none⟩) (List.length (u64s [comH z.T z.room ps]))) (a8 := Own 23 1 (u64s (hs ++ [comH z.T z.room ps])) a1 c1) rfl
    refine WL.r 1 rfl <| WL.nil <| WC.region <| WL.r 4 rfl <| WL.st rfl rfl rfl 7 hS rfl rfl rfl rfl rfl rfl (fun w hS => ?_)
    replace hS := hS.n9 L (a7 := cel p #[.pointer (some ⟨s, 0, none⟩), .int .i64 z1.cap, .int .i64 z1.T.s.cap, .slice z1.ra (List.length (u32s z1.T.s.rel)) z1.rc, .int .i64 (z1.T.s.fresh + 1), .slice z1.ga (List.length (u32s (z1.T.s.gen.drop 1))) z1.gc, .slice z1.oa (List.length (bos (z1.T.s.used.drop 1))) z1.oc, .slice z1.va (List.length (u32s (z1.T.vals.drop 1))) z1.vc, .int .i64 z1.cap, .slice z1.pa (List.length (enP z1.P)) z1.pc, .slice z1.ba (List.length (bos z1.B)) z1.bc, .slice z1.la (List.length (enL z1.LL)) z1.lc, .slice a1 (List.length (u64s (hs ++ [comH z.T z.room ps]))) c1] 47) rfl
    refine WL.nil <| WC.seq <| WC.region <| WL.r 3 rfl <| WL.rG 6 rfl (fun j => ?_)
    refine WL.prop 74 rfl (band (dd _) (dd _)) <| WL.nil ?_
    as_aux_lemma =>
    refine WC.ret ?_
    refine ⟨[.bool (bif (decide ((comH V.T V.room ps) = (comH z.T z.room ps))) then (decide ((comE V.T V.room ps) = (comE z.T z.room ps))) else false)], rfl, ?_⟩
    replace hS := (hS.sel 9 [7, 7, 2, 1, 2] rfl)
    exact ⟨V1, A2, z1, _, _, _, congrArg Value.bool (by rw [(hW.same ps).1, (hW.same ps).2]; simp), hS, hW1.ar f4.ref (f4.kp.sub (fun r hr => List.mem_append_left _ hr)), ⟨hl1, hc1, f4.cap.trans (congrArg (fun q => List.length (SM.used q)) hs1)⟩, by simp, in_snoc hhs (by rw [(hW.same ps).2]; exact comH_rng hW.vi ps)⟩
  · refine WC.skip <| WC.seq <| WC.region <| WL.r 3 rfl <| WL.rG 6 rfl (fun j => ?_)
    refine WL.prop 74 rfl (band (dd _) (dd _)) <| WL.nil <| WC.ret ?_
    refine ⟨[.bool (bif (decide ((comH V.T V.room ps) = (comH z.T z.room ps))) then (decide ((comE V.T V.room ps) = (comE z.T z.room ps))) else false)], rfl, ?_⟩
    replace hS := (hS.sel 8 [6, 6, 1, 0, 1] rfl)
    exact ⟨V1, A2, z1, _, _, _, congrArg Value.bool (by rw [(hW.same ps).1, (hW.same ps).2]; simp), hS, hW1.ar f4.ref (f4.kp.sub (fun r hr => List.mem_append_left _ hr)), ⟨hl1, hc1, f4.cap.trans (congrArg (fun q => List.length (SM.used q)) hs1)⟩, by simp, hhs⟩
set_option maxHeartbeats 2000000 in
set_option maxRecDepth 8192 in
theorem wstep {g w : World} {L : List HP} (p s a : Nat) (V : VM) (A : AM) (z : RSt) (n : Nat) (hs : List Int) (u : Option Addr) (d : Nat) (kd ca cb : Int) (es : Kvs) (ea : Option Addr) (ec : Nat) (rb : Bool) (hW : WR V A [] z (12 + n)) (hB : StB V A hs n) (hn : n < 40) (hkd : -9223372036854775808 ≤ kd ∧ kd ≤ 9223372036854775807) (hca : 0 ≤ ca ∧ ca ≤ 18446744073709551615) (hcb : 0 ≤ cb ∧ cb ≤ 18446744073709551615) (hel : es.length ≤ maxLen) (hS : St g (cel p #[.pointer (some ⟨s, 0, none⟩), .int .i64 z.cap, .int .i64 z.T.s.cap, .slice z.ra (List.length (u32s z.T.s.rel)) z.rc, .int .i64 (z.T.s.fresh + 1), .slice z.ga (List.length (u32s (z.T.s.gen.drop 1))) z.gc, .slice z.oa (List.length (bos (z.T.s.used.drop 1))) z.oc, .slice z.va (List.length (u32s (z.T.vals.drop 1))) z.vc, .int .i64 z.cap, .slice z.pa (List.length (enP z.P)) z.pc, .slice z.ba (List.length (bos z.B)) z.bc, .slice z.la (List.length (enL z.LL)) z.lc, .slice u (List.length (u64s hs)) d] 47 :: Own 23 1 (u64s hs) u d :: Vst s a V :: Arn a A :: Shs rsF [z] :: Sh 121 2 (en2 es) ea ec :: L) w) :
    Sp Tryz.prog 13 [.pointer (some ⟨p, 0, none⟩), .agg #[.int .i64 kd, .int .u64 ca, .int .u64 cb, .slice ea (List.length (en2 es)) ec, .bool rb]] w (fun v w' => ∃ (V2 : VM) (A2 : AM) (z2 : RSt) (hs2 : List Int) (u2 : Option Addr) (d2 : Nat), v = .bool true ∧ St g (cel p #[.pointer (some ⟨s, 0, none⟩), .int .i64 z2.cap, .int .i64 z2.T.s.cap, .slice z2.ra (List.length (u32s z2.T.s.rel)) z2.rc, .int .i64 (z2.T.s.fresh + 1), .slice z2.ga (List.length (u32s (z2.T.s.gen.drop 1))) z2.gc, .slice z2.oa (List.length (bos (z2.T.s.used.drop 1))) z2.oc, .slice z2.va (List.length (u32s (z2.T.vals.drop 1))) z2.vc, .int .i64 z2.cap, .slice z2.pa (List.length (enP z2.P)) z2.pc, .slice z2.ba (List.length (bos z2.B)) z2.bc, .slice z2.la (List.length (enL z2.LL)) z2.lc, .slice u2 (List.length (u64s hs2)) d2] 47 :: Own 23 1 (u64s hs2) u2 d2 :: Vst s a V2 :: Arn a A2 :: Shs rsF [z2] :: Sh 121 2 (en2 es) ea ec :: L) w' ∧ (WR V2 A2 [] z2 (12 + (n + 1))) ∧ (StB V2 A2 hs2 (n + 1) ∧ V2.cap = V.cap)) := by
  refine Sp.enter Tryz.func13 rfl (by kernel_rfl) (by kernel_rfl) ?_
  have _ := hn
  refine WC.seq <| WC.region <| WL.box rfl rfl #[.int .i64 kd, .int .u64 ca, .int .u64 cb, .slice ea (List.length (en2 es)) ec, .bool rb] hS rfl rfl (fun b1 w hS => ?_)
  refine WL.r 1 rfl <| WL.nil <| WC.seq <| WC.region ?_
  have hrk := hW.rok; have hW52 := hW.up (m2 := 52) (by omega); have hfr := hW52.free hB (by omega); have hhl := hB.hl; have hla := hB.la; have hell := en2_len es; have hrl := hW.rl; have htt := hW.tt; have hmx : es.length ≤ 9223372036854775807 := hel
  refine WL.run 4 [.pointer (some ⟨s, 0, none⟩)] rfl (by exact hS.ld 1 rfl rfl) ?_
  refine WL.call rfl rfl (vs_arena (s := s) (a := a) (V := V)  (hS := (hS.sel 4 [3, 0, 0, 0] rfl))) rfl ?_
  clear hS; rintro _ w ⟨rfl, hS⟩
  replace hS := hS.n7 L (a1 := cel b1 #[.int .i64 kd, .int .u64 ca, .int .u64 cb, .slice ea (List.length (en2 es)) ec, .bool rb] 51) rfl
  refine WL.r 1 rfl <| WL.nil <| WC.seq <| WC.plan [([0, 1, 3, 8, 9, 11, 2, 4, 10, 12, 5, 13, 6, 14], some (7, [8, 9, 10, 11, 12, 13, 14])), ([], some (15, [])), ([16, 17], none)] (by kernel_rfl) (by kernel_rfl) ?_
  refine WQ.ldF rfl rfl 1 hS rfl rfl ag_51 <| WQ.r 2 rfl <| WQ.ldF rfl rfl 1 hS rfl rfl ag_51 <| WQ.run 10 [.int .u64 ca, .int .u64 cb, .slice u (List.length (u64s hs)) d, .slice u (List.length (u64s hs)) d] rfl (by exact ⟨hS.ld 1 rfl rfl, hS.ld 1 rfl rfl, hS.ld 2 rfl rfl, hS.ld 2 rfl rfl⟩) ?_
  refine WQ.nil ?_
  intro m1
  replace hS := hS.drewN m1; generalize hwm1 : World.drewN _ _ = w at *; clear hwm1
  refine WL.call rfl rfl (pick_spec (kd := kd) (ca := ca) (cb := cb) (es := es) (ea := ea) (ec := ec) (rb := rb) (x := ca) (hs := hs) (u := u) (d := d) (hx := hca) (hhs := hB.hr) (hhl := (by omega)) (hS := (hS.sel 4 [3, 0, 0, 0] rfl))) rfl ?_
  clear hS; rintro _ w ⟨y1, rfl, hS, f1⟩
  replace hS := hS.n7 L rfl
  refine WL.nil ?_
  refine ⟨by exact ⟨RQ.ldF rfl rfl 2 hS rfl rfl ag_51 rfl rfl, RQ.pure rfl rfl rfl rfl, RQ.load rfl rfl rfl rfl (hS.ld 2 rfl rfl), RQ.pure rfl rfl rfl rfl, RQ.pure rfl rfl rfl rfl, RQ.pure rfl rfl rfl rfl, RQ.load rfl rfl rfl rfl (hS.ld 3 rfl rfl)⟩, ?_⟩
  refine WQ.nil ?_
  intro m2
  replace hS := hS.drewN m2; generalize hwm2 : World.drewN _ _ = w at *; clear hwm2
  refine WL.call rfl rfl (pick_spec (kd := kd) (ca := ca) (cb := cb) (es := es) (ea := ea) (ec := ec) (rb := rb) (x := cb) (hs := hs) (u := u) (d := d) (hx := hcb) (hhs := hB.hr) (hhl := (by omega)) (hS := hS)) rfl ?_
  clear hS; rintro _ w ⟨y2, rfl, hS, f2⟩
  replace hS := hS.n7 L rfl
  refine WL.nil ?_
  refine ⟨by exact trivial, ?_⟩
  refine WQ.r 2 rfl <| WQ.nil ?_
  intro m3
  replace hS := hS.drewN m3; generalize hwm3 : World.drewN _ _ = w at *; clear hwm3
  as_aux_lemma =>
  refine WC.seq <| WC.region <| WL.r 3 rfl <| WL.ldC rfl rfl [.int .i64 z.cap, .int .i64 z.T.s.cap, .slice z.ra (List.length (u32s z.T.s.rel)) z.rc, .int .i64 (z.T.s.fresh + 1), .slice z.ga (List.length (u32s (z.T.s.gen.drop 1))) z.gc, .slice z.oa (List.length (bos (z.T.s.used.drop 1))) z.oc, .slice z.va (List.length (u32s (z.T.vals.drop 1))) z.vc, .int .i64 z.cap, .slice z.pa (List.length (enP z.P)) z.pc, .slice z.ba (List.length (bos z.B)) z.bc, .slice z.la (List.length (enL z.LL)) z.lc] ag_43 rfl (hS.part 3 rfl rfl) <| WL.r 1 rfl <| WL.call rfl rfl (qs_list (z := z) (h := y1) (hz := hrk) (hh := f1) (hx := (fun h => hW.opl h)) (hS := (hS.sel 6 [5, 0, 0, 0, 0, 0] rfl))) rfl ?_
  clear hS; rintro _ w ⟨x1, rfl, hS, f3⟩
  replace hS := hS.n8 L (a1 := Sh 121 2 (en2 x1.es) x1.a x1.c) rfl
  refine WL.r 5 rfl <| WL.nil <| WC.seq <| WC.region ?_
  obtain ⟨hl1, hl2, hl3⟩ := hW.lst f3
  refine WL.run 5 [.pointer (some ⟨s, 0, none⟩)] rfl (by exact hS.ld 5 rfl rfl) ?_
  refine WL.call rfl rfl (vs_rt (s := s) (a := a) (V := V) (A := A) (R := []) (h := y1) (hV := hW.vi) (hh := f1) (hS := (hS.sel 4 [3, 0, 0, 0] rfl))) rfl ?_
  clear hS; rintro _ w ⟨rfl, hS⟩
  replace hS := hS.n8 L rfl
  refine WL.r 5 rfl <| WL.nil <| WC.seq <| WC.region <| WL.run 5 [.pointer (some ⟨s, 0, none⟩)] rfl (by exact hS.ld 5 rfl rfl) ?_
  refine WL.call rfl rfl (vs_num (s := s) (a := a) (V := V) (h := y1) (hT := hW.vi.t) (hh := f1) (hS := hS)) rfl ?_
  clear hS; rintro _ w ⟨rfl, hS⟩
  replace hS := hS.n8 L rfl
  refine WL.r 5 rfl <| WL.nil ?_
  as_aux_lemma =>
  refine WC.seq <| WC.region ?_
  have hWu := hW.up (m2 := 12 + (n + 1)) (by omega)
  refine WL.r 3 rfl <| WL.ldC rfl rfl [.int .i64 z.cap, .int .i64 z.T.s.cap, .slice z.ra (List.length (u32s z.T.s.rel)) z.rc, .int .i64 (z.T.s.fresh + 1), .slice z.ga (List.length (u32s (z.T.s.gen.drop 1))) z.gc, .slice z.oa (List.length (bos (z.T.s.used.drop 1))) z.oc, .slice z.va (List.length (u32s (z.T.vals.drop 1))) z.vc, .int .i64 z.cap, .slice z.pa (List.length (enP z.P)) z.pc, .slice z.ba (List.length (bos z.B)) z.bc, .slice z.la (List.length (enL z.LL)) z.lc] ag_43 rfl (hS.part 5 rfl rfl) <| WL.r 1 rfl <| WL.call rfl rfl (qs_num (z := z) (h := y1) (hz := hrk) (hh := f1) (hS := (hS.sel 2 [1, 0] rfl))) rfl ?_
  clear hS; rintro _ w ⟨rfl, hS⟩
  replace hS := hS.n8 L rfl
  refine WL.r 5 rfl <| WL.nil <| WC.seq <| WC.seq <| WC.region <| WL.r 3 rfl <| WL.rG 10 rfl (fun j => ?_)
  refine WL.prop 102 rfl (bor (bor (dd _) (dd _)) (dd _)) <| WL.nil <| WC.ifF rfl (decide_eq_false ((by rw [htt]; simp))) ?_
  refine WC.skip <| WC.seq <| WC.seq <| WC.region <| WL.run 2 [.int .i64 kd] rfl (by exact hS.ld 4 rfl rfl) ?_
  refine WL.call rfl rfl (md_spec (k := kd) (n := 8) (hk := hkd) (hn := (by decide)) (hS := hS)) rfl ?_
  clear hS; rintro _ w ⟨rfl, hS⟩
  replace hS := hS.n8 L rfl
  refine WL.nil ?_
  as_aux_lemma =>
  refine WC.block <| WC.seq <| WC.region <| WL.r 2 rfl <| WL.nil <| WC.ifP rfl (fun cd1 => ?_) (fun cd1 => ?_)
  · refine WC.seq <| WC.region <| WL.run 2 [.slice ea (List.length (en2 es)) ec] rfl (by exact hS.ld 4 rfl rfl) ?_
    refine WL.call rfl rfl (kt_list (raw := es) (u := ea) (d := ec) (most := 12) (hm := (by decide)) (hS := (hS.sel 8 [7, 0, 0, 0, 0, 0, 0, 0] rfl))) rfl ?_
    clear hS; rintro _ w ⟨a1, c1, rfl, hS⟩
    replace hS := hS.n9 L (a0 := Own 121 2 (en2 (mkL es 12)) a1 c1) rfl
    refine WL.r 1 rfl <| WL.nil <| WC.seq <| WC.region ?_
    obtain ⟨hms, hmk⟩ := mkL_srt es 12; have hroots : (List.map RN.root V.rs ++ []).length = V.rs.length := (by simp)
    refine WL.r 2 rfl ?_
    replace hS := (hS.at_ 0 rfl).share
    replace hS := hS.n9 L (a0 := Sh 121 2 (en2 (mkL es 12)) a1 c1) rfl
    refine WL.call rfl rfl (bk_build (a := a) (A := A) (R := List.map RN.root V.rs ++ []) (l := mkL es 12) (u := a1) (d := c1) (hA := hW.vi.ref) (hs := hms) (hf := (by omega)) (hl := (by omega)) (hz := (by omega)) (hS := (hS.sel 9 [8, 0, 0, 0, 0, 0, 0, 0, 0] rfl))) rfl ?_
    clear hS; rintro _ w ⟨A1, i1, rfl, hS, f4⟩
    replace hS := hS.n9 L (a0 := Arn a A1) rfl
    refine WL.r 5 rfl <| WL.nil ?_
    as_aux_lemma =>
    refine WC.seq <| WC.region <| WL.r 3 rfl <| WL.reb 119 (.bool true) (congrArg Value.bool (decide_eq_true (by decide))) ?_
    refine WL.ung rfl rfl rfl <| WL.r 1 rfl <| WL.ung rfl rfl rfl <| WL.r 1 rfl <| WL.ung rfl rfl rfl <| WL.r 1 rfl <| WL.ung rfl rfl rfl ?_
    replace hS := hS.nilS 23 1
    replace hS := hS.n10 L (a0 := Sh 23 1 (u64s []) none 0) rfl
    refine WL.call rfl rfl (wcommit (p := p) (s := s) (a := a) (V := V) (A := A1) (z := z) (m := 12 + (n + 1)) (hs := hs) (u := u) (d := d) (root := i1) (xe := mkL es 12) (xa := a1) (xc := c1) (ps := []) (pa := none) (pc := 0) (hW := (hWu.one f4)) (hx := (by omega)) (ht := (fun _ => ⟨_, f4.is, Tr.bld_ok _ _ (Nat.le_refl _), by rw [Tr.bld_ls _ _ (Nat.le_refl _)]; exact hms, Tr.bld_ls _ _ (Nat.le_refl _)⟩)) (hps := (fun _ h => by cases h)) (hpl := (by decide)) (hla := (by omega)) (hhs := hB.hr) (hhl := (by omega)) (hS := (hS.sel 10 [9, 7, 5, 1, 3, 1, 0, 0, 0, 0] rfl))) rfl ?_
    clear hS; rintro _ w ⟨V1, A2, z1, hs1, u1, d1, rfl, hS, f5, f6, f7⟩
    replace hS := hS.n8 L (a0 := cel p #[.pointer (some ⟨s, 0, none⟩), .int .i64 z1.cap, .int .i64 z1.T.s.cap, .slice z1.ra (List.length (u32s z1.T.s.rel)) z1.rc, .int .i64 (z1.T.s.fresh + 1), .slice z1.ga (List.length (u32s (z1.T.s.gen.drop 1))) z1.gc, .slice z1.oa (List.length (bos (z1.T.s.used.drop 1))) z1.oc, .slice z1.va (List.length (u32s (z1.T.vals.drop 1))) z1.vc, .int .i64 z1.cap, .slice z1.pa (List.length (enP z1.P)) z1.pc, .slice z1.ba (List.length (bos z1.B)) z1.bc, .slice z1.la (List.length (enL z1.LL)) z1.lc, .slice u1 (List.length (u64s hs1)) d1] 47) (a1 := Own 23 1 (u64s hs1) u1 d1) (a2 := Vst s a V1) (a3 := Arn a A2) (a4 := Shs rsF [z1]) rfl
    refine WL.r 2 rfl <| WL.nil <| WC.ret ?_
    refine ⟨[.bool true], rfl, ?_⟩
    replace hS := (hS.sel 8 [0, 0, 0, 0, 0, 0] rfl)
    exact ⟨_, _, _, _, _, _, rfl, hS, f5, hB.of f6.1 (f6.2.2.trans f4.cap) f7.1 f7.2, f6.2.1⟩
  · refine WC.seq <| WC.region <| WL.r 2 rfl <| WL.nil <| WC.ifP rfl (fun cd2 => ?_) (fun cd2 => ?_)
    · refine WC.seq <| WC.region <| WL.run 5 [.pointer (some ⟨s, 0, none⟩)] rfl (by exact hS.ld 5 rfl rfl) ?_
      refine WL.call rfl rfl (vs_snp (s := s) (a := a) (V := V) (A := A) (R := []) (h := y1) (hV := hW.vi) (hh := f1) (hxl := hW.xl) (hla := (by omega)) (hlen := (by simp)) (hS := (hS.sel 7 [1, 5, 0, 0, 0, 0, 0] rfl))) rfl ?_
      clear hS; rintro _ w ⟨V1, A1, rfl, hS, f4⟩
      replace hS := hS.n8 L (a0 := Vst s a V1) (a1 := Arn a A1) rfl
      refine WL.r 5 rfl <| WL.nil <| WC.seq <| WC.region <| WL.r 3 rfl <| WL.ldC rfl rfl [.int .i64 z.cap, .int .i64 z.T.s.cap, .slice z.ra (List.length (u32s z.T.s.rel)) z.rc, .int .i64 (z.T.s.fresh + 1), .slice z.ga (List.length (u32s (z.T.s.gen.drop 1))) z.gc, .slice z.oa (List.length (bos (z.T.s.used.drop 1))) z.oc, .slice z.va (List.length (u32s (z.T.vals.drop 1))) z.vc, .int .i64 z.cap, .slice z.pa (List.length (enP z.P)) z.pc, .slice z.ba (List.length (bos z.B)) z.bc, .slice z.la (List.length (enL z.LL)) z.lc] ag_43 rfl (hS.part 6 rfl rfl) <| WL.r 2 rfl <| WL.lit rfl rfl (u64s [y1]) el_45 hS (by exact ⟨rfl, rfl⟩) (u64s_ok _) rfl (Nat.le_of_ble_eq_true rfl) (fun b2 w hS => ?_)
      replace hS := (hS.at_ 0 rfl).share
      replace hS := hS.n9 L (a0 := Sh 23 1 (u64s [y1]) (some ⟨b2, 0, none⟩) (List.length (u64s [y1]))) rfl
      refine WL.call rfl rfl (qs_com (z := z) (xe := x1.es) (xa := x1.a) (xc := x1.c) (ps := [y1]) (pa2 := some ⟨b2, 0, none⟩) (pc2 := List.length (u64s [y1])) (hz := hrk) (hhs := (fun q hq => by rw [List.mem_singleton.1 hq]; exact f1)) (hpl := (by simp)) (hpv := hW.pv) (hS := (hS.sel 5 [3, 3, 0, 0, 0] rfl))) rfl ?_
      clear hS; rintro _ w ⟨z1, rfl, hS, f5⟩
      replace hS := hS.n9 L (a0 := Shs rsF [z1]) rfl
      refine WL.r 4 rfl <| WL.new rfl rfl zv_43 hS (fun b3 w hS => ?_)
      refine WL.stF rfl rfl rfl 0 hS rfl rfl rfl rfl rfl ag_43 (fun w hS => ?_)
      replace hS := hS.n10 L (a0 := cel b3 #[.int .i64 z1.cap, .int .i64 z1.T.s.cap, .slice z1.ra (List.length (u32s z1.T.s.rel)) z1.rc, .int .i64 (z1.T.s.fresh + 1), .slice z1.ga (List.length (u32s (z1.T.s.gen.drop 1))) z1.gc, .slice z1.oa (List.length (bos (z1.T.s.used.drop 1))) z1.oc, .slice z1.va (List.length (u32s (z1.T.vals.drop 1))) z1.vc, .int .i64 z1.cap, .slice z1.pa (List.length (enP z1.P)) z1.pc, .slice z1.ba (List.length (bos z1.B)) z1.bc, .slice z1.la (List.length (enL z1.LL)) z1.lc] 43) rfl
      refine WL.r 2 rfl <| WL.nil ?_
      as_aux_lemma =>
      refine WC.seq <| WC.region ?_
      obtain ⟨hW1, hla1, hcp1, hus1⟩ := hWu.com f4 f5 (by omega) (fun h0 => hl3 ((comE_0 h0).2.1 _ (by simp))) (Nat.le_trans hl1 (by omega)); have hus2 : A1.s.used.length = A.s.used.length := congrArg (fun q => List.length (SM.used q)) hus1; have hsm := hW.same [y1]; have hul := u64s_len hs
      refine WL.r 1 rfl <| WL.ldF rfl rfl 0 hS rfl rfl ag_43 <| WL.r 2 rfl <| WL.stP (ds := #[.pointer (some ⟨s, 0, none⟩), .int .i64 z1.cap, .int .i64 z1.T.s.cap, .slice z1.ra (List.length (u32s z1.T.s.rel)) z1.rc, .int .i64 (z1.T.s.fresh + 1), .slice z1.ga (List.length (u32s (z1.T.s.gen.drop 1))) z1.gc, .slice z1.oa (List.length (bos (z1.T.s.used.drop 1))) z1.oc, .slice z1.va (List.length (u32s (z1.T.vals.drop 1))) z1.vc, .int .i64 z1.cap, .slice z1.pa (List.length (enP z1.P)) z1.pc, .slice z1.ba (List.length (bos z1.B)) z1.bc, .slice z1.la (List.length (enL z1.LL)) z1.lc, .slice u (List.length (u64s hs)) d]) rfl rfl rfl 8 hS rfl rfl rfl rfl (Nat.le_of_ble_eq_true rfl) rfl ag_43 (fun w hS => ?_)
      replace hS := hS.n10 L (a8 := cel p #[.pointer (some ⟨s, 0, none⟩), .int .i64 z1.cap, .int .i64 z1.T.s.cap, .slice z1.ra (List.length (u32s z1.T.s.rel)) z1.rc, .int .i64 (z1.T.s.fresh + 1), .slice z1.ga (List.length (u32s (z1.T.s.gen.drop 1))) z1.gc, .slice z1.oa (List.length (bos (z1.T.s.used.drop 1))) z1.oc, .slice z1.va (List.length (u32s (z1.T.vals.drop 1))) z1.vc, .int .i64 z1.cap, .slice z1.pa (List.length (enP z1.P)) z1.pc, .slice z1.ba (List.length (bos z1.B)) z1.bc, .slice z1.la (List.length (enL z1.LL)) z1.lc, .slice u (List.length (u64s hs)) d] 47) rfl
      refine WL.nil <| WC.seq <| WC.seq <| WC.region <| WL.r 2 rfl <| WL.nil <| WC.ifP rfl (fun cd3 => ?_) (fun cd3 => ?_)
      · refine WC.seq <| WC.region <| WL.run 5 [.slice u (List.length (u64s hs)) d] rfl (by exact hS.ld 8 rfl rfl) ?_
        refine WL.lit rfl rfl (u64s [comH z.T z.room [y1]]) el_45 hS (by exact ⟨rfl, rfl⟩) (u64s_ok _) rfl (Nat.le_of_ble_eq_true rfl) (fun b4 w hS => ?_)
        refine WL.app rfl rfl 7 (u64s (hs ++ [comH z.T z.room [y1]])) el_45 hS rfl (hS.srcO 0 rfl) (u64s_app _ _).symm (Rm.of (by first | omega | (simp <;> omega)) (by decide)) rfl rfl (fun a1 c1 w hS => ?_)
        replace hS := hS.n11 L (a0 := Own 23 1 (u64s [comH z.T z.room [y1]]) (some ⟨b4, 0, none⟩) (List.length (u64s [comH z.T z.room [y1]]))) (a7 := Own 23 1 (u64s (hs ++ [comH z.T z.room [y1]])) a1 c1) rfl
        refine WL.r 1 rfl <| WL.nil <| WC.region <| WL.r 4 rfl <| WL.st rfl rfl rfl 9 hS rfl rfl rfl rfl rfl rfl (fun w hS => ?_)
        replace hS := hS.n11 L (a9 := cel p #[.pointer (some ⟨s, 0, none⟩), .int .i64 z1.cap, .int .i64 z1.T.s.cap, .slice z1.ra (List.length (u32s z1.T.s.rel)) z1.rc, .int .i64 (z1.T.s.fresh + 1), .slice z1.ga (List.length (u32s (z1.T.s.gen.drop 1))) z1.gc, .slice z1.oa (List.length (bos (z1.T.s.used.drop 1))) z1.oc, .slice z1.va (List.length (u32s (z1.T.vals.drop 1))) z1.vc, .int .i64 z1.cap, .slice z1.pa (List.length (enP z1.P)) z1.pc, .slice z1.ba (List.length (bos z1.B)) z1.bc, .slice z1.la (List.length (enL z1.LL)) z1.lc, .slice a1 (List.length (u64s (hs ++ [comH z.T z.room [y1]]))) c1] 47) rfl
        refine WL.nil ?_
        as_aux_lemma =>
        refine WC.seq <| WC.region <| WL.r 3 rfl <| WL.rG 6 rfl (fun j => ?_)
        refine WL.prop 172 rfl (band (dd _) (dd _)) <| WL.nil <| WC.ret ?_
        refine ⟨[.bool (bif (decide ((comH V.T V.room [y1]) = (comH z.T z.room [y1]))) then (decide ((comE V.T V.room [y1]) = (comE z.T z.room [y1]))) else false)], rfl, ?_⟩
        replace hS := (hS.sel 10 [9, 7, 5, 5, 2] rfl)
        exact ⟨_, _, _, _, _, _, congrArg Value.bool (by rw [hsm.1, hsm.2]; simp), hS, hW1, hB.of hla1 hus2 (by simp) (in_snoc hB.hr (by rw [hsm.2]; exact comH_rng hW.vi _)), hcp1⟩
      · refine WC.skip <| WC.seq <| WC.region <| WL.r 3 rfl <| WL.rG 6 rfl (fun j => ?_)
        refine WL.prop 172 rfl (band (dd _) (dd _)) <| WL.nil <| WC.ret ?_
        refine ⟨[.bool (bif (decide ((comH V.T V.room [y1]) = (comH z.T z.room [y1]))) then (decide ((comE V.T V.room [y1]) = (comE z.T z.room [y1]))) else false)], rfl, ?_⟩
        replace hS := (hS.sel 9 [8, 6, 4, 4, 1] rfl)
        exact ⟨_, _, _, _, _, _, congrArg Value.bool (by rw [hsm.1, hsm.2]; simp), hS, hW1, hB.of hla1 hus2 (by simp) hB.hr, hcp1⟩
    · refine WC.seq <| WC.seq <| WC.region <| WL.r 2 rfl <| WL.nil <| WC.ifP rfl (fun cd3 => ?_) (fun cd3 => ?_)
      · refine WC.skip <| WC.ifT rfl (decide_eq_true cd3) <| WC.seq <| WC.region <| WL.run 5 [.pointer (some ⟨s, 0, none⟩)] rfl (by exact hS.ld 5 rfl rfl) ?_
        refine WL.call rfl rfl (vs_rl (s := s) (a := a) (V := V) (A := A) (R := []) (h := y1) (hV := hW.vi) (hh := f1) (hlen := (by simp)) (hS := (hS.sel 7 [1, 5, 0, 0, 0, 0, 0] rfl))) rfl ?_
        clear hS; rintro _ w ⟨V1, A1, rfl, hS, f4⟩
        replace hS := hS.n8 L (a0 := Vst s a V1) (a1 := Arn a A1) rfl
        refine WL.r 5 rfl <| WL.nil ?_
        as_aux_lemma =>
        refine WC.seq <| WC.region <| WL.r 3 rfl <| WL.ldC rfl rfl [.int .i64 z.cap, .int .i64 z.T.s.cap, .slice z.ra (List.length (u32s z.T.s.rel)) z.rc, .int .i64 (z.T.s.fresh + 1), .slice z.ga (List.length (u32s (z.T.s.gen.drop 1))) z.gc, .slice z.oa (List.length (bos (z.T.s.used.drop 1))) z.oc, .slice z.va (List.length (u32s (z.T.vals.drop 1))) z.vc, .int .i64 z.cap, .slice z.pa (List.length (enP z.P)) z.pc, .slice z.ba (List.length (bos z.B)) z.bc, .slice z.la (List.length (enL z.LL)) z.lc] ag_43 rfl (hS.part 6 rfl rfl) <| WL.r 1 rfl <| WL.call rfl rfl (qs_rl (z := z) (h := y1) (hz := hrk) (hh := f1) (hl := (fun h => hW.liv h)) (hS := (hS.sel 3 [2, 0, 0] rfl))) rfl ?_
        clear hS; rintro _ w ⟨z1, rfl, hS, f5⟩
        replace hS := hS.n8 L (a0 := Shs rsF [z1]) rfl
        refine WL.r 3 rfl <| WL.new rfl rfl zv_43 hS (fun b2 w hS => ?_)
        refine WL.stF rfl rfl rfl 0 hS rfl rfl rfl rfl rfl ag_43 (fun w hS => ?_)
        replace hS := hS.n9 L (a0 := cel b2 #[.int .i64 z1.cap, .int .i64 z1.T.s.cap, .slice z1.ra (List.length (u32s z1.T.s.rel)) z1.rc, .int .i64 (z1.T.s.fresh + 1), .slice z1.ga (List.length (u32s (z1.T.s.gen.drop 1))) z1.gc, .slice z1.oa (List.length (bos (z1.T.s.used.drop 1))) z1.oc, .slice z1.va (List.length (u32s (z1.T.vals.drop 1))) z1.vc, .int .i64 z1.cap, .slice z1.pa (List.length (enP z1.P)) z1.pc, .slice z1.ba (List.length (bos z1.B)) z1.bc, .slice z1.la (List.length (enL z1.LL)) z1.lc] 43) rfl
        refine WL.r 1 rfl <| WL.nil <| WC.seq <| WC.region ?_
        obtain ⟨hW1, hla1, hcp1, hus1⟩ := hWu.rls f4 f5
        refine WL.r 1 rfl <| WL.ldF rfl rfl 0 hS rfl rfl ag_43 <| WL.r 2 rfl <| WL.stP (ds := #[.pointer (some ⟨s, 0, none⟩), .int .i64 z1.cap, .int .i64 z1.T.s.cap, .slice z1.ra (List.length (u32s z1.T.s.rel)) z1.rc, .int .i64 (z1.T.s.fresh + 1), .slice z1.ga (List.length (u32s (z1.T.s.gen.drop 1))) z1.gc, .slice z1.oa (List.length (bos (z1.T.s.used.drop 1))) z1.oc, .slice z1.va (List.length (u32s (z1.T.vals.drop 1))) z1.vc, .int .i64 z1.cap, .slice z1.pa (List.length (enP z1.P)) z1.pc, .slice z1.ba (List.length (bos z1.B)) z1.bc, .slice z1.la (List.length (enL z1.LL)) z1.lc, .slice u (List.length (u64s hs)) d]) rfl rfl rfl 7 hS rfl rfl rfl rfl (Nat.le_of_ble_eq_true rfl) rfl ag_43 (fun w hS => ?_)
        replace hS := hS.n9 L (a7 := cel p #[.pointer (some ⟨s, 0, none⟩), .int .i64 z1.cap, .int .i64 z1.T.s.cap, .slice z1.ra (List.length (u32s z1.T.s.rel)) z1.rc, .int .i64 (z1.T.s.fresh + 1), .slice z1.ga (List.length (u32s (z1.T.s.gen.drop 1))) z1.gc, .slice z1.oa (List.length (bos (z1.T.s.used.drop 1))) z1.oc, .slice z1.va (List.length (u32s (z1.T.vals.drop 1))) z1.vc, .int .i64 z1.cap, .slice z1.pa (List.length (enP z1.P)) z1.pc, .slice z1.ba (List.length (bos z1.B)) z1.bc, .slice z1.la (List.length (enL z1.LL)) z1.lc, .slice u (List.length (u64s hs)) d] 47) rfl
        refine WL.nil <| WC.seq <| WC.region <| WL.r 4 rfl <| WL.nil ?_
        as_aux_lemma =>
        refine WC.ret ?_
        refine ⟨[.bool (decide ((if V.T.s.opn y1 = true then 0 else 5) = (if z.T.s.opn y1 = true then 0 else 5)))], rfl, ?_⟩
        replace hS := (hS.sel 8 [7, 5, 2, 2, 1] rfl)
        exact ⟨_, _, _, _, _, _, congrArg Value.bool (by rw [htt]; simp), hS, hW1, hB.of (by omega) hus1 (by omega) hB.hr, hcp1⟩
      · refine WC.region <| WL.r 2 rfl <| WL.nil <| WC.ifP rfl (fun cd4 => ?_) (fun cd4 => ?_)
        · refine WC.seq <| WC.region <| WL.run 5 [.pointer (some ⟨s, 0, none⟩)] rfl (by exact hS.ld 5 rfl rfl) ?_
          refine WL.call rfl rfl (vs_rl (s := s) (a := a) (V := V) (A := A) (R := []) (h := y1) (hV := hW.vi) (hh := f1) (hlen := (by simp)) (hS := (hS.sel 7 [1, 5, 0, 0, 0, 0, 0] rfl))) rfl ?_
          clear hS; rintro _ w ⟨V1, A1, rfl, hS, f4⟩
          replace hS := hS.n8 L (a0 := Vst s a V1) (a1 := Arn a A1) rfl
          refine WL.r 5 rfl <| WL.nil ?_
          as_aux_lemma =>
          refine WC.seq <| WC.region <| WL.r 3 rfl <| WL.ldC rfl rfl [.int .i64 z.cap, .int .i64 z.T.s.cap, .slice z.ra (List.length (u32s z.T.s.rel)) z.rc, .int .i64 (z.T.s.fresh + 1), .slice z.ga (List.length (u32s (z.T.s.gen.drop 1))) z.gc, .slice z.oa (List.length (bos (z.T.s.used.drop 1))) z.oc, .slice z.va (List.length (u32s (z.T.vals.drop 1))) z.vc, .int .i64 z.cap, .slice z.pa (List.length (enP z.P)) z.pc, .slice z.ba (List.length (bos z.B)) z.bc, .slice z.la (List.length (enL z.LL)) z.lc] ag_43 rfl (hS.part 6 rfl rfl) <| WL.r 1 rfl <| WL.call rfl rfl (qs_rl (z := z) (h := y1) (hz := hrk) (hh := f1) (hl := (fun h => hW.liv h)) (hS := (hS.sel 3 [2, 0, 0] rfl))) rfl ?_
          clear hS; rintro _ w ⟨z1, rfl, hS, f5⟩
          replace hS := hS.n8 L (a0 := Shs rsF [z1]) rfl
          refine WL.r 3 rfl <| WL.new rfl rfl zv_43 hS (fun b2 w hS => ?_)
          refine WL.stF rfl rfl rfl 0 hS rfl rfl rfl rfl rfl ag_43 (fun w hS => ?_)
          replace hS := hS.n9 L (a0 := cel b2 #[.int .i64 z1.cap, .int .i64 z1.T.s.cap, .slice z1.ra (List.length (u32s z1.T.s.rel)) z1.rc, .int .i64 (z1.T.s.fresh + 1), .slice z1.ga (List.length (u32s (z1.T.s.gen.drop 1))) z1.gc, .slice z1.oa (List.length (bos (z1.T.s.used.drop 1))) z1.oc, .slice z1.va (List.length (u32s (z1.T.vals.drop 1))) z1.vc, .int .i64 z1.cap, .slice z1.pa (List.length (enP z1.P)) z1.pc, .slice z1.ba (List.length (bos z1.B)) z1.bc, .slice z1.la (List.length (enL z1.LL)) z1.lc] 43) rfl
          refine WL.r 1 rfl <| WL.nil <| WC.seq <| WC.region ?_
          obtain ⟨hW1, hla1, hcp1, hus1⟩ := hWu.rls f4 f5
          refine WL.r 1 rfl <| WL.ldF rfl rfl 0 hS rfl rfl ag_43 <| WL.r 2 rfl <| WL.stP (ds := #[.pointer (some ⟨s, 0, none⟩), .int .i64 z1.cap, .int .i64 z1.T.s.cap, .slice z1.ra (List.length (u32s z1.T.s.rel)) z1.rc, .int .i64 (z1.T.s.fresh + 1), .slice z1.ga (List.length (u32s (z1.T.s.gen.drop 1))) z1.gc, .slice z1.oa (List.length (bos (z1.T.s.used.drop 1))) z1.oc, .slice z1.va (List.length (u32s (z1.T.vals.drop 1))) z1.vc, .int .i64 z1.cap, .slice z1.pa (List.length (enP z1.P)) z1.pc, .slice z1.ba (List.length (bos z1.B)) z1.bc, .slice z1.la (List.length (enL z1.LL)) z1.lc, .slice u (List.length (u64s hs)) d]) rfl rfl rfl 7 hS rfl rfl rfl rfl (Nat.le_of_ble_eq_true rfl) rfl ag_43 (fun w hS => ?_)
          replace hS := hS.n9 L (a7 := cel p #[.pointer (some ⟨s, 0, none⟩), .int .i64 z1.cap, .int .i64 z1.T.s.cap, .slice z1.ra (List.length (u32s z1.T.s.rel)) z1.rc, .int .i64 (z1.T.s.fresh + 1), .slice z1.ga (List.length (u32s (z1.T.s.gen.drop 1))) z1.gc, .slice z1.oa (List.length (bos (z1.T.s.used.drop 1))) z1.oc, .slice z1.va (List.length (u32s (z1.T.vals.drop 1))) z1.vc, .int .i64 z1.cap, .slice z1.pa (List.length (enP z1.P)) z1.pc, .slice z1.ba (List.length (bos z1.B)) z1.bc, .slice z1.la (List.length (enL z1.LL)) z1.lc, .slice u (List.length (u64s hs)) d] 47) rfl
          refine WL.nil <| WC.seq <| WC.region <| WL.r 4 rfl <| WL.nil ?_
          as_aux_lemma =>
          refine WC.ret ?_
          refine ⟨[.bool (decide ((if V.T.s.opn y1 = true then 0 else 5) = (if z.T.s.opn y1 = true then 0 else 5)))], rfl, ?_⟩
          replace hS := (hS.sel 8 [7, 5, 2, 2, 1] rfl)
          exact ⟨_, _, _, _, _, _, congrArg Value.bool (by rw [htt]; simp), hS, hW1, hB.of (by omega) hus1 (by omega) hB.hr, hcp1⟩
        · refine WC.seq <| WC.region <| WL.r 2 rfl <| WL.nil ?_
          as_aux_lemma =>
          refine WC.ifP rfl (fun cd5 => ?_) (fun cd5 => ?_)
          · refine WC.seq <| WC.seq <| WC.region <| WL.r 2 rfl <| WL.nil <| WC.cut [0, 3, 4, 5, 6, 7, 8, 9, 10] (fun vs w => ∃ (rt : Int) (xe : Kvs) (xa : Option Addr) (xc : Nat), vs = [.pointer (some ⟨p, 0, none⟩), .pointer (some ⟨b1, 0, none⟩), .bool false, .pointer (some ⟨a, 0, none⟩), .int .u64 y1, .int .u64 y2, .slice xa (List.length (en2 xe)) xc, .int .i64 (if z.T.s.opn y1 = true then 0 else 5), .int .u32 rt] ∧ St g (Shs rsF [z] :: Vst s a V :: Sh 121 2 (en2 xe) xa xc :: Own 23 1 (u64s hs) u d :: cel b1 #[.int .i64 kd, .int .u64 ca, .int .u64 cb, .slice ea (List.length (en2 es)) ec, .bool rb] 51 :: cel p #[.pointer (some ⟨s, 0, none⟩), .int .i64 z.cap, .int .i64 z.T.s.cap, .slice z.ra (List.length (u32s z.T.s.rel)) z.rc, .int .i64 (z.T.s.fresh + 1), .slice z.ga (List.length (u32s (z.T.s.gen.drop 1))) z.gc, .slice z.oa (List.length (bos (z.T.s.used.drop 1))) z.oc, .slice z.va (List.length (u32s (z.T.vals.drop 1))) z.vc, .int .i64 z.cap, .slice z.pa (List.length (enP z.P)) z.pc, .slice z.ba (List.length (bos z.B)) z.bc, .slice z.la (List.length (enL z.LL)) z.lc, .slice u (List.length (u64s hs)) d] 47 :: Arn a A :: Sh 121 2 (en2 es) ea ec :: L) w ∧ (rt = 0 ∨ (1 ≤ rt ∧ A.s.ok rt = true)) ∧ (xe.length ≤ 12 + n) ∧ (V.T.s.opn y1 = true → TrL A rt xe)) ?_ ?_
            · refine WC.ifP rfl (fun cd6 => ?_) (fun cd6 => ?_)
              · refine WC.region ?_
                replace hS : St g (Sh 121 2 (en2 []) none 0 :: Shs rsF [z] :: Vst s a V :: Sh 121 2 (en2 x1.es) x1.a x1.c :: Own 23 1 (u64s hs) u d :: cel b1 #[.int .i64 kd, .int .u64 ca, .int .u64 cb, .slice ea (List.length (en2 es)) ec, .bool rb] 51 :: cel p #[.pointer (some ⟨s, 0, none⟩), .int .i64 z.cap, .int .i64 z.T.s.cap, .slice z.ra (List.length (u32s z.T.s.rel)) z.rc, .int .i64 (z.T.s.fresh + 1), .slice z.ga (List.length (u32s (z.T.s.gen.drop 1))) z.gc, .slice z.oa (List.length (bos (z.T.s.used.drop 1))) z.oc, .slice z.va (List.length (u32s (z.T.vals.drop 1))) z.vc, .int .i64 z.cap, .slice z.pa (List.length (enP z.P)) z.pc, .slice z.ba (List.length (bos z.B)) z.bc, .slice z.la (List.length (enL z.LL)) z.lc, .slice u (List.length (u64s hs)) d] 47 :: Arn a A :: Sh 121 2 (en2 es) ea ec :: L) w := hS.nilS 121 2
                refine WL.r 2 rfl <| WL.nil ?_
                exact ⟨0, [], none, 0, rfl, (hS.sel 4 [1, 1, 0] rfl), (.inl rfl), (Nat.zero_le _), (fun h => absurd (if_pos (by rw [htt]; exact h)) cd6)⟩
              · refine WC.skip ?_
                exact ⟨(if V.T.s.opn y1 = true then V.rootOf (V.T.val y1) else 0), x1.es, x1.a, x1.c, rfl, hS, (root_any hW y1), (hl1), (fun h => by rw [if_pos h]; exact hl3 h)⟩
            clear hS; rintro _ w j ⟨rt, xe, xa, xc, rfl, hS, hro, hxe, hxt⟩
            refine WC.seq <| WC.region ?_
            have hre := AM.ret_eq hW.vi.ref hro (by simp; omega); have hrr := hW.vi.ref.okrng hro
            refine WL.r 2 rfl <| WL.call rfl rfl (ar_retain (a := a) (A := A) (i := rt) (hA := hW.vi.ref.toAWf) (hi := (by omega)) (hS := (hS.sel 7 [6, 0, 0, 0, 0, 0, 0] rfl))) rfl ?_
            clear hS; rintro _ w ⟨rfl, hS⟩
            replace hS := hS.n8 L (a0 := Arn a (A.ret rt)) rfl
            refine WL.r 2 rfl <| WL.reb 209 (.bool true) (congrArg Value.bool (decide_eq_true (hre.2))) <| WL.ung rfl rfl rfl <| WL.r 1 rfl <| WL.ung rfl rfl rfl <| WL.r 1 rfl <| WL.ung rfl rfl rfl <| WL.r 1 rfl <| WL.ung rfl rfl rfl <| WL.r 1 rfl <| WL.ung rfl rfl rfl <| WL.r 1 rfl ?_
            refine WL.ung rfl rfl rfl <| WL.lit rfl rfl (u64s [y1, y2]) el_45 hS (by exact ⟨rfl, rfl, rfl, rfl⟩) (u64s_ok _) rfl (Nat.le_of_ble_eq_true rfl) (fun b2 w hS => ?_)
            refine WL.ung rfl rfl rfl ?_
            replace hS := (hS.at_ 0 rfl).share
            replace hS := hS.n9 L (a0 := Sh 23 1 (u64s [y1, y2]) (some ⟨b2, 0, none⟩) (List.length (u64s [y1, y2]))) rfl
            refine WL.call rfl rfl (wcommit (p := p) (s := s) (a := a) (V := V) (A := A.ret rt) (z := z) (m := 12 + (n + 1)) (hs := hs) (u := u) (d := d) (root := rt) (xe := xe) (xa := xa) (xc := xc) (ps := [y1, y2]) (pa := some ⟨b2, 0, none⟩) (pc := List.length (u64s [y1, y2])) (hW := (hWu.rtn hro)) (hx := (by omega)) (ht := (fun h0 => (hxt ((comE_0 h0).2.1 _ (by simp))).ret rt)) (hps := (two_rng f1 f2)) (hpl := (by simp)) (hla := (by omega)) (hhs := hB.hr) (hhl := (by omega)) (hS := (hS.sel 8 [7, 5, 3, 1, 1, 1, 0, 0] rfl))) rfl ?_
            clear hS; rintro _ w ⟨V1, A1, z1, hs1, u1, d1, rfl, hS, f4, f5, f6⟩
            replace hS := hS.n7 L (a0 := cel p #[.pointer (some ⟨s, 0, none⟩), .int .i64 z1.cap, .int .i64 z1.T.s.cap, .slice z1.ra (List.length (u32s z1.T.s.rel)) z1.rc, .int .i64 (z1.T.s.fresh + 1), .slice z1.ga (List.length (u32s (z1.T.s.gen.drop 1))) z1.gc, .slice z1.oa (List.length (bos (z1.T.s.used.drop 1))) z1.oc, .slice z1.va (List.length (u32s (z1.T.vals.drop 1))) z1.vc, .int .i64 z1.cap, .slice z1.pa (List.length (enP z1.P)) z1.pc, .slice z1.ba (List.length (bos z1.B)) z1.bc, .slice z1.la (List.length (enL z1.LL)) z1.lc, .slice u1 (List.length (u64s hs1)) d1] 47) (a1 := Own 23 1 (u64s hs1) u1 d1) (a2 := Vst s a V1) (a3 := Arn a A1) (a4 := Shs rsF [z1]) rfl
            refine WL.r 2 rfl <| WL.nil ?_
            as_aux_lemma =>
            refine WC.ret ?_
            refine ⟨[.bool true], rfl, ?_⟩
            replace hS := (hS.sel 6 [0, 0, 0, 0, 0] rfl)
            exact ⟨_, _, _, _, _, _, rfl, hS, f4, hB.of f5.1 (f5.2.2.trans (congrArg (fun q => List.length (SM.used q)) (A.ret_same rt).1)) f6.1 f6.2, f5.2.1⟩
          · refine WC.skip <| WC.seq <| WC.seq <| WC.region <| WL.r 2 rfl <| WL.runG 6 [.slice ea (List.length (en2 es)) ec] rfl (by exact (fun _ => hS.ld 4 rfl rfl)) (fun j => ?_)
            refine WL.prop 225 rfl (bor (dd _) (dd _)) <| WL.nil <| WC.ifP rfl (fun he => ?_) (fun he => ?_)
            · refine WC.seq <| WC.region <| WL.r 1 rfl <| WL.nil <| WC.ret ?_
              refine ⟨[.bool true], rfl, ?_⟩
              replace hS := (hS.sel 7 [5, 3, 1, 3, 0] rfl)
              exact ⟨V, A, z, hs, _, _, rfl, hS, hWu, hB.mono, rfl⟩
            · refine WC.skip <| WC.seq <| WC.region ?_
              obtain ⟨e, hes⟩ : ∃ e, es[0]? = some e := ⟨_, List.getElem?_eq_getElem (by omega)⟩; have hop : V.T.s.opn y1 = true := (by have h9 := ya_0 (fun h => he (.inl h)); rw [htt] at h9; exact h9); obtain ⟨t, t1, t2, t3, t4⟩ := hl3 hop; have htn : t.n = x1.es.length := (by rw [← Tr.ls_len, t4]); have hmx := Tr.mxH_le (t.n + 1); have hroots : (List.map RN.root V.rs ++ []).length = V.rs.length := (by simp); have hins := Tr.ins_ls e.1 e.2 t t3; have hlen := lins_len (k := e.1) (v := e.2) hl2; have hle : (lins e.1 e.2 x1.es).length ≤ x1.es.length + 1 := (by split at hlen <;> omega)
              refine WL.run 4 [.slice ea (List.length (en2 es)) ec] rfl (by exact hS.ld 4 rfl rfl) ?_
              refine WL.ix rfl rfl (i := 0) (0) el_49 rfl rfl (by omega) (by omega) (hS.rdS 7 rfl (en2_at hes)).1 ?_
              refine WL.ldC rfl rfl [.int .i64 e.1, .int .i64 e.2] ag_121 rfl (hS.rdS 7 rfl (en2_at hes)).2 <| WL.call rfl rfl (up_ins (a := a) (A := A) (R := List.map RN.root V.rs ++ []) (i := if V.T.s.opn y1 = true then V.rootOf (V.T.val y1) else 0) (k := e.1) (z := e.2) (t := t) (hA := hW.vi.ref) (hi := (by rw [if_pos hop]; exact t1)) (hb := t2) (hn := (by omega)) (hf := (by omega)) (hz := (by omega)) (hS := (hS.sel 7 [6, 0, 0, 0, 0, 0, 0] rfl))) rfl ?_
              clear hS; rintro _ w ⟨A1, j1, rfl, hS, f4⟩
              replace hS := hS.n8 L (a0 := Arn a A1) rfl
              refine WL.r 9 rfl <| WL.nil <| WC.seq <| WC.region <| WL.r 3 rfl <| WL.reb 240 (.bool true) (congrArg Value.bool (decide_eq_true (by decide))) ?_
              refine WL.ung rfl rfl rfl <| WL.r 1 rfl <| WL.ung rfl rfl rfl <| WL.r 1 rfl <| WL.ung rfl rfl rfl <| WL.r 1 rfl <| WL.ung rfl rfl rfl <| WL.r 1 rfl <| WL.ung rfl rfl rfl <| WL.run 1 [.slice ea (List.length (en2 es)) ec] rfl (by exact hS.ld 5 rfl rfl) ?_
              refine WL.ung rfl rfl rfl <| WL.ix rfl rfl (i := 0) (0) el_49 rfl rfl (by omega) (by omega) (hS.rdS 7 rfl (en2_at hes)).1 ?_
              refine WL.ung rfl rfl rfl <| WL.ldC rfl rfl [.int .i64 e.1, .int .i64 e.2] ag_121 rfl (hS.rdS 7 rfl (en2_at hes)).2 <| WL.ung rfl rfl rfl <| WL.call rfl rfl (ref_ins (l := x1.es) (u := x1.a) (d := x1.c) (k := e.1) (z := e.2) (hs := hl2) (hl := (by omega)) (hS := (hS.sel 4 [3, 0, 0, 0] rfl))) rfl ?_
              clear hS; rintro _ w ⟨a1, c1, rfl, hS⟩
              replace hS := hS.n9 L (a0 := Own 121 2 (en2 (lins e.1 e.2 x1.es)) a1 c1) rfl
              refine WL.ung rfl rfl rfl <| WL.r 1 rfl <| WL.ung rfl rfl rfl <| WL.lit rfl rfl (u64s [y1]) el_45 hS (by exact ⟨rfl, rfl⟩) (u64s_ok _) rfl (Nat.le_of_ble_eq_true rfl) (fun b2 w hS => ?_)
              refine WL.ung rfl rfl rfl ?_
              replace hS := (hS.at_ 1 rfl).share
              replace hS := hS.n10 L (a0 := Sh 121 2 (en2 (lins e.1 e.2 x1.es)) a1 c1) (a1 := Own 23 1 (u64s [y1]) (some ⟨b2, 0, none⟩) (List.length (u64s [y1]))) rfl
              replace hS := (hS.at_ 1 rfl).share
              replace hS := hS.n10 L (a0 := Sh 23 1 (u64s [y1]) (some ⟨b2, 0, none⟩) (List.length (u64s [y1]))) rfl
              refine WL.call rfl rfl (wcommit (p := p) (s := s) (a := a) (V := V) (A := A1) (z := z) (m := 12 + (n + 1)) (hs := hs) (u := u) (d := d) (root := j1) (xe := lins e.1 e.2 x1.es) (xa := a1) (xc := c1) (ps := [y1]) (pa := some ⟨b2, 0, none⟩) (pc := List.length (u64s [y1])) (hW := (hWu.one f4)) (hx := (by omega)) (ht := (fun _ => ⟨_, f4.is, Tr.ins_ok _ _ t t2, by rw [hins, t4]; exact lins_srt hl2, by rw [hins, t4]⟩)) (hps := (fun q hq => by rw [List.mem_singleton.1 hq]; exact f1)) (hpl := (by simp)) (hla := (by omega)) (hhs := hB.hr) (hhl := (by omega)) (hS := (hS.sel 9 [8, 6, 5, 3, 3, 1, 0, 0, 0] rfl))) rfl ?_
              clear hS; rintro _ w ⟨V1, A2, z1, hs1, u1, d1, rfl, hS, f5, f6, f7⟩
              replace hS := hS.n8 L (a0 := cel p #[.pointer (some ⟨s, 0, none⟩), .int .i64 z1.cap, .int .i64 z1.T.s.cap, .slice z1.ra (List.length (u32s z1.T.s.rel)) z1.rc, .int .i64 (z1.T.s.fresh + 1), .slice z1.ga (List.length (u32s (z1.T.s.gen.drop 1))) z1.gc, .slice z1.oa (List.length (bos (z1.T.s.used.drop 1))) z1.oc, .slice z1.va (List.length (u32s (z1.T.vals.drop 1))) z1.vc, .int .i64 z1.cap, .slice z1.pa (List.length (enP z1.P)) z1.pc, .slice z1.ba (List.length (bos z1.B)) z1.bc, .slice z1.la (List.length (enL z1.LL)) z1.lc, .slice u1 (List.length (u64s hs1)) d1] 47) (a1 := Own 23 1 (u64s hs1) u1 d1) (a2 := Vst s a V1) (a3 := Arn a A2) (a4 := Shs rsF [z1]) rfl
              refine WL.r 2 rfl <| WL.nil ?_
              as_aux_lemma =>
              refine WC.ret ?_
              refine ⟨[.bool true], rfl, ?_⟩
              replace hS := (hS.sel 7 [0, 0, 0, 0, 0] rfl)
              exact ⟨_, _, _, _, _, _, rfl, hS, f5, hB.of f6.1 (f6.2.2.trans f4.cap) f7.1 f7.2, f6.2.1⟩
end Go.Proofs.YtbeacjcmdijdmaaGreat
/-! ## Vcl -/
namespace Go.V
open Go Go.RowKit
structure Vc where
  kd : Int
  ca : Int
  cb : Int
  es : Kvs
  a : Option Addr
  c : Nat
  rb : Bool
def vcC (z : Vc) : List Value := [.int .i64 z.kd, .int .u64 z.ca, .int .u64 z.cb, .slice z.a (en2 z.es).length z.c, .bool z.rb]
def vcF (z : Vc) : List HP := [Sh 121 2 (en2 z.es) z.a z.c]
def enV (l : List Vc) : List (List Value) := l.map vcC
@[simp] theorem enV_len (l : List Vc) : (enV l).length = l.length := by simp [enV]
theorem enV_at {l : List Vc} {k : Nat} {z : Vc} (h : l[k]? = some z) : (enV l)[k]? = some [.int .i64 z.kd, .int .u64 z.ca, .int .u64 z.cb, .slice z.a (en2 z.es).length z.c, .bool z.rb] := by simp [enV, h, vcC]
theorem enV_ok (l : List Vc) : OkE 5 (enV l) := fun x hx => by
  obtain ⟨y, _, rfl⟩ := List.mem_map.1 hx
  exact ⟨rfl, fun u hu => by simp [vcC] at hu; rcases hu with rfl | rfl | rfl | rfl | rfl <;> rfl⟩
structure VcOk (z : Vc) : Prop where
  kd : -9223372036854775808 ≤ z.kd ∧ z.kd ≤ 9223372036854775807
  ca : 0 ≤ z.ca ∧ z.ca ≤ 18446744073709551615
  cb : 0 ≤ z.cb ∧ z.cb ≤ 18446744073709551615
  es : z.es.length ≤ maxLen
end Go.V
/-! ## U4 -/
namespace Go.Proofs.YtbeacjcmdijdmaaGreat
open Go Go.V Go.RowKit
theorem live_len (S : SM) : ((AM.mk S [] []).live.length) = (TM.handles ⟨S, []⟩).length := by
  unfold AM.live TM.handles
  rw [List.length_map, List.filter_map, List.length_map]; rfl
theorem VI.none {V : VM} {A : AM} {R : List Int} (h : VI V A R) (hk : KO V.xs) (h0 : V.T.s.free = V.T.s.cap) : V.xs = [] ∧ V.rs = [] := by
  have hd : ∀ z, liveG V.xs z ≠ true := fun z hz => by
    obtain ⟨i, i0, i1, _⟩ := h.all z hz
    have h1 := AM.cnt_live (A := AM.mk V.T.s [] []) h.t.s
    have h2 : i ∈ (AM.mk V.T.s [] []).live := (AM.mem_live i).2 ⟨i0, i1⟩
    have h3 := List.length_pos_of_mem h2
    have h4 : (AM.mk V.T.s [] []).s = V.T.s := rfl
    rw [h4] at h1; omega
  have hp : ∀ z, preG V.xs z ≠ true := fun z hz => by
    rcases hk z hz with h1 | ⟨_, x, _, h1, _⟩
    · exact hd z h1
    · exact hd x h1
  constructor
  · cases e : V.xs with
    | nil => rfl
    | cons x xs => exact absurd (pre_iff.2 ⟨x, by rw [e]; simp, rfl⟩) (hp x.n)
  · cases e : V.rs with
    | nil => rfl
    | cons r rs => exact absurd ((h.pre r.n).1 ⟨r, by rw [e]; simp, rfl⟩) (hp r.n)
set_option maxRecDepth 8192 in
theorem rnew_q {g w : World} {L : List HP} (cap : Int) (hS : St g (L) w) :
    Sp Tryz.prog 61 [.int .i64 cap] w (fun v w' => v = .agg #[.int .i64 cap, .slice none 0 0, .slice none 0 0] ∧ St g (L) w') := by
  refine Sp.enter Tryz.func61 rfl (by kernel_rfl) (by kernel_rfl) ?_
  refine WC.seq <| WC.region <| WL.new rfl rfl zv_40 hS (fun b1 w hS => ?_)
  refine WL.nil <| WC.seq <| WC.region <| WL.r 1 rfl <| WL.build rfl rfl (cs := [.int .i64 cap, .slice none 0 0, .slice none 0 0]) zv_40 rfl rfl <| WL.stF rfl rfl rfl 0 hS rfl rfl rfl rfl rfl ag_40 (fun w hS => ?_)
  replace hS : St g (cel b1 #[.int .i64 cap, .slice none 0 0, .slice none 0 0] 40 :: L) w := hS
  refine WL.nil <| WC.ret ?_
  refine ⟨[.agg #[.int .i64 cap, .slice none 0 0, .slice none 0 0]], ⟨⟨_, rfl, hS.lvF 0 rfl ag_40⟩, trivial⟩, ?_⟩
  replace hS := (hS.sel 1 [] rfl)
  exact ⟨rfl, hS⟩
set_option maxRecDepth 8192 in
theorem qs_new {g w : World} {L : List HP} (n : Nat) (cz : Int) (hc : cz = (n : Int)) (hn : 1 ≤ n ∧ n ≤ 4096) (hS : St g (L) w) :
    Sp Tryz.prog 12 [.int .i64 cz] w (fun v w' => ∃ (z : RSt), v = .agg #[.int .i64 z.cap, .int .i64 z.T.s.cap, .slice z.ra (List.length (u32s z.T.s.rel)) z.rc, .int .i64 (z.T.s.fresh + 1), .slice z.ga (List.length (u32s (z.T.s.gen.drop 1))) z.gc, .slice z.oa (List.length (bos (z.T.s.used.drop 1))) z.oc, .slice z.va (List.length (u32s (z.T.vals.drop 1))) z.vc, .int .i64 z.cap, .slice z.pa (List.length (enP z.P)) z.pc, .slice z.ba (List.length (bos z.B)) z.bc, .slice z.la (List.length (enL z.LL)) z.lc] ∧ St g (Shs rsF [z] :: L) w' ∧ (z.T = TM.new n ∧ z.cap = n ∧ z.P = [] ∧ z.B = [] ∧ z.LL = [])) := by
  refine Sp.enter Tryz.func12 rfl (by kernel_rfl) (by kernel_rfl) ?_
  refine WC.seq <| WC.region <| WL.new rfl rfl zv_43 hS (fun b1 w hS => ?_)
  refine WL.nil <| WC.seq <| WC.region ?_
  subst hc
  refine WL.r 2 rfl <| WL.call rfl rfl (q_new4 (n := n) (hn := hn) (hS := hS)) rfl ?_
  clear hS; rintro _ w ⟨ga1, oa1, va1, gc1, oc1, vc1, rfl, hS⟩
  replace hS : St g (Sh 64 1 (u32s (TM.new n).s.rel) none 0 :: Sh 64 1 (u32s ((TM.new n).s.gen.drop 1)) ga1 gc1 :: Sh 4 1 (bos ((TM.new n).s.used.drop 1)) oa1 oc1 :: Sh 64 1 (u32s ((TM.new n).vals.drop 1)) va1 vc1 :: cel b1 #[.int .i64 0, .int .i64 0, .slice none 0 0, .int .i64 0, .slice none 0 0, .slice none 0 0, .slice none 0 0, .int .i64 0, .slice none 0 0, .slice none 0 0, .slice none 0 0] 43 :: L) w := hS
  refine WL.r 1 rfl <| WL.call rfl rfl (rnew_q (cap := (n : Int))  (hS := hS)) rfl ?_
  clear hS; rintro _ w ⟨rfl, hS⟩
  replace hS := hS.n5 L rfl
  refine WL.build rfl rfl (cs := [.int .i64 (n : Int), .int .i64 (TM.new n).s.cap, .slice none (List.length (u32s (TM.new n).s.rel)) 0, .int .i64 ((TM.new n).s.fresh + 1), .slice ga1 (List.length (u32s ((TM.new n).s.gen.drop 1))) gc1, .slice oa1 (List.length (bos ((TM.new n).s.used.drop 1))) oc1, .slice va1 (List.length (u32s ((TM.new n).vals.drop 1))) vc1, .int .i64 (n : Int), .slice none 0 0, .slice none 0 0, .slice none 0 0]) zv_43 rfl rfl <| WL.stF rfl rfl rfl 4 hS rfl rfl rfl rfl rfl ag_43 (fun w hS => ?_)
  replace hS := hS.n5 L (a4 := cel b1 #[.int .i64 (n : Int), .int .i64 (TM.new n).s.cap, .slice none (List.length (u32s (TM.new n).s.rel)) 0, .int .i64 ((TM.new n).s.fresh + 1), .slice ga1 (List.length (u32s ((TM.new n).s.gen.drop 1))) gc1, .slice oa1 (List.length (bos ((TM.new n).s.used.drop 1))) oc1, .slice va1 (List.length (u32s ((TM.new n).vals.drop 1))) vc1, .int .i64 (n : Int), .slice none 0 0, .slice none 0 0, .slice none 0 0] 43) rfl
  refine WL.nil <| WC.ret ?_
  refine ⟨[.agg #[.int .i64 (n : Int), .int .i64 (TM.new n).s.cap, .slice none (List.length (u32s (TM.new n).s.rel)) 0, .int .i64 ((TM.new n).s.fresh + 1), .slice ga1 (List.length (u32s ((TM.new n).s.gen.drop 1))) gc1, .slice oa1 (List.length (bos ((TM.new n).s.used.drop 1))) oc1, .slice va1 (List.length (u32s ((TM.new n).vals.drop 1))) vc1, .int .i64 (n : Int), .slice none 0 0, .slice none 0 0, .slice none 0 0]], ⟨⟨_, rfl, hS.lvF 4 rfl ag_43⟩, trivial⟩, ?_⟩
  replace hS := ((((((hS.shsNil leF).nilS 49 1).nilS 4 1).shsNil prF).nilS 56 1).rsPut (RSt.mk n (TM.new n) [] [] [] none ga1 oa1 va1 none none none 0 gc1 oc1 vc1 0 0 0) [5, 5, 5, 5, 0, 0, 0, 0, 0] rfl).sel 11 [0] rfl; exact ⟨_, rfl, hS, rfl, rfl, rfl, rfl, rfl⟩
theorem WR.new {n : Nat} (h1 : 1 ≤ n ∧ n ≤ 4096) {z : RSt} (hz : z.T = TM.new n ∧ z.cap = n ∧ z.P = [] ∧ z.B = [] ∧ z.LL = []) (m : Nat) : WR (VM.new n) (AM.new 2500) [] z m := by
  obtain ⟨e1, e2, e3, e4, e5⟩ := hz
  refine ⟨VI.new (by omega) h1, KO.nil, ?_, e1, e2, by rw [e5, e3]; rfl, fun _ hr => (by cases hr), fun _ hx => (by rw [e5] at hx; cases hx), (show (0 : Int) ≤ 800 by decide), Int.natCast_nonneg _⟩
  rw [e3, e4]; exact RA.nil
end Go.Proofs.YtbeacjcmdijdmaaGreat
/-! ## Dm -/
namespace Go.V
open Go Go.RowKit
structure SlE where
  al : Bool
  cn : Int
  ge : Int
  nd : Nd
def slC (x : SlE) : List Value := [.bool x.al, .int .i64 x.cn, .int .u32 x.ge, .int .i64 x.nd.key, .int .i64 x.nd.val, .int .u32 x.nd.lf, .int .u32 x.nd.rg, .int .i64 x.nd.size, .int .i64 x.nd.sum, .int .i64 x.nd.mn, .int .i64 x.nd.mx]
def sls (l : List SlE) : List (List Value) := l.map slC
@[simp] theorem sls_len (l : List SlE) : (sls l).length = l.length := by simp [sls]
theorem sls_at {l : List SlE} {k : Nat} {x : SlE} (h : l[k]? = some x) : (sls l)[k]? = some (slC x) := by simp [sls, h]
theorem sls_set (l : List SlE) (k : Nat) (x : SlE) : (sls l).set k (slC x) = sls (l.set k x) := by simp [sls, List.map_set]
def SlE.zero : SlE := ⟨false, 0, 0, Nd.zero⟩
def AM.cntD (A : AM) (i : Int) : Int := if A.s.ok i = true then A.cntOf i else 0
def AM.dmpAt (A : AM) (i : Int) : SlE := ⟨A.s.ok i, A.cntD i, A.s.genOf i, (A.nodes[i.toNat]?).getD Nd.zero⟩
def AM.dmp (A : AM) : List SlE := (List.range A.s.cap.toNat).map fun j : Nat => A.dmpAt ((j : Int) + 1)
def AM.dmpK (A : AM) (k : Nat) : List SlE := (List.range A.s.cap.toNat).map fun j : Nat => if j < k then A.dmpAt ((j : Int) + 1) else SlE.zero
theorem AM.dmp_len (A : AM) : A.dmp.length = A.s.cap.toNat := by simp [AM.dmp]
theorem AM.dmpK_len (A : AM) (k : Nat) : (A.dmpK k).length = A.s.cap.toNat := by simp [AM.dmpK]
theorem AM.dmpK_0 (A : AM) : sls (A.dmpK 0) = List.replicate A.s.cap.toNat (slC SlE.zero) := by
  unfold AM.dmpK
  have : (List.range A.s.cap.toNat).map (fun j : Nat => if j < 0 then A.dmpAt ((j : Int) + 1) else SlE.zero) = List.replicate A.s.cap.toNat SlE.zero := by
    apply List.ext_getElem <;> simp
  rw [this]; simp [sls]
theorem AM.dmpK_set (A : AM) {k : Nat} : (A.dmpK k).set k (A.dmpAt ((k : Int) + 1)) = A.dmpK (k + 1) := by
  apply List.ext_getElem?
  intro i
  rw [List.getElem?_set]
  unfold AM.dmpK
  rw [List.length_map, List.length_range, List.getElem?_map, List.getElem?_map]
  by_cases hi : i < A.s.cap.toNat
  · rw [List.getElem?_range hi]
    by_cases hk : k = i
    · subst hk; rw [if_pos rfl, if_pos hi]; simp
    · rw [if_neg hk]
      simp only [Option.map_some]
      by_cases h2 : i < k
      · rw [if_pos h2, if_pos (by omega)]
      · rw [if_neg h2, if_neg (by omega)]
  · have hn : (List.range A.s.cap.toNat)[i]? = none := List.getElem?_eq_none (by simp; omega)
    rw [hn]
    by_cases hk : k = i
    · subst hk; rw [if_pos rfl, if_neg hi]; rfl
    · rw [if_neg hk]; rfl
theorem AM.dmpK_end (A : AM) : A.dmpK A.s.cap.toNat = A.dmp := by
  unfold AM.dmpK AM.dmp
  refine List.map_congr_left fun j hj => ?_
  rw [if_pos (List.mem_range.1 hj)]
end Go.V
/-! ## D2 -/
namespace Go.Proofs.YtbeacjcmdijdmaaGreat
open Go Go.V
set_option maxRecDepth 8192 in
theorem ar_cap_o {g w : World} {L : List HP} (a p : Nat) (A : AM) (na : Option Addr) (nc : Nat) (ca : Option Addr) (cc : Nat) (rd : Int) (hA : AWf A) (hS : St g (cel a #[.pointer (some ⟨p, 0, none⟩), .slice na (List.length (nds A.nodes)) nc, .slice ca (List.length (i64s A.cnt)) cc, .int .u64 rd] 161 :: Slt p A.s :: Own 172 8 (nds A.nodes) na nc :: Own 3 1 (i64s A.cnt) ca cc :: L) w) :
    Sp Tryz.prog 14 [.pointer (some ⟨a, 0, none⟩)] w (fun v w' => v = .int .i64 A.s.cap ∧ St g (cel a #[.pointer (some ⟨p, 0, none⟩), .slice na (List.length (nds A.nodes)) nc, .slice ca (List.length (i64s A.cnt)) cc, .int .u64 rd] 161 :: Slt p A.s :: Own 172 8 (nds A.nodes) na nc :: Own 3 1 (i64s A.cnt) ca cc :: L) w') := by
  refine Sp.enter Tryz.func14 rfl (by kernel_rfl) (by kernel_rfl) ?_
  refine WC.seq <| WC.region ?_
  have hs := hA.s
  refine WL.r 1 rfl <| WL.nil <| WC.seq <| WC.region <| WL.run 4 [.pointer (some ⟨p, 0, none⟩)] rfl (by exact hS.ld 0 rfl rfl) ?_
  refine WL.call rfl rfl (sl_cap (s := p) (S := A.s) (hl := hA.s.le) (hS := (hS.sel 2 [1, 0] rfl))) rfl ?_
  clear hS; rintro _ w ⟨rfl, hS⟩
  replace hS := hS.n4 L rfl
  refine WL.r 1 rfl <| WL.nil <| WC.ret ?_
  refine ⟨[.int .i64 A.s.cap], rfl, ?_⟩
  replace hS := (hS.sel 2 [1, 0] rfl)
  exact ⟨rfl, hS⟩
set_option maxRecDepth 8192 in
theorem ar_gen_o {g w : World} {L : List HP} (a p : Nat) (A : AM) (na : Option Addr) (nc : Nat) (ca : Option Addr) (cc : Nat) (rd : Int) (i : Int) (hA : AWf A) (hi : 0 ≤ i ∧ i < 4294967296) (hS : St g (cel a #[.pointer (some ⟨p, 0, none⟩), .slice na (List.length (nds A.nodes)) nc, .slice ca (List.length (i64s A.cnt)) cc, .int .u64 rd] 161 :: Slt p A.s :: Own 172 8 (nds A.nodes) na nc :: Own 3 1 (i64s A.cnt) ca cc :: L) w) :
    Sp Tryz.prog 82 [.pointer (some ⟨a, 0, none⟩), .int .u32 i] w (fun v w' => v = .int .u32 (A.s.genOf i) ∧ St g (cel a #[.pointer (some ⟨p, 0, none⟩), .slice na (List.length (nds A.nodes)) nc, .slice ca (List.length (i64s A.cnt)) cc, .int .u64 rd] 161 :: Slt p A.s :: Own 172 8 (nds A.nodes) na nc :: Own 3 1 (i64s A.cnt) ca cc :: L) w') := by
  refine Sp.enter Tryz.func82 rfl (by kernel_rfl) (by kernel_rfl) ?_
  have _ := hi
  refine WC.seq <| WC.region ?_
  have hs := hA.s
  refine WL.r 1 rfl <| WL.nil <| WC.seq <| WC.region <| WL.run 5 [.pointer (some ⟨p, 0, none⟩)] rfl (by exact hS.ld 0 rfl rfl) ?_
  refine WL.call rfl rfl (sl_gen (s := p) (S := A.s) (i := i) (hl := (by first | assumption | exact SOk.gle (by assumption))) (hi := (by omega)) (hS := (hS.sel 2 [1, 0] rfl))) rfl ?_
  clear hS; rintro _ w ⟨rfl, hS⟩
  replace hS := hS.n4 L rfl
  refine WL.r 1 rfl <| WL.nil <| WC.ret ?_
  refine ⟨[.int .u32 (A.s.genOf i)], rfl, ?_⟩
  replace hS := (hS.sel 2 [1, 0] rfl)
  exact ⟨rfl, hS⟩
set_option maxRecDepth 8192 in
theorem ar_count_o {g w : World} {L : List HP} (a p : Nat) (A : AM) (na : Option Addr) (nc : Nat) (ca : Option Addr) (cc : Nat) (rd : Int) (i : Int) (hA : AWf A) (hi : 0 ≤ i ∧ i < 4294967296) (hS : St g (cel a #[.pointer (some ⟨p, 0, none⟩), .slice na (List.length (nds A.nodes)) nc, .slice ca (List.length (i64s A.cnt)) cc, .int .u64 rd] 161 :: Slt p A.s :: Own 172 8 (nds A.nodes) na nc :: Own 3 1 (i64s A.cnt) ca cc :: L) w) :
    Sp Tryz.prog 81 [.pointer (some ⟨a, 0, none⟩), .int .u32 i] w (fun v w' => v = .int .i64 (AM.cntD A i) ∧ St g (cel a #[.pointer (some ⟨p, 0, none⟩), .slice na (List.length (nds A.nodes)) nc, .slice ca (List.length (i64s A.cnt)) cc, .int .u64 rd] 161 :: Slt p A.s :: Own 172 8 (nds A.nodes) na nc :: Own 3 1 (i64s A.cnt) ca cc :: L) w') := by
  refine Sp.enter Tryz.func81 rfl (by kernel_rfl) (by kernel_rfl) ?_
  refine WC.seq <| WC.region <| WL.r 1 rfl <| WL.nil <| WC.seq <| WC.seq <| WC.region ?_
  have hs := hA.s; have hle := hA.s.le; have hcl := hA.cl; have hil := i64s_len A.cnt
  refine WL.run 5 [.pointer (some ⟨p, 0, none⟩)] rfl (by exact hS.ld 0 rfl rfl) ?_
  refine WL.call rfl rfl (sl_ok (s := p) (S := A.s) (i := i) (hl := hle) (hi := hi) (hS := (hS.sel 2 [1, 0] rfl))) rfl ?_
  clear hS; rintro _ w ⟨rfl, hS⟩
  replace hS := hS.n4 L rfl
  refine WL.r 1 rfl <| WL.nil <| WC.if_ rfl (fun hc => ?_) (fun hc => ?_)
  · refine WC.seq <| WC.region <| WL.r 1 rfl <| WL.nil <| WC.ret ?_
    refine ⟨[.int .i64 0], rfl, ?_⟩
    replace hS := (hS.sel 2 [1, 0] rfl)
    exact ⟨by unfold AM.cntD; rw [if_neg (by simpa using hc)]; rfl, hS⟩
  · refine WC.skip <| WC.seq <| WC.region <| WL.run 5 [.slice ca (List.length (i64s A.cnt)) cc] rfl (by exact hS.ld 1 rfl rfl) ?_
    have hr := SM.ok_rng hA.s hi.1 (by simpa using hc); obtain ⟨x, hx⟩ : ∃ x, A.cnt[i.toNat]? = some x := ⟨_, List.getElem?_eq_getElem (by omega)⟩
    refine WL.ix rfl rfl (i := i) (i.toNat) el_56 rfl rfl (by omega) (by omega) (hS.rdO 3 rfl (i64s_at hx)).1 ?_
    refine WL.run 2 [.int .i64 x] rfl (by exact (hS.rdO 3 rfl (i64s_at hx)).2 0 _ rfl) ?_
    refine WL.nil <| WC.ret ?_
    refine ⟨[.int .i64 x], rfl, ?_⟩
    replace hS := (hS.sel 2 [1, 0] rfl)
    exact ⟨by unfold AM.cntD AM.cntOf; rw [if_pos (by simpa using hc), hx]; rfl, hS⟩
end Go.Proofs.YtbeacjcmdijdmaaGreat
/-! ## D3 -/
namespace Go.Proofs.YtbeacjcmdijdmaaGreat
open Go Go.V
theorem dmp_nd {A : AM} (h : AWf A) {k : Nat} (hk : (k : Int) < A.s.cap) : ∃ nd, A.nodes[k + 1]? = some nd ∧ (A.dmpAt ((k : Int) + 1)).nd = nd := by
  have hn := h.nl
  have hc : A.s.cap = (A.s.used.length : Int) - 1 := rfl
  have h1 : A.nodes[k + 1]? = some (A.nodes[k + 1]'(by omega)) := List.getElem?_eq_getElem (by omega)
  refine ⟨_, h1, ?_⟩
  show (A.nodes[((k : Int) + 1).toNat]?).getD Nd.zero = _
  rw [show ((k : Int) + 1).toNat = k + 1 by omega, h1]; rfl
theorem dmp_zero (A : AM) : List.replicate A.s.cap.toNat [.bool false, .int .i64 0, .int .u32 0, .int .i64 0, .int .i64 0, .int .u32 0, .int .u32 0, .int .i64 0, .int .i64 0, .int .i64 0, .int .i64 0] = sls (A.dmpK 0) := A.dmpK_0.symm
theorem dmp_st {A : AM} {k : Nat} {nd : Nd} (h : (A.dmpAt ((k : Int) + 1)).nd = nd) : (sls (A.dmpK k)).set k [.bool (A.s.ok ((k : Int) + 1)), .int .i64 (A.cntD ((k : Int) + 1)), .int .u32 (A.s.genOf ((k : Int) + 1)), .int .i64 nd.key, .int .i64 nd.val, .int .u32 nd.lf, .int .u32 nd.rg, .int .i64 nd.size, .int .i64 nd.sum, .int .i64 nd.mn, .int .i64 nd.mx] = sls (A.dmpK (k + 1)) := by
  subst h
  exact (sls_set (A.dmpK k) k (A.dmpAt ((k : Int) + 1))).trans (congrArg sls A.dmpK_set)
set_option maxHeartbeats 2000000 in
set_option maxRecDepth 8192 in
theorem ar_dump {g w : World} {L : List HP} (a : Nat) (A : AM) (hA : AWf A) (hS : St g (Arn a A :: L) w) :
    Sp Tryz.prog 20 [.pointer (some ⟨a, 0, none⟩)] w (fun v w' => ∃ (a2 : Option Addr) (c2 : Nat) (a4 : Option Addr) (c4 : Nat), v = .agg #[.slice a2 (List.length (sls (AM.dmp A))) c2, .slice a4 (List.length (u32s (SM.order A.s))) c4] ∧ St g (Own 174 11 (sls (AM.dmp A)) a2 c2 :: Own 64 1 (u32s (SM.order A.s)) a4 c4 :: Arn a A :: L) w') := by
  refine Sp.enter Tryz.func20 rfl (by kernel_rfl) (by kernel_rfl) ?_
  refine WC.seq <| WC.region ?_
  obtain ⟨⟨xp, xna, xnc, xca, xcc, xrd⟩, hS⟩ := St.exOpen (f := arnF a A) hS
  replace hS : St g (cel a #[.pointer (some ⟨xp, 0, none⟩), .slice xna (List.length (nds A.nodes)) xnc, .slice xca (List.length (i64s A.cnt)) xcc, .int .u64 xrd] 161 :: Slt xp A.s :: Own 172 8 (nds A.nodes) xna xnc :: Own 3 1 (i64s A.cnt) xca xcc :: L) w := hS
  have hs := hA.s; have hle := hA.s.le; have hcp : A.s.cap = (A.s.used.length : Int) - 1 := rfl; have hce := hA.s.cap
  refine WL.new rfl rfl zv_62 hS (fun b1 w hS => ?_)
  refine WL.nil <| WC.seq <| WC.cut [0, 2, 3] (fun vs w => ∃ (b : Nat) (ua : Option Addr) (ub : Option Addr) (ud : Nat), vs = [.pointer (some ⟨a, 0, none⟩), .pointer (some ⟨b1, 0, none⟩), .pointer (some ⟨b, 0, none⟩)] ∧ St g (cel b #[.slice ua A.s.cap.toNat A.s.cap.toNat, .slice ub (List.length (u32s (SM.order A.s))) ud] 62 :: Own 174 11 (List.replicate A.s.cap.toNat [.bool false, .int .i64 0, .int .u32 0, .int .i64 0, .int .i64 0, .int .u32 0, .int .u32 0, .int .i64 0, .int .i64 0, .int .i64 0, .int .i64 0]) ua A.s.cap.toNat :: Own 64 1 (u32s (SM.order A.s)) ub ud :: cel b1 #[.slice none 0 0, .slice none 0 0] 62 :: cel a #[.pointer (some ⟨xp, 0, none⟩), .slice xna (List.length (nds A.nodes)) xnc, .slice xca (List.length (i64s A.cnt)) xcc, .int .u64 xrd] 161 :: Slt xp A.s :: Own 172 8 (nds A.nodes) xna xnc :: Own 3 1 (i64s A.cnt) xca xcc :: L) w) ?_ ?_
  · refine WC.tree (.two [0, 3, 4, 5, 6] 1 [3, 4, 5, 6] (.three [] 2 [3, 4, 5, 6] (.two [] 7 [] (.one [8] 9 [0, 3, 4, 5, 6, 8] (.one [] 10 [] .nil)) 9 [0, 3, 4, 5, 6] (.one [] 7 [] (.one [8] 10 [] .nil))) 7 [] (.two [] 2 [3, 4, 5, 6] (.one [8] 9 [0, 3, 4, 5, 6, 8] (.one [] 10 [] .nil)) 9 [0, 3, 4, 5, 6] (.one [] 2 [3, 4, 5, 6] (.one [8] 10 [] .nil))) 9 [0, 3, 4, 5, 6] (.two [] 2 [3, 4, 5, 6] (.one [] 7 [] (.one [8] 10 [] .nil)) 7 [] (.one [] 2 [3, 4, 5, 6] (.one [8] 10 [] .nil)))) 9 [0, 3, 4, 5, 6] (.one [] 1 [3, 4, 5, 6] (.two [] 2 [3, 4, 5, 6] (.one [] 7 [] (.one [8] 10 [] .nil)) 7 [] (.one [] 2 [3, 4, 5, 6] (.one [8] 10 [] .nil))))) (by kernel_rfl) (by kernel_rfl) ?_
    refine WQ.run 5 [.pointer (some ⟨xp, 0, none⟩)] rfl (by exact hS.ld 1 rfl rfl) ?_
    refine WQ.nil ?_
    intro m1
    replace hS := hS.drewN m1; generalize hwm1 : World.drewN _ _ = w at *; clear hwm1
    refine ⟨?_, ?_⟩
    · refine WL.call rfl rfl (ar_cap_o (a := a) (p := xp) (A := A) (na := xna) (nc := xnc) (ca := xca) (cc := xcc) (rd := xrd) (hA := hA) (hS := (hS.sel 5 [1, 1, 1, 1, 0] rfl))) rfl ?_
      clear hS; rintro _ w ⟨rfl, hS⟩
      replace hS := hS.n5 L (a4 := cel b1 #[.slice none 0 0, .slice none 0 0] 62) rfl
      refine WL.nil ?_
      refine ⟨by exact ⟨RQ.pure rfl rfl rfl rfl, RQ.pure rfl rfl rfl rfl, RQ.pure rfl rfl rfl rfl, RQ.load rfl rfl rfl rfl (hS.ld 0 rfl rfl)⟩, ?_⟩
      refine WQ.nil ?_
      intro m2
      replace hS := hS.drewN m2; generalize hwm2 : World.drewN _ _ = w at *; clear hwm2
      refine ⟨?_, ?_, ?_⟩
      · refine WL.make rfl rfl (v := A.s.cap) (v' := A.s.cap) (A.s.cap.toNat) (A.s.cap.toNat) el_60 hS rfl (by omega) rfl (by omega) (by omega) (Rm.of (by omega) (by decide)) (fun b2 w hS => ?_)
        replace hS := hS.n6 L (a0 := Own 174 11 (List.replicate A.s.cap.toNat [.bool false, .int .i64 0, .int .u32 0, .int .i64 0, .int .i64 0, .int .u32 0, .int .u32 0, .int .i64 0, .int .i64 0, .int .i64 0, .int .i64 0]) (some ⟨b2, 0, none⟩) A.s.cap.toNat) rfl
        refine WL.nil ?_
        refine ⟨by exact ⟨RQ.pure rfl rfl rfl rfl, RQ.pure rfl rfl rfl rfl, RQ.pure rfl rfl rfl rfl, RQ.load rfl rfl rfl rfl (hS.ld 1 rfl rfl)⟩, ?_⟩
        refine WQ.nil ?_
        intro m3
        replace hS := hS.drewN m3; generalize hwm3 : World.drewN _ _ = w at *; clear hwm3
        refine ⟨?_, ?_⟩
        · refine WL.call rfl rfl (sl_order (s := xp) (S := A.s) (hO := hs) (hS := (hS.sel 3 [2, 0, 0] rfl))) rfl ?_
          clear hS; rintro _ w ⟨a1, c1, rfl, hS⟩
          replace hS := hS.n7 L (a0 := Own 64 1 (u32s (SM.order A.s)) a1 c1) rfl
          refine WL.nil ?_
          refine ⟨by exact trivial, ?_⟩
          refine WQ.build rfl rfl (cs := [.slice (some ⟨b2, 0, none⟩) A.s.cap.toNat A.s.cap.toNat, .slice a1 (List.length (u32s (SM.order A.s))) c1]) zv_62 rfl rfl <| WQ.nil ?_
          intro m4
          replace hS := hS.drewN m4; generalize hwm4 : World.drewN _ _ = w at *; clear hwm4
          refine WL.new rfl rfl zv_62 hS (fun b3 w hS => ?_)
          refine WL.nil ?_
          refine ⟨by exact ⟨RQ.pure rfl rfl rfl rfl, RQ.pure rfl rfl rfl rfl, RQ.pure rfl rfl rfl rfl, RQ.pure rfl rfl rfl rfl, RQ.load rfl rfl rfl rfl (hS.ld 4 rfl rfl), RQ.build rfl rfl (cs := [.slice (some ⟨b2, 0, none⟩) A.s.cap.toNat A.s.cap.toNat, .slice a1 (List.length (u32s (SM.order A.s))) c1]) zv_62 rfl rfl rfl rfl⟩, ?_⟩
          refine WQ.nil ?_
          intro m5
          replace hS := hS.drewN m5; generalize hwm5 : World.drewN _ _ = w at *; clear hwm5
          refine WL.stF rfl rfl rfl 0 hS rfl rfl rfl rfl rfl ag_62 (fun w hS => ?_)
          replace hS := hS.n8 L (a0 := cel b3 #[.slice (some ⟨b2, 0, none⟩) A.s.cap.toNat A.s.cap.toNat, .slice a1 (List.length (u32s (SM.order A.s))) c1] 62) rfl
          refine WL.nil ?_
          refine ⟨by exact trivial, ?_⟩
          intro m6
          replace hS := hS.drewN m6; generalize hwm6 : World.drewN _ _ = w at *; clear hwm6
          exact ⟨b3, (some ⟨b2, 0, none⟩), a1, c1, rfl, (hS.sel 8 [0, 2, 0, 4, 1, 0, 0, 0] rfl)⟩
        · refine WL.new rfl rfl zv_62 hS (fun b3 w hS => ?_)
          refine WL.nil ?_
          refine ⟨by exact ⟨RQ.pure rfl rfl rfl rfl, RQ.pure rfl rfl rfl rfl, RQ.pure rfl rfl rfl rfl, RQ.pure rfl rfl rfl rfl, RQ.load rfl rfl rfl rfl (hS.ld 2 rfl rfl)⟩, ?_⟩
          refine WQ.nil ?_
          intro m4
          replace hS := hS.drewN m4; generalize hwm4 : World.drewN _ _ = w at *; clear hwm4
          refine WL.call rfl rfl (sl_order (s := xp) (S := A.s) (hO := hs) (hS := (hS.sel 4 [3, 0, 0, 0] rfl))) rfl ?_
          clear hS; rintro _ w ⟨a1, c1, rfl, hS⟩
          replace hS := hS.n8 L (a0 := Own 64 1 (u32s (SM.order A.s)) a1 c1) (a2 := cel b3 #[.slice none 0 0, .slice none 0 0] 62) rfl
          refine WL.nil ?_
          refine ⟨by exact trivial, ?_⟩
          refine WQ.build rfl rfl (cs := [.slice (some ⟨b2, 0, none⟩) A.s.cap.toNat A.s.cap.toNat, .slice a1 (List.length (u32s (SM.order A.s))) c1]) zv_62 rfl rfl <| WQ.nil ?_
          intro m5
          replace hS := hS.drewN m5; generalize hwm5 : World.drewN _ _ = w at *; clear hwm5
          refine WL.stF rfl rfl rfl 2 hS rfl rfl rfl rfl rfl ag_62 (fun w hS => ?_)
          replace hS := hS.n8 L (a2 := cel b3 #[.slice (some ⟨b2, 0, none⟩) A.s.cap.toNat A.s.cap.toNat, .slice a1 (List.length (u32s (SM.order A.s))) c1] 62) rfl
          refine WL.nil ?_
          refine ⟨by exact trivial, ?_⟩
          intro m6
          replace hS := hS.drewN m6; generalize hwm6 : World.drewN _ _ = w at *; clear hwm6
          exact ⟨b3, (some ⟨b2, 0, none⟩), a1, c1, rfl, (hS.sel 8 [2, 2, 0, 4, 1, 0, 0, 0] rfl)⟩
      · refine WL.call rfl rfl (sl_order (s := xp) (S := A.s) (hO := hs) (hS := (hS.sel 2 [1, 0] rfl))) rfl ?_
        clear hS; rintro _ w ⟨a1, c1, rfl, hS⟩
        replace hS := hS.n6 L (a0 := Own 64 1 (u32s (SM.order A.s)) a1 c1) rfl
        refine WL.nil ?_
        refine ⟨by exact trivial, ?_⟩
        refine WQ.nil ?_
        intro m3
        replace hS := hS.drewN m3; generalize hwm3 : World.drewN _ _ = w at *; clear hwm3
        refine ⟨?_, ?_⟩
        · refine WL.make rfl rfl (v := A.s.cap) (v' := A.s.cap) (A.s.cap.toNat) (A.s.cap.toNat) el_60 hS rfl (by omega) rfl (by omega) (by omega) (Rm.of (by omega) (by decide)) (fun b2 w hS => ?_)
          replace hS := hS.n7 L (a0 := Own 174 11 (List.replicate A.s.cap.toNat [.bool false, .int .i64 0, .int .u32 0, .int .i64 0, .int .i64 0, .int .u32 0, .int .u32 0, .int .i64 0, .int .i64 0, .int .i64 0, .int .i64 0]) (some ⟨b2, 0, none⟩) A.s.cap.toNat) rfl
          refine WL.nil ?_
          refine ⟨by exact ⟨RQ.pure rfl rfl rfl rfl, RQ.pure rfl rfl rfl rfl, RQ.pure rfl rfl rfl rfl, RQ.load rfl rfl rfl rfl (hS.ld 3 rfl rfl)⟩, ?_⟩
          refine WQ.build rfl rfl (cs := [.slice (some ⟨b2, 0, none⟩) A.s.cap.toNat A.s.cap.toNat, .slice a1 (List.length (u32s (SM.order A.s))) c1]) zv_62 rfl rfl <| WQ.nil ?_
          intro m4
          replace hS := hS.drewN m4; generalize hwm4 : World.drewN _ _ = w at *; clear hwm4
          refine WL.new rfl rfl zv_62 hS (fun b3 w hS => ?_)
          refine WL.nil ?_
          refine ⟨by exact ⟨RQ.pure rfl rfl rfl rfl, RQ.pure rfl rfl rfl rfl, RQ.pure rfl rfl rfl rfl, RQ.pure rfl rfl rfl rfl, RQ.load rfl rfl rfl rfl (hS.ld 4 rfl rfl), RQ.build rfl rfl (cs := [.slice (some ⟨b2, 0, none⟩) A.s.cap.toNat A.s.cap.toNat, .slice a1 (List.length (u32s (SM.order A.s))) c1]) zv_62 rfl rfl rfl rfl⟩, ?_⟩
          refine WQ.nil ?_
          intro m5
          replace hS := hS.drewN m5; generalize hwm5 : World.drewN _ _ = w at *; clear hwm5
          refine WL.stF rfl rfl rfl 0 hS rfl rfl rfl rfl rfl ag_62 (fun w hS => ?_)
          replace hS := hS.n8 L (a0 := cel b3 #[.slice (some ⟨b2, 0, none⟩) A.s.cap.toNat A.s.cap.toNat, .slice a1 (List.length (u32s (SM.order A.s))) c1] 62) rfl
          refine WL.nil ?_
          refine ⟨by exact trivial, ?_⟩
          intro m6
          replace hS := hS.drewN m6; generalize hwm6 : World.drewN _ _ = w at *; clear hwm6
          exact ⟨b3, (some ⟨b2, 0, none⟩), a1, c1, rfl, (hS.sel 8 [0, 0, 0, 4, 1, 0, 0, 0] rfl)⟩
        · refine WL.new rfl rfl zv_62 hS (fun b2 w hS => ?_)
          refine WL.nil ?_
          refine ⟨by exact ⟨RQ.pure rfl rfl rfl rfl, RQ.pure rfl rfl rfl rfl, RQ.pure rfl rfl rfl rfl, RQ.pure rfl rfl rfl rfl, RQ.load rfl rfl rfl rfl (hS.ld 3 rfl rfl)⟩, ?_⟩
          refine WQ.nil ?_
          intro m4
          replace hS := hS.drewN m4; generalize hwm4 : World.drewN _ _ = w at *; clear hwm4
          refine WL.make rfl rfl (v := A.s.cap) (v' := A.s.cap) (A.s.cap.toNat) (A.s.cap.toNat) el_60 hS rfl (by omega) rfl (by omega) (by omega) (Rm.of (by omega) (by decide)) (fun b3 w hS => ?_)
          replace hS := hS.n8 L (a0 := Own 174 11 (List.replicate A.s.cap.toNat [.bool false, .int .i64 0, .int .u32 0, .int .i64 0, .int .i64 0, .int .u32 0, .int .u32 0, .int .i64 0, .int .i64 0, .int .i64 0, .int .i64 0]) (some ⟨b3, 0, none⟩) A.s.cap.toNat) (a1 := cel b2 #[.slice none 0 0, .slice none 0 0] 62) rfl
          refine WL.nil ?_
          refine ⟨by exact ⟨RQ.pure rfl rfl rfl rfl, RQ.pure rfl rfl rfl rfl, RQ.pure rfl rfl rfl rfl, RQ.load rfl rfl rfl rfl (hS.ld 4 rfl rfl)⟩, ?_⟩
          refine WQ.build rfl rfl (cs := [.slice (some ⟨b3, 0, none⟩) A.s.cap.toNat A.s.cap.toNat, .slice a1 (List.length (u32s (SM.order A.s))) c1]) zv_62 rfl rfl <| WQ.nil ?_
          intro m5
          replace hS := hS.drewN m5; generalize hwm5 : World.drewN _ _ = w at *; clear hwm5
          refine WL.stF rfl rfl rfl 1 hS rfl rfl rfl rfl rfl ag_62 (fun w hS => ?_)
          replace hS := hS.n8 L (a1 := cel b2 #[.slice (some ⟨b3, 0, none⟩) A.s.cap.toNat A.s.cap.toNat, .slice a1 (List.length (u32s (SM.order A.s))) c1] 62) rfl
          refine WL.nil ?_
          refine ⟨by exact trivial, ?_⟩
          intro m6
          replace hS := hS.drewN m6; generalize hwm6 : World.drewN _ _ = w at *; clear hwm6
          exact ⟨b2, (some ⟨b3, 0, none⟩), a1, c1, rfl, (hS.sel 8 [1, 0, 0, 4, 1, 0, 0, 0] rfl)⟩
      · refine WL.new rfl rfl zv_62 hS (fun b2 w hS => ?_)
        refine WL.nil ?_
        refine ⟨by exact ⟨RQ.pure rfl rfl rfl rfl, RQ.pure rfl rfl rfl rfl, RQ.pure rfl rfl rfl rfl, RQ.pure rfl rfl rfl rfl, RQ.load rfl rfl rfl rfl (hS.ld 1 rfl rfl)⟩, ?_⟩
        refine WQ.nil ?_
        intro m3
        replace hS := hS.drewN m3; generalize hwm3 : World.drewN _ _ = w at *; clear hwm3
        refine ⟨?_, ?_⟩
        · refine WL.make rfl rfl (v := A.s.cap) (v' := A.s.cap) (A.s.cap.toNat) (A.s.cap.toNat) el_60 hS rfl (by omega) rfl (by omega) (by omega) (Rm.of (by omega) (by decide)) (fun b3 w hS => ?_)
          replace hS := hS.n7 L (a0 := Own 174 11 (List.replicate A.s.cap.toNat [.bool false, .int .i64 0, .int .u32 0, .int .i64 0, .int .i64 0, .int .u32 0, .int .u32 0, .int .i64 0, .int .i64 0, .int .i64 0, .int .i64 0]) (some ⟨b3, 0, none⟩) A.s.cap.toNat) (a1 := cel b2 #[.slice none 0 0, .slice none 0 0] 62) rfl
          refine WL.nil ?_
          refine ⟨by exact ⟨RQ.pure rfl rfl rfl rfl, RQ.pure rfl rfl rfl rfl, RQ.pure rfl rfl rfl rfl, RQ.load rfl rfl rfl rfl (hS.ld 2 rfl rfl)⟩, ?_⟩
          refine WQ.nil ?_
          intro m4
          replace hS := hS.drewN m4; generalize hwm4 : World.drewN _ _ = w at *; clear hwm4
          refine WL.call rfl rfl (sl_order (s := xp) (S := A.s) (hO := hs) (hS := (hS.sel 4 [3, 0, 0, 0] rfl))) rfl ?_
          clear hS; rintro _ w ⟨a1, c1, rfl, hS⟩
          replace hS := hS.n8 L (a0 := Own 64 1 (u32s (SM.order A.s)) a1 c1) rfl
          refine WL.nil ?_
          refine ⟨by exact trivial, ?_⟩
          refine WQ.build rfl rfl (cs := [.slice (some ⟨b3, 0, none⟩) A.s.cap.toNat A.s.cap.toNat, .slice a1 (List.length (u32s (SM.order A.s))) c1]) zv_62 rfl rfl <| WQ.nil ?_
          intro m5
          replace hS := hS.drewN m5; generalize hwm5 : World.drewN _ _ = w at *; clear hwm5
          refine WL.stF rfl rfl rfl 3 hS rfl rfl rfl rfl rfl ag_62 (fun w hS => ?_)
          replace hS := hS.n8 L (a3 := cel b2 #[.slice (some ⟨b3, 0, none⟩) A.s.cap.toNat A.s.cap.toNat, .slice a1 (List.length (u32s (SM.order A.s))) c1] 62) rfl
          refine WL.nil ?_
          refine ⟨by exact trivial, ?_⟩
          intro m6
          replace hS := hS.drewN m6; generalize hwm6 : World.drewN _ _ = w at *; clear hwm6
          exact ⟨b2, (some ⟨b3, 0, none⟩), a1, c1, rfl, (hS.sel 8 [3, 2, 0, 4, 1, 0, 0, 0] rfl)⟩
        · refine WL.call rfl rfl (sl_order (s := xp) (S := A.s) (hO := hs) (hS := (hS.sel 3 [2, 0, 0] rfl))) rfl ?_
          clear hS; rintro _ w ⟨a1, c1, rfl, hS⟩
          replace hS := hS.n7 L (a0 := Own 64 1 (u32s (SM.order A.s)) a1 c1) (a2 := cel b2 #[.slice none 0 0, .slice none 0 0] 62) rfl
          refine WL.nil ?_
          refine ⟨by exact trivial, ?_⟩
          refine WQ.nil ?_
          intro m4
          replace hS := hS.drewN m4; generalize hwm4 : World.drewN _ _ = w at *; clear hwm4
          refine WL.make rfl rfl (v := A.s.cap) (v' := A.s.cap) (A.s.cap.toNat) (A.s.cap.toNat) el_60 hS rfl (by omega) rfl (by omega) (by omega) (Rm.of (by omega) (by decide)) (fun b3 w hS => ?_)
          replace hS := hS.n8 L (a0 := Own 174 11 (List.replicate A.s.cap.toNat [.bool false, .int .i64 0, .int .u32 0, .int .i64 0, .int .i64 0, .int .u32 0, .int .u32 0, .int .i64 0, .int .i64 0, .int .i64 0, .int .i64 0]) (some ⟨b3, 0, none⟩) A.s.cap.toNat) rfl
          refine WL.nil ?_
          refine ⟨by exact ⟨RQ.pure rfl rfl rfl rfl, RQ.pure rfl rfl rfl rfl, RQ.pure rfl rfl rfl rfl, RQ.load rfl rfl rfl rfl (hS.ld 4 rfl rfl)⟩, ?_⟩
          refine WQ.build rfl rfl (cs := [.slice (some ⟨b3, 0, none⟩) A.s.cap.toNat A.s.cap.toNat, .slice a1 (List.length (u32s (SM.order A.s))) c1]) zv_62 rfl rfl <| WQ.nil ?_
          intro m5
          replace hS := hS.drewN m5; generalize hwm5 : World.drewN _ _ = w at *; clear hwm5
          refine WL.stF rfl rfl rfl 3 hS rfl rfl rfl rfl rfl ag_62 (fun w hS => ?_)
          replace hS := hS.n8 L (a3 := cel b2 #[.slice (some ⟨b3, 0, none⟩) A.s.cap.toNat A.s.cap.toNat, .slice a1 (List.length (u32s (SM.order A.s))) c1] 62) rfl
          refine WL.nil ?_
          refine ⟨by exact trivial, ?_⟩
          intro m6
          replace hS := hS.drewN m6; generalize hwm6 : World.drewN _ _ = w at *; clear hwm6
          exact ⟨b2, (some ⟨b3, 0, none⟩), a1, c1, rfl, (hS.sel 8 [3, 0, 0, 4, 1, 0, 0, 0] rfl)⟩
    · refine WL.new rfl rfl zv_62 hS (fun b2 w hS => ?_)
      refine WL.nil ?_
      refine ⟨by exact ⟨RQ.pure rfl rfl rfl rfl, RQ.pure rfl rfl rfl rfl, RQ.pure rfl rfl rfl rfl, RQ.pure rfl rfl rfl rfl, RQ.load rfl rfl rfl rfl (hS.ld 2 rfl rfl)⟩, ?_⟩
      refine WQ.nil ?_
      intro m2
      replace hS := hS.drewN m2; generalize hwm2 : World.drewN _ _ = w at *; clear hwm2
      refine WL.call rfl rfl (ar_cap_o (a := a) (p := xp) (A := A) (na := xna) (nc := xnc) (ca := xca) (cc := xcc) (rd := xrd) (hA := hA) (hS := (hS.sel 6 [2, 2, 2, 2, 0, 0] rfl))) rfl ?_
      clear hS; rintro _ w ⟨rfl, hS⟩
      replace hS := hS.n6 L (a4 := cel b2 #[.slice none 0 0, .slice none 0 0] 62) (a5 := cel b1 #[.slice none 0 0, .slice none 0 0] 62) rfl
      refine WL.nil ?_
      refine ⟨by exact ⟨RQ.pure rfl rfl rfl rfl, RQ.pure rfl rfl rfl rfl, RQ.pure rfl rfl rfl rfl, RQ.load rfl rfl rfl rfl (hS.ld 0 rfl rfl)⟩, ?_⟩
      refine WQ.nil ?_
      intro m3
      replace hS := hS.drewN m3; generalize hwm3 : World.drewN _ _ = w at *; clear hwm3
      refine ⟨?_, ?_⟩
      · refine WL.make rfl rfl (v := A.s.cap) (v' := A.s.cap) (A.s.cap.toNat) (A.s.cap.toNat) el_60 hS rfl (by omega) rfl (by omega) (by omega) (Rm.of (by omega) (by decide)) (fun b3 w hS => ?_)
        replace hS := hS.n7 L (a0 := Own 174 11 (List.replicate A.s.cap.toNat [.bool false, .int .i64 0, .int .u32 0, .int .i64 0, .int .i64 0, .int .u32 0, .int .u32 0, .int .i64 0, .int .i64 0, .int .i64 0, .int .i64 0]) (some ⟨b3, 0, none⟩) A.s.cap.toNat) rfl
        refine WL.nil ?_
        refine ⟨by exact ⟨RQ.pure rfl rfl rfl rfl, RQ.pure rfl rfl rfl rfl, RQ.pure rfl rfl rfl rfl, RQ.load rfl rfl rfl rfl (hS.ld 1 rfl rfl)⟩, ?_⟩
        refine WQ.nil ?_
        intro m4
        replace hS := hS.drewN m4; generalize hwm4 : World.drewN _ _ = w at *; clear hwm4
        refine WL.call rfl rfl (sl_order (s := xp) (S := A.s) (hO := hs) (hS := (hS.sel 3 [2, 0, 0] rfl))) rfl ?_
        clear hS; rintro _ w ⟨a1, c1, rfl, hS⟩
        replace hS := hS.n8 L (a0 := Own 64 1 (u32s (SM.order A.s)) a1 c1) rfl
        refine WL.nil ?_
        refine ⟨by exact trivial, ?_⟩
        refine WQ.build rfl rfl (cs := [.slice (some ⟨b3, 0, none⟩) A.s.cap.toNat A.s.cap.toNat, .slice a1 (List.length (u32s (SM.order A.s))) c1]) zv_62 rfl rfl <| WQ.nil ?_
        intro m5
        replace hS := hS.drewN m5; generalize hwm5 : World.drewN _ _ = w at *; clear hwm5
        refine WL.stF rfl rfl rfl 6 hS rfl rfl rfl rfl rfl ag_62 (fun w hS => ?_)
        replace hS := hS.n8 L (a6 := cel b2 #[.slice (some ⟨b3, 0, none⟩) A.s.cap.toNat A.s.cap.toNat, .slice a1 (List.length (u32s (SM.order A.s))) c1] 62) rfl
        refine WL.nil ?_
        refine ⟨by exact trivial, ?_⟩
        intro m6
        replace hS := hS.drewN m6; generalize hwm6 : World.drewN _ _ = w at *; clear hwm6
        exact ⟨b2, (some ⟨b3, 0, none⟩), a1, c1, rfl, (hS.sel 8 [6, 2, 0, 4, 1, 0, 0, 0] rfl)⟩
      · refine WL.call rfl rfl (sl_order (s := xp) (S := A.s) (hO := hs) (hS := (hS.sel 2 [1, 0] rfl))) rfl ?_
        clear hS; rintro _ w ⟨a1, c1, rfl, hS⟩
        replace hS := hS.n7 L (a0 := Own 64 1 (u32s (SM.order A.s)) a1 c1) rfl
        refine WL.nil ?_
        refine ⟨by exact trivial, ?_⟩
        refine WQ.nil ?_
        intro m4
        replace hS := hS.drewN m4; generalize hwm4 : World.drewN _ _ = w at *; clear hwm4
        refine WL.make rfl rfl (v := A.s.cap) (v' := A.s.cap) (A.s.cap.toNat) (A.s.cap.toNat) el_60 hS rfl (by omega) rfl (by omega) (by omega) (Rm.of (by omega) (by decide)) (fun b3 w hS => ?_)
        replace hS := hS.n8 L (a0 := Own 174 11 (List.replicate A.s.cap.toNat [.bool false, .int .i64 0, .int .u32 0, .int .i64 0, .int .i64 0, .int .u32 0, .int .u32 0, .int .i64 0, .int .i64 0, .int .i64 0, .int .i64 0]) (some ⟨b3, 0, none⟩) A.s.cap.toNat) rfl
        refine WL.nil ?_
        refine ⟨by exact ⟨RQ.pure rfl rfl rfl rfl, RQ.pure rfl rfl rfl rfl, RQ.pure rfl rfl rfl rfl, RQ.load rfl rfl rfl rfl (hS.ld 3 rfl rfl)⟩, ?_⟩
        refine WQ.build rfl rfl (cs := [.slice (some ⟨b3, 0, none⟩) A.s.cap.toNat A.s.cap.toNat, .slice a1 (List.length (u32s (SM.order A.s))) c1]) zv_62 rfl rfl <| WQ.nil ?_
        intro m5
        replace hS := hS.drewN m5; generalize hwm5 : World.drewN _ _ = w at *; clear hwm5
        refine WL.stF rfl rfl rfl 6 hS rfl rfl rfl rfl rfl ag_62 (fun w hS => ?_)
        replace hS := hS.n8 L (a6 := cel b2 #[.slice (some ⟨b3, 0, none⟩) A.s.cap.toNat A.s.cap.toNat, .slice a1 (List.length (u32s (SM.order A.s))) c1] 62) rfl
        refine WL.nil ?_
        refine ⟨by exact trivial, ?_⟩
        intro m6
        replace hS := hS.drewN m6; generalize hwm6 : World.drewN _ _ = w at *; clear hwm6
        exact ⟨b2, (some ⟨b3, 0, none⟩), a1, c1, rfl, (hS.sel 8 [6, 0, 0, 4, 1, 0, 0, 0] rfl)⟩
  clear hS; rintro _ w j ⟨b, ua, ub, ud, rfl, hS⟩
  refine WC.seq <| WC.seq <| WC.region ?_
  rw [dmp_zero] at hS
  refine WL.run 4 [.slice ua A.s.cap.toNat A.s.cap.toNat] rfl (by exact hS.ld 0 rfl rfl) ?_
  refine WL.nil <| WC.block <| WC.loop [0, 2, 3, 17, 18] (fun kM vs w => ∃ (k : Nat), vs = [.pointer (some ⟨a, 0, none⟩), .pointer (some ⟨b1, 0, none⟩), .pointer (some ⟨b, 0, none⟩), .int .i64 (A.s.cap.toNat : Int), .int .i64 (k : Int)] ∧ St g (cel b #[.slice ua A.s.cap.toNat A.s.cap.toNat, .slice ub (List.length (u32s (SM.order A.s))) ud] 62 :: Own 174 11 (sls (AM.dmpK A k)) ua A.s.cap.toNat :: Own 64 1 (u32s (SM.order A.s)) ub ud :: cel b1 #[.slice none 0 0, .slice none 0 0] 62 :: cel a #[.pointer (some ⟨xp, 0, none⟩), .slice xna (List.length (nds A.nodes)) xnc, .slice xca (List.length (i64s A.cnt)) xcc, .int .u64 xrd] 161 :: Slt xp A.s :: Own 172 8 (nds A.nodes) xna xnc :: Own 3 1 (i64s A.cnt) xca xcc :: L) w ∧ (k ≤ A.s.cap.toNat) ∧ (A.s.cap.toNat - k) = kM) (A.s.cap.toNat - 0) ⟨0, rfl, hS, (Nat.zero_le _), rfl⟩ ?_
  clear hS; rintro _ _ w j ⟨k, rfl, hS, hk, rfl⟩
  refine WC.seq <| WC.region <| WL.r 1 rfl <| WL.nil <| WC.seq <| WC.ifP rfl (fun cd1 => ?_) (fun cd1 => ?_)
  · refine WC.skip ?_
    as_aux_lemma =>
    refine WC.seq <| WC.block <| WC.seq <| WC.region <| WL.r 2 rfl <| WL.nil <| WC.seq <| WC.region ?_
    obtain ⟨nd, hnd, hne⟩ := dmp_nd hA (k := k) (by omega); have hnl := nds_len A.nodes; have hnn := hA.nl; have hkl := AM.dmpK_len A k; have hsl := sls_len (AM.dmpK A k); obtain ⟨z, hz⟩ : ∃ z, (AM.dmpK A k)[k]? = some z := ⟨_, List.getElem?_eq_getElem (by omega)⟩
    refine WL.r 2 rfl <| WL.nw 22 rfl (w64 (by omega)) ?_
    refine WL.r 1 rfl <| WL.nw 23 rfl (wu32 (by omega)) ?_
    refine WL.r 1 rfl <| WL.nil <| WC.plan [([0, 2, 3, 7, 9, 10, 12, 13, 15, 19, 1, 4, 16, 5, 17, 6, 18, 20, 21], some (8, [0, 1, 2, 9, 10, 12, 13, 15, 16, 17, 18, 19, 20, 21])), ([], some (11, [0, 1, 2, 12, 13, 15, 16, 17, 18, 19, 20, 21])), ([], some (14, [0, 1, 2, 15, 16, 17, 18, 19, 20, 21])), ([22, 23], some (24, []))] (by kernel_rfl) (by kernel_rfl) ?_
    refine WQ.run 17 [.slice ua A.s.cap.toNat A.s.cap.toNat, .pointer (some ⟨xp, 0, none⟩), .slice xna (List.length (nds A.nodes)) xnc] rfl (by exact ⟨hS.ld 0 rfl rfl, hS.ld 4 rfl rfl, hS.ld 4 rfl rfl⟩) ?_
    refine WQ.ix rfl rfl (i := (k : Int) + 1) (k + 1) el_159 rfl rfl (by omega) (by omega) (hS.rdO 6 rfl (nds_at hnd)).1 ?_
    refine WQ.ldC rfl rfl [.int .i64 nd.key, .int .i64 nd.val, .int .u32 nd.lf, .int .u32 nd.rg, .int .i64 nd.size, .int .i64 nd.sum, .int .i64 nd.mn, .int .i64 nd.mx] ag_172 rfl (hS.rdO 6 rfl (nds_at hnd)).2 <| WQ.nil ?_
    intro m1
    replace hS := hS.drewN m1; generalize hwm1 : World.drewN _ _ = w at *; clear hwm1
    refine WL.call rfl rfl (sl_ok (s := xp) (S := A.s) (i := (k : Int) + 1) (hl := hle) (hi := (by omega)) (hS := (hS.sel 6 [5, 0, 0, 0, 0, 0] rfl))) rfl ?_
    clear hS; rintro _ w ⟨rfl, hS⟩
    replace hS := hS.n8 L rfl
    refine WL.nil ?_
    refine ⟨by exact ⟨RQ.pure rfl rfl rfl rfl, RQ.load rfl rfl rfl rfl (hS.ld 1 rfl rfl), RQ.pure rfl rfl rfl rfl, RQ.pure rfl rfl rfl rfl, RQ.pure rfl rfl rfl rfl, RQ.pure rfl rfl rfl rfl, RQ.pure rfl rfl rfl rfl, RQ.pure rfl rfl rfl rfl, RQ.pure rfl rfl rfl rfl, RQ.pure rfl rfl rfl rfl, RQ.load rfl rfl rfl rfl (hS.ld 5 rfl rfl), RQ.pure rfl rfl rfl rfl, RQ.ix rfl rfl (i := (k : Int) + 1) (k + 1) el_159 rfl rfl (by omega) (by omega) (hS.rdO 6 rfl (nds_at hnd)).1 rfl rfl, RQ.ldC rfl rfl [.int .i64 nd.key, .int .i64 nd.val, .int .u32 nd.lf, .int .u32 nd.rg, .int .i64 nd.size, .int .i64 nd.sum, .int .i64 nd.mn, .int .i64 nd.mx] ag_172 rfl (hS.rdO 6 rfl (nds_at hnd)).2 rfl rfl⟩, ?_⟩
    refine WQ.nil ?_
    intro m2
    replace hS := hS.drewN m2; generalize hwm2 : World.drewN _ _ = w at *; clear hwm2
    refine WL.call rfl rfl (ar_count_o (a := a) (p := xp) (A := A) (na := xna) (nc := xnc) (ca := xca) (cc := xcc) (rd := xrd) (i := (k : Int) + 1) (hA := hA) (hi := (by omega)) (hS := (hS.sel 8 [5, 0, 4, 4, 0, 0, 0, 0] rfl))) rfl ?_
    clear hS; rintro _ w ⟨rfl, hS⟩
    replace hS := hS.n8 L rfl
    refine WL.nil ?_
    refine ⟨by exact ⟨RQ.pure rfl rfl rfl rfl, RQ.load rfl rfl rfl rfl (hS.ld 4 rfl rfl), RQ.pure rfl rfl rfl rfl, RQ.pure rfl rfl rfl rfl, RQ.pure rfl rfl rfl rfl, RQ.pure rfl rfl rfl rfl, RQ.pure rfl rfl rfl rfl, RQ.pure rfl rfl rfl rfl, RQ.load rfl rfl rfl rfl (hS.ld 0 rfl rfl), RQ.pure rfl rfl rfl rfl, RQ.ix rfl rfl (i := (k : Int) + 1) (k + 1) el_159 rfl rfl (by omega) (by omega) (hS.rdO 2 rfl (nds_at hnd)).1 rfl rfl, RQ.ldC rfl rfl [.int .i64 nd.key, .int .i64 nd.val, .int .u32 nd.lf, .int .u32 nd.rg, .int .i64 nd.size, .int .i64 nd.sum, .int .i64 nd.mn, .int .i64 nd.mx] ag_172 rfl (hS.rdO 2 rfl (nds_at hnd)).2 rfl rfl⟩, ?_⟩
    refine WQ.nil ?_
    intro m3
    replace hS := hS.drewN m3; generalize hwm3 : World.drewN _ _ = w at *; clear hwm3
    refine WL.call rfl rfl (ar_gen_o (a := a) (p := xp) (A := A) (na := xna) (nc := xnc) (ca := xca) (cc := xcc) (rd := xrd) (i := (k : Int) + 1) (hA := hA) (hi := (by omega)) (hS := hS)) rfl ?_
    clear hS; rintro _ w ⟨rfl, hS⟩
    replace hS := hS.n8 L rfl
    refine WL.nil ?_
    refine ⟨by exact ⟨RQ.pure rfl rfl rfl rfl, RQ.load rfl rfl rfl rfl (hS.ld 4 rfl rfl), RQ.pure rfl rfl rfl rfl, RQ.pure rfl rfl rfl rfl, RQ.pure rfl rfl rfl rfl, RQ.pure rfl rfl rfl rfl, RQ.load rfl rfl rfl rfl (hS.ld 0 rfl rfl), RQ.pure rfl rfl rfl rfl, RQ.ix rfl rfl (i := (k : Int) + 1) (k + 1) el_159 rfl rfl (by omega) (by omega) (hS.rdO 2 rfl (nds_at hnd)).1 rfl rfl, RQ.ldC rfl rfl [.int .i64 nd.key, .int .i64 nd.val, .int .u32 nd.lf, .int .u32 nd.rg, .int .i64 nd.size, .int .i64 nd.sum, .int .i64 nd.mn, .int .i64 nd.mx] ag_172 rfl (hS.rdO 2 rfl (nds_at hnd)).2 rfl rfl⟩, ?_⟩
    refine WQ.build rfl rfl (cs := [.bool (A.s.ok ((k : Int) + 1)), .int .i64 (AM.cntD A ((k : Int) + 1)), .int .u32 (A.s.genOf ((k : Int) + 1)), .int .i64 nd.key, .int .i64 nd.val, .int .u32 nd.lf, .int .u32 nd.rg, .int .i64 nd.size, .int .i64 nd.sum, .int .i64 nd.mn, .int .i64 nd.mx]) zv_174 rfl rfl <| WQ.ix rfl rfl (i := (k : Int)) (k) el_60 rfl rfl (by omega) (by omega) (hS.rdO 5 rfl (sls_at hz)).1 ?_
    refine WQ.nil ?_
    intro m4
    replace hS := hS.drewN m4; generalize hwm4 : World.drewN _ _ = w at *; clear hwm4
    refine WL.stS rfl rfl rfl 5 (k) [.bool z.al, .int .i64 z.cn, .int .u32 z.ge, .int .i64 z.nd.key, .int .i64 z.nd.val, .int .u32 z.nd.lf, .int .u32 z.nd.rg, .int .i64 z.nd.size, .int .i64 z.nd.sum, .int .i64 z.nd.mn, .int .i64 z.nd.mx] (sls (AM.dmpK A (k + 1))) hS rfl (sls_at hz) rfl rfl rfl rfl ag_174 (dmp_st hne) (fun w hS => ?_)
    replace hS := hS.n8 L (a5 := Own 174 11 (sls (AM.dmpK A (k + 1))) ua A.s.cap.toNat) rfl
    refine WL.nil ?_
    refine ⟨by exact trivial, ?_⟩
    intro m5
    replace hS := hS.drewN m5; generalize hwm5 : World.drewN _ _ = w at *; clear hwm5
    as_aux_lemma =>
    refine WC.region <| WL.r 1 rfl <| WL.nw 48 rfl (w64 (by omega)) ?_
    refine WL.r 1 rfl <| WL.nil ?_
    exact ⟨_, by omega, k + 1, rfl, (hS.sel 8 [4, 4, 4, 4, 0, 0, 0, 0] rfl), (by omega), rfl⟩
  · refine WC.exit ?_
    as_aux_lemma =>
    refine WC.seq <| WC.region <| WL.ldF rfl rfl 0 hS rfl rfl ag_62 <| WL.stF rfl rfl rfl 3 hS rfl rfl rfl rfl rfl ag_62 (fun w hS => ?_)
    replace hS := hS.n8 L (a3 := cel b1 #[.slice ua A.s.cap.toNat A.s.cap.toNat, .slice ub (List.length (u32s (SM.order A.s))) ud] 62) rfl
    refine WL.nil <| WC.ret ?_
    replace hS := St.exClose (f := arnF a A) (L := cel b #[.slice ua A.s.cap.toNat A.s.cap.toNat, .slice ub (List.length (u32s (SM.order A.s))) ud] 62 :: Own 174 11 (sls (AM.dmpK A k)) ua A.s.cap.toNat :: Own 64 1 (u32s (SM.order A.s)) ub ud :: cel b1 #[.slice ua A.s.cap.toNat A.s.cap.toNat, .slice ub (List.length (u32s (SM.order A.s))) ud] 62 :: L) ⟨xp, xna, xnc, xca, xcc, xrd⟩ ((hS.sel 8 [4, 4, 4, 4, 0, 0, 0, 0] rfl))
    replace hS := hS.n5 L (a0 := Arn a A) rfl
    refine ⟨[.agg #[.slice ua A.s.cap.toNat A.s.cap.toNat, .slice ub (List.length (u32s (SM.order A.s))) ud]], ⟨⟨_, rfl, hS.lvF 4 rfl ag_62⟩, trivial⟩, ?_⟩
    replace hS := (hS.sel 5 [2, 2, 0] rfl)
    have hke : k = A.s.cap.toNat := (by omega); subst hke; rw [AM.dmpK_end] at hS; exact ⟨_, _, _, _, by rw [sls_len, AM.dmp_len]; rfl, hS⟩
end Go.Proofs.YtbeacjcmdijdmaaGreat
/-! ## Cl -/
namespace Go.V
open Go Go.RowKit
theorem AM.dmp_at {A : AM} {k : Nat} (h : k < A.s.cap.toNat) : A.dmp[k]? = some (A.dmpAt ((k : Int) + 1)) := by
  simp [AM.dmp, List.getElem?_map, List.getElem?_range h]
structure MkI (A : AM) (R : List Int) (bs : List Bool) (ws : List Int) : Prop where
  len : bs.length = A.s.cap.toNat
  root : ∀ r ∈ R, r ≠ 0 → A.s.ok r = true → bs[(r - 1).toNat]? = some true ∨ r ∈ ws
  kid : ∀ j : Int, 1 ≤ j → A.s.ok j = true → bs[(j - 1).toNat]? = some true → ∀ c, c = (A.nd j).lf ∨ c = (A.nd j).rg → c ≠ 0 → bs[(c - 1).toNat]? = some true ∨ c ∈ ws
  rng : ∀ x ∈ ws, 0 ≤ x ∧ x ≤ 4294967295
theorem MkI.skip {A : AM} {R ws : List Int} {bs : List Bool} {i : Int} (h : MkI A R bs (ws ++ [i])) (hi : ¬ A.s.ok i = true ∨ bs[(i - 1).toNat]? = some true) (hA : ARf A R) : MkI A R bs ws := by
  refine ⟨h.len, fun r hr hne hok => ?_, fun j h1 h2 hb c hc hne => ?_, fun x hx => h.rng x (List.mem_append_left _ hx)⟩
  · rcases h.root r hr hne hok with h3 | h3
    · exact .inl h3
    · rcases List.mem_append.1 h3 with h3 | h3
      · exact .inr h3
      · have e := List.mem_singleton.1 h3
        subst e
        exact .inl (hi.resolve_left fun h4 => h4 hok)
  · rcases h.kid j h1 h2 hb c hc hne with h3 | h3
    · exact .inl h3
    · rcases List.mem_append.1 h3 with h3 | h3
      · exact .inr h3
      · have e := List.mem_singleton.1 h3
        subst e
        have hok := ((hA.kid j h2 (by omega) c hc).resolve_left hne).2
        exact .inl (hi.resolve_left fun h4 => h4 hok)
theorem MkI.all {A : AM} {R : List Int} {bs : List Bool} (h : MkI A R bs []) (hA : ARf A R) : ∀ j, 1 ≤ j → A.s.ok j = true → bs[(j - 1).toNat]? = some true :=
  reach hA (fun j => bs[(j - 1).toNat]? = some true) (fun r hr hne => by
    have hok := ((hA.ref r hr).resolve_left hne).2
    exact (h.root r hr hne hok).resolve_right fun h3 => by cases h3) (fun j h1 h2 hb c hc hne => (h.kid j h1 h2 hb c hc hne).resolve_right fun h3 => by cases h3)
end Go.V
/-! ## C1 -/
namespace Go.Proofs.YtbeacjcmdijdmaaGreat
open Go Go.V Go.RowKit
theorem dmp_n (A : AM) : (sls (AM.dmp A)).length = A.s.cap.toNat := by rw [sls_len, AM.dmp_len]
theorem cap_rng {A : AM} {R : List Int} (h : ARf A R) : 1 ≤ A.s.cap ∧ A.s.cap ≤ 65536 := by
  have h1 := h.s.cap
  have h2 : A.s.cap = (A.s.used.length : Int) - 1 := rfl
  omega
set_option maxRecDepth 8192 in
theorem c6_alloc {g w : World} {L : List HP} (A : AM) (R : List Int) (da fa : Option Addr) (dc fc : Nat) (i : Int) (hA : ARf A R) (hi : 0 ≤ i ∧ i ≤ 4294967295) (hS : St g (Sh 174 11 (sls (AM.dmp A)) da dc :: L) w) :
    Sp Tryz.prog 151 [.agg #[.slice da (List.length (sls (AM.dmp A))) dc, .slice fa (List.length (u32s (SM.order A.s))) fc], .int .u32 i] w (fun v w' => ∃ (b : Bool), v = .bool b ∧ St g (Sh 174 11 (sls (AM.dmp A)) da dc :: L) w' ∧ (b = A.s.ok i)) := by
  refine Sp.enter Tryz.func151 rfl (by kernel_rfl) (by kernel_rfl) ?_
  refine WC.seq <| WC.region <| WL.box rfl rfl #[.slice da (List.length (sls (AM.dmp A))) dc, .slice fa (List.length (u32s (SM.order A.s))) fc] hS rfl rfl (fun b1 w hS => ?_)
  refine WL.r 1 rfl <| WL.nil <| WC.seq <| WC.region ?_
  have hn := dmp_n A; have hcr := cap_rng hA; have hfr := hA.s.fr; have hcp : A.s.cap = (A.s.used.length : Int) - 1 := rfl
  refine WL.r 3 rfl ?_
  by_cases cg1 : 1 ≤ i
  · refine WL.reb 7 (.bool true) (congrArg Value.bool (decide_eq_true cg1)) <| WL.ung rfl rfl rfl <| WL.r 1 rfl <| WL.ung rfl rfl rfl <| WL.r 1 rfl <| WL.nw 9 rfl (wu64 (by omega)) ?_
    refine WL.ung rfl rfl rfl <| WL.r 1 rfl <| WL.ung rfl rfl rfl <| WL.run 1 [.slice da (List.length (sls (AM.dmp A))) dc] rfl (by exact hS.ld 0 rfl rfl) ?_
    refine WL.ung rfl rfl rfl <| WL.r 1 rfl <| WL.ung rfl rfl rfl <| WL.r 1 rfl <| WL.nw 13 rfl (wu64 (by omega)) ?_
    refine WL.ung rfl rfl rfl <| WL.r 3 rfl ?_
    by_cases cg2 : i ≤ (List.length (sls (AM.dmp A)) : Int)
    · refine WL.reb 16 (.bool true) (congrArg Value.bool (decide_eq_true cg2)) <| WL.ung rfl rfl rfl <| WL.r 1 rfl <| WL.ung rfl rfl rfl <| WL.run 1 [.slice da (List.length (sls (AM.dmp A))) dc] rfl (by exact hS.ld 0 rfl rfl) ?_
      refine WL.ung rfl rfl rfl <| WL.r 1 rfl <| WL.ung rfl rfl rfl <| WL.r 1 rfl <| WL.nw 20 rfl (wu32 (by omega)) ?_
      refine WL.ung rfl rfl rfl <| WL.ix rfl rfl (i := i - 1) (i.toNat - 1) el_60 rfl rfl (by omega) (by omega) (hS.rdS 1 rfl (sls_at (AM.dmp_at (A := A) (k := i.toNat - 1) (by omega)))).1 ?_
      refine WL.ung rfl rfl rfl <| WL.r 1 rfl <| WL.ung rfl rfl rfl <| WL.run 3 [.bool (A.dmpAt (((i.toNat - 1 : Nat) : Int) + 1)).al] rfl (by exact (hS.rdS 1 rfl (sls_at (AM.dmp_at (A := A) (k := i.toNat - 1) (by omega)))).2 0 _ rfl) ?_
      refine WL.nil ?_
      as_aux_lemma =>
      refine WC.ret ?_
      refine ⟨[.bool (A.dmpAt (((i.toNat - 1 : Nat) : Int) + 1)).al], rfl, ?_⟩
      replace hS := (hS.sel 1 [] rfl)
      exact ⟨_, rfl, hS, by show A.s.ok (((i.toNat - 1 : Nat) : Int) + 1) = _; rw [show ((i.toNat - 1 : Nat) : Int) + 1 = i by omega]⟩
    · refine WL.reb 16 (.bool false) (congrArg Value.bool (decide_eq_false cg2)) <| WL.skp rfl rfl rfl rfl <| WL.skp rfl rfl rfl rfl <| WL.skp rfl rfl rfl rfl <| WL.skp rfl rfl rfl rfl <| WL.skp rfl rfl rfl rfl <| WL.skp rfl rfl rfl rfl <| WL.skp rfl rfl rfl rfl <| WL.r 2 rfl <| WL.nil ?_
      as_aux_lemma =>
      refine WC.ret ?_
      refine ⟨[.bool false], rfl, ?_⟩
      replace hS := (hS.sel 1 [] rfl)
      exact ⟨false, rfl, hS, by have h9 : ¬ A.s.ok i = true := fun e => cg2 (by have := (SM.ok_rng hA.s (i := i) hi.1 e).2.1; omega); exact (Bool.eq_false_iff.2 h9).symm⟩
  · refine WL.reb 7 (.bool false) (congrArg Value.bool (decide_eq_false cg1)) <| WL.skp rfl rfl rfl rfl <| WL.skp rfl rfl rfl rfl <| WL.skp rfl rfl rfl rfl <| WL.skp rfl rfl rfl rfl <| WL.skp rfl rfl rfl rfl <| WL.skp rfl rfl rfl rfl <| WL.skp rfl rfl rfl rfl <| WL.r 2 rfl <| WL.skp rfl rfl rfl rfl <| WL.skp rfl rfl rfl rfl <| WL.skp rfl rfl rfl rfl ?_
    refine WL.skp rfl rfl rfl rfl <| WL.skp rfl rfl rfl rfl <| WL.skp rfl rfl rfl rfl <| WL.skp rfl rfl rfl rfl <| WL.r 2 rfl <| WL.nil ?_
    as_aux_lemma =>
    refine WC.ret ?_
    refine ⟨[.bool false], rfl, ?_⟩
    replace hS := (hS.sel 1 [] rfl)
    exact ⟨false, rfl, hS, by rw [show i = 0 by omega]; exact hA.s.u0.symm⟩
end Go.Proofs.YtbeacjcmdijdmaaGreat
/-! ## Arw -/
namespace Go.V
open Go Go.RowKit
def sz1 (P : Program) (e : TypeId) : Bool := match P.info? e with
  | some i => i.size == 1
  | none => false
theorem sz1_ex {P : Program} {e : TypeId} (h : sz1 P e = true) : ∃ i, P.info? e = some i ∧ i.size = 1 := by
  unfold sz1 at h
  cases hi : P.info? e with
  | none => rw [hi] at h; cases h
  | some i => rw [hi] at h; exact ⟨i, rfl, by simpa using h⟩
structure ArP (P : Program) (t : TypeId) (m : Nat) (e : TypeId) : Prop where
  und : P.underlying t = some (.array m e)
  one1 : sz1 P e = true
theorem ArP.one {P : Program} {t e : TypeId} {m : Nat} (h : ArP P t m e) : ∃ i, P.info? e = some i ∧ i.size = 1 := sz1_ex h.one1
theorem RdE.sub {w : World} {size k : Nat} {a : Option Addr} {cs : List Value} (h : RdE w size a k cs) (d : Nat) (sub : List Value) (hs : (cs.drop d).take sub.length = sub) (j : Nat) (u : Value) (hj : sub[j]? = some u) : w.cell? ⟨bo a, oo a + k * size + d + j, none⟩ = some u := by
  have hlt := (List.getElem?_eq_some_iff.1 hj).1
  rw [← hs, List.getElem?_take, if_pos hlt, List.getElem?_drop] at hj
  rw [Nat.add_assoc]
  exact h (d + j) u hj
end Go.V
/-! ## C6 -/
namespace Go.Proofs.YtbeacjcmdijdmaaGreat
open Go Go.V Go.RowKit
def ndD (A : AM) (i : Int) : Nd := if A.s.ok i = true then A.nd i else Nd.zero
theorem ndD_ok {A : AM} {i : Int} (h : A.s.ok i = true) : ndD A i = A.nd i := if_pos h
theorem ndD_sz {A : AM} (i : Int) : (ndD A i).size = A.sz i := by
  unfold ndD AM.sz
  split <;> rfl
theorem is_rng {A : AM} {R : List Int} (h : ARf A R) {t : Tr} {i : Int} (hi : Is A t i) : 0 ≤ i ∧ i ≤ 65536 := by
  have := h.okrng hi.ref; omega
theorem tn_cap {A : AM} {R : List Int} (h : ARf A R) {t : Tr} {i : Int} (hi : Is A t i) (hs : Srt t.ls) : (t.n : Int) ≤ A.s.cap := by
  have h1 := nodup_bnd A.s.cap.toNat (ixs A t i) (ixs_nodup hi hs) fun j hj => by
    have h2 := ixs_ok A t i hi j hj
    have h3 := SM.ok_rng h.s (i := j) (by omega) h2.2
    have := cap_rng h; omega
  rw [ixs_len A hi] at h1
  have := cap_rng h; omega
theorem is_n {A : AM} {R : List Int} (h : ARf A R) {t : Tr} {i : Int} (hi : Is A t i) : (t.n : Int) ≤ 2147483647 := by
  rw [← Is.sz h t i hi]
  rcases hi.ref with e | ⟨e1, e2⟩
  · subst e; rw [sz_0 h.s]; decide
  · rw [sz_ok e2]; exact (h.sz i e2 (by omega)).2
theorem srt_node {l r : Tr} {k v : Int} (h : Srt (Tr.node l k v r).ls) : Srt l.ls ∧ Srt r.ls ∧ (∀ x ∈ l.ls, x.1 < k) ∧ ∀ x ∈ r.ls, k < x.1 := by
  have h1 := Srt.app (a := l.ls) (b := (k, v) :: r.ls) h
  have h2 := List.pairwise_cons.1 h1.2.1
  exact ⟨h1.1, h2.2, fun x hx => h1.2.2 x hx (k, v) (by simp), fun x hx => h2.1 x hx⟩
set_option maxRecDepth 8192 in
theorem t7_node {g w : World} {L : List HP} (A : AM) (R : List Int) (da fa : Option Addr) (dc fc : Nat) (i : Int) (hA : ARf A R) (hi : 0 ≤ i ∧ i ≤ 4294967295) (hS : St g (Sh 174 11 (sls (AM.dmp A)) da dc :: L) w) :
    Sp Tryz.prog 86 [.agg #[.slice da (List.length (sls (AM.dmp A))) dc, .slice fa (List.length (u32s (SM.order A.s))) fc], .int .u32 i] w (fun v w' => v = .agg #[.int .i64 (ndD A i).key, .int .i64 (ndD A i).val, .int .u32 (ndD A i).lf, .int .u32 (ndD A i).rg, .int .i64 (ndD A i).size, .int .i64 (ndD A i).sum, .int .i64 (ndD A i).mn, .int .i64 (ndD A i).mx] ∧ St g (Sh 174 11 (sls (AM.dmp A)) da dc :: L) w') := by
  refine Sp.enter Tryz.func86 rfl (by kernel_rfl) (by kernel_rfl) ?_
  refine WC.seq <| WC.region <| WL.box rfl rfl #[.slice da (List.length (sls (AM.dmp A))) dc, .slice fa (List.length (u32s (SM.order A.s))) fc] hS rfl rfl (fun b1 w hS => ?_)
  refine WL.new rfl rfl zv_172 hS (fun b2 w hS => ?_)
  refine WL.nil <| WC.seq <| WC.seq <| WC.region ?_
  have hn := dmp_n A; have hcr := cap_rng hA
  refine WL.ldF rfl rfl 1 hS rfl rfl ag_62 <| WL.r 1 rfl <| WL.call rfl rfl (c6_alloc (A := A) (da := da) (fa := fa) (dc := dc) (fc := fc) (i := i) (hA := hA) (hi := hi) (hS := (hS.sel 3 [2, 0, 0] rfl))) rfl ?_
  clear hS; rintro _ w ⟨b3, rfl, hS, f1⟩
  replace hS := hS.n3 L (a1 := cel b2 #[.int .i64 0, .int .i64 0, .int .u32 0, .int .u32 0, .int .i64 0, .int .i64 0, .int .i64 0, .int .i64 0] 172) (a2 := cel b1 #[.slice da (List.length (sls (AM.dmp A))) dc, .slice fa (List.length (u32s (SM.order A.s))) fc] 62) rfl
  refine WL.r 1 rfl <| WL.nil <| WC.if_ rfl (fun cd1 => ?_) (fun cd1 => ?_)
  · refine WC.seq <| WC.region <| WL.build rfl rfl (cs := [.int .i64 0, .int .i64 0, .int .u32 0, .int .u32 0, .int .i64 0, .int .i64 0, .int .i64 0, .int .i64 0]) zv_172 rfl rfl <| WL.stF rfl rfl rfl 1 hS rfl rfl rfl rfl rfl ag_172 (fun w hS => ?_)
    replace hS := hS.n3 L rfl
    refine WL.nil <| WC.ret ?_
    refine ⟨[.agg #[.int .i64 0, .int .i64 0, .int .u32 0, .int .u32 0, .int .i64 0, .int .i64 0, .int .i64 0, .int .i64 0]], ⟨⟨_, rfl, hS.lvF 1 rfl ag_172⟩, trivial⟩, ?_⟩
    replace hS := (hS.sel 3 [0] rfl)
    exact ⟨by have h9 : ¬ A.s.ok i = true := (by rw [← f1]; simpa using cd1); unfold ndD; rw [if_neg h9]; rfl, hS⟩
  · refine WC.skip <| WC.seq <| WC.region ?_
    have hok : A.s.ok i = true := (by rw [← f1]; simpa using cd1); have hor := SM.ok_rng hA.s (i := i) hi.1 hok; have hfr := hA.s.fr
    refine WL.run 4 [.slice da (List.length (sls (AM.dmp A))) dc] rfl (by exact hS.ld 2 rfl rfl) ?_
    refine WL.nw 13 rfl (wu32 (by omega)) ?_
    refine WL.ix rfl rfl (i := i - 1) (i.toNat - 1) el_60 rfl rfl (by omega) (by omega) (hS.rdS 0 rfl (sls_at (AM.dmp_at (A := A) (k := i.toNat - 1) (by omega)))).1 ?_
    refine WL.r 1 rfl <| WL.ldC rfl rfl [.int .i64 (A.dmpAt (((i.toNat - 1 : Nat) : Int) + 1)).nd.key, .int .i64 (A.dmpAt (((i.toNat - 1 : Nat) : Int) + 1)).nd.val, .int .u32 (A.dmpAt (((i.toNat - 1 : Nat) : Int) + 1)).nd.lf, .int .u32 (A.dmpAt (((i.toNat - 1 : Nat) : Int) + 1)).nd.rg, .int .i64 (A.dmpAt (((i.toNat - 1 : Nat) : Int) + 1)).nd.size, .int .i64 (A.dmpAt (((i.toNat - 1 : Nat) : Int) + 1)).nd.sum, .int .i64 (A.dmpAt (((i.toNat - 1 : Nat) : Int) + 1)).nd.mn, .int .i64 (A.dmpAt (((i.toNat - 1 : Nat) : Int) + 1)).nd.mx] ag_172 rfl (RdE.sub (hS.rdS 0 rfl (sls_at (AM.dmp_at (A := A) (k := i.toNat - 1) (by omega)))).2 3 [.int .i64 (A.dmpAt (((i.toNat - 1 : Nat) : Int) + 1)).nd.key, .int .i64 (A.dmpAt (((i.toNat - 1 : Nat) : Int) + 1)).nd.val, .int .u32 (A.dmpAt (((i.toNat - 1 : Nat) : Int) + 1)).nd.lf, .int .u32 (A.dmpAt (((i.toNat - 1 : Nat) : Int) + 1)).nd.rg, .int .i64 (A.dmpAt (((i.toNat - 1 : Nat) : Int) + 1)).nd.size, .int .i64 (A.dmpAt (((i.toNat - 1 : Nat) : Int) + 1)).nd.sum, .int .i64 (A.dmpAt (((i.toNat - 1 : Nat) : Int) + 1)).nd.mn, .int .i64 (A.dmpAt (((i.toNat - 1 : Nat) : Int) + 1)).nd.mx] rfl) ?_
    refine WL.stF rfl rfl rfl 1 hS rfl rfl rfl rfl rfl ag_172 (fun w hS => ?_)
    replace hS := hS.n3 L (a1 := cel b2 #[.int .i64 (A.dmpAt (((i.toNat - 1 : Nat) : Int) + 1)).nd.key, .int .i64 (A.dmpAt (((i.toNat - 1 : Nat) : Int) + 1)).nd.val, .int .u32 (A.dmpAt (((i.toNat - 1 : Nat) : Int) + 1)).nd.lf, .int .u32 (A.dmpAt (((i.toNat - 1 : Nat) : Int) + 1)).nd.rg, .int .i64 (A.dmpAt (((i.toNat - 1 : Nat) : Int) + 1)).nd.size, .int .i64 (A.dmpAt (((i.toNat - 1 : Nat) : Int) + 1)).nd.sum, .int .i64 (A.dmpAt (((i.toNat - 1 : Nat) : Int) + 1)).nd.mn, .int .i64 (A.dmpAt (((i.toNat - 1 : Nat) : Int) + 1)).nd.mx] 172) rfl
    refine WL.nil ?_
    as_aux_lemma =>
    refine WC.ret ?_
    refine ⟨[.agg #[.int .i64 (A.dmpAt (((i.toNat - 1 : Nat) : Int) + 1)).nd.key, .int .i64 (A.dmpAt (((i.toNat - 1 : Nat) : Int) + 1)).nd.val, .int .u32 (A.dmpAt (((i.toNat - 1 : Nat) : Int) + 1)).nd.lf, .int .u32 (A.dmpAt (((i.toNat - 1 : Nat) : Int) + 1)).nd.rg, .int .i64 (A.dmpAt (((i.toNat - 1 : Nat) : Int) + 1)).nd.size, .int .i64 (A.dmpAt (((i.toNat - 1 : Nat) : Int) + 1)).nd.sum, .int .i64 (A.dmpAt (((i.toNat - 1 : Nat) : Int) + 1)).nd.mn, .int .i64 (A.dmpAt (((i.toNat - 1 : Nat) : Int) + 1)).nd.mx]], ⟨⟨_, rfl, hS.lvF 1 rfl ag_172⟩, trivial⟩, ?_⟩
    replace hS := (hS.sel 3 [0] rfl)
    exact ⟨by have h8 : ((i.toNat - 1 : Nat) : Int) + 1 = i := (by omega); rw [h8]; unfold ndD; rw [if_pos hok]; rfl, hS⟩
set_option maxHeartbeats 1000000 in
set_option maxRecDepth 8192 in
theorem t7_ord_step (nM : Nat) (ih : ∀ mM : Nat, mM < nM → ∀ (g w : World) (L : List HP) (A : AM) (R : List Int) (da fa : Option Addr) (dc fc : Nat) (p : Nat) (i last most : Int) (any : Bool) (t : Tr), (ARf A R) → (Is A t i) → (Srt t.ls) → (any = true → ∀ x ∈ t.ls, last < x.1) → ((t.n : Int) ≤ most ∧ most ≤ 1000000) → t.n = mM → St g (cel p #[.slice da (List.length (sls (AM.dmp A))) dc, .slice fa (List.length (u32s (SM.order A.s))) fc, .int .i64 last, .bool any, .int .i64 most] 257 :: Sh 174 11 (sls (AM.dmp A)) da dc :: L) w → Sp Tryz.prog 152 [.pointer (some ⟨p, 0, none⟩), .int .u32 i] w (fun v w' => ∃ (last2 : Int) (any2 : Bool), v = .bool true ∧ St g (cel p #[.slice da (List.length (sls (AM.dmp A))) dc, .slice fa (List.length (u32s (SM.order A.s))) fc, .int .i64 last2, .bool any2, .int .i64 (most - (t.n : Int))] 257 :: Sh 174 11 (sls (AM.dmp A)) da dc :: L) w' ∧ (any2 = true → (any = true ∧ last2 = last) ∨ ∃ x ∈ t.ls, x.1 = last2))) {g w : World} {L : List HP} (A : AM) (R : List Int) (da fa : Option Addr) (dc fc : Nat) (p : Nat) (i last most : Int) (any : Bool) (t : Tr) (hA : ARf A R) (hi : Is A t i) (hs : Srt t.ls) (hl : any = true → ∀ x ∈ t.ls, last < x.1) (hm : (t.n : Int) ≤ most ∧ most ≤ 1000000) (hM : t.n = nM) (hS : St g (cel p #[.slice da (List.length (sls (AM.dmp A))) dc, .slice fa (List.length (u32s (SM.order A.s))) fc, .int .i64 last, .bool any, .int .i64 most] 257 :: Sh 174 11 (sls (AM.dmp A)) da dc :: L) w) :
    Sp Tryz.prog 152 [.pointer (some ⟨p, 0, none⟩), .int .u32 i] w (fun v w' => ∃ (last2 : Int) (any2 : Bool), v = .bool true ∧ St g (cel p #[.slice da (List.length (sls (AM.dmp A))) dc, .slice fa (List.length (u32s (SM.order A.s))) fc, .int .i64 last2, .bool any2, .int .i64 (most - (t.n : Int))] 257 :: Sh 174 11 (sls (AM.dmp A)) da dc :: L) w' ∧ (any2 = true → (any = true ∧ last2 = last) ∨ ∃ x ∈ t.ls, x.1 = last2)) := by
  refine Sp.enter Tryz.func152 rfl (by kernel_rfl) (by kernel_rfl) ?_
  have _ := hm
  refine WC.seq <| WC.region <| WL.r 1 rfl <| WL.nil <| WC.seq <| WC.seq <| WC.region ?_
  have hx0 := Is.nil_iff hi; have hir := is_rng hA hi
  refine WL.r 2 rfl <| WL.nil <| WC.ifP rfl (fun hx => ?_) (fun hx => ?_)
  · refine WC.seq <| WC.region <| WL.r 1 rfl <| WL.nil <| WC.ret ?_
    refine ⟨[.bool true], rfl, ?_⟩
    have h9 := hx0.1 hx; subst h9; rw [show most = most - ((Tr.n .nil : Nat) : Int) from (Int.sub_zero _).symm] at hS; exact ⟨last, any, rfl, hS, fun h => .inl ⟨h, rfl⟩⟩
  · refine WC.skip <| WC.seq <| WC.seq <| WC.region ?_
    obtain ⟨tl, k, z, tr, ht⟩ := nil_or (t := t) (fun e => hx (hx0.2 e)); have htn : t.n = tl.n + tr.n + 1 := (by rw [ht]; rfl); have hi2 : Is A (.node tl k z tr) i := ht ▸ hi; have e7 : ndD A i = A.nd i := ndD_ok hi2.2.1; have hk7 : (ndD A i).key = k := (by rw [e7]; exact hi2.2.2.1); have hs7 := srt_node (ht ▸ hs); have hls : t.ls = tl.ls ++ (k, z) :: tr.ls := (by rw [ht]; rfl); have hl7 : Is A tl (ndD A i).lf := (by rw [e7]; exact hi2.2.2.2.2.1); have hr7 : Is A tr (ndD A i).rg := (by rw [e7]; exact hi2.2.2.2.2.2); have hlr := is_rng hA hl7; have hrr := is_rng hA hr7
    refine WL.run 5 [.int .i64 most] rfl (by exact hS.ld 0 rfl rfl) ?_
    refine WL.nil <| WC.ifF rfl (decide_eq_false ((by omega))) ?_
    refine WC.skip <| WC.seq <| WC.region <| WL.run 5 [.int .i64 most] rfl (by exact hS.ld 0 rfl rfl) ?_
    refine WL.nw 17 rfl (w64 (by omega)) ?_
    refine WL.r 2 rfl <| WL.st rfl rfl rfl 0 hS rfl rfl rfl rfl rfl rfl (fun w hS => ?_)
    replace hS := hS.n2 L (a0 := cel p #[.slice da (List.length (sls (AM.dmp A))) dc, .slice fa (List.length (u32s (SM.order A.s))) fc, .int .i64 last, .bool any, .int .i64 (most - 1)] 257) rfl
    refine WL.nil ?_
    as_aux_lemma =>
    refine WC.seq <| WC.region <| WL.r 3 rfl <| WL.ldC rfl rfl [.slice da (List.length (sls (AM.dmp A))) dc, .slice fa (List.length (u32s (SM.order A.s))) fc] ag_62 rfl (hS.part 0 rfl rfl) <| WL.r 1 rfl <| WL.call rfl rfl (t7_node (A := A) (da := da) (fa := fa) (dc := dc) (fc := fc) (i := i) (hA := hA) (hi := (by omega)) (hS := (hS.sel 2 [1, 0] rfl))) rfl ?_
    clear hS; rintro _ w ⟨rfl, hS⟩
    replace hS := hS.n2 L rfl
    refine WL.new rfl rfl zv_172 hS (fun b1 w hS => ?_)
    refine WL.stF rfl rfl rfl 0 hS rfl rfl rfl rfl rfl ag_172 (fun w hS => ?_)
    replace hS := hS.n3 L (a0 := cel b1 #[.int .i64 (ndD A i).key, .int .i64 (ndD A i).val, .int .u32 (ndD A i).lf, .int .u32 (ndD A i).rg, .int .i64 (ndD A i).size, .int .i64 (ndD A i).sum, .int .i64 (ndD A i).mn, .int .i64 (ndD A i).mx] 172) rfl
    refine WL.nil <| WC.seq <| WC.seq <| WC.region <| WL.run 3 [.int .u32 (ndD A i).lf] rfl (by exact hS.ld 0 rfl rfl) ?_
    refine WL.call rfl rfl (ih (tl.n) (by omega) _ _ _ A R da fa dc fc p (ndD A i).lf last (most - 1) any tl (hA) (hl7) (hs7.1) ((fun h x hx => hl h x (by rw [hls]; exact List.mem_append_left _ hx))) ((by omega)) rfl (hS.sel 3 [2, 1, 0] rfl)) rfl ?_
    clear hS; rintro _ w ⟨last1, any1, rfl, hS, f1⟩
    replace hS := hS.n3 L (a0 := cel p #[.slice da (List.length (sls (AM.dmp A))) dc, .slice fa (List.length (u32s (SM.order A.s))) fc, .int .i64 last1, .bool any1, .int .i64 ((most - 1) - (tl.n : Int))] 257) rfl
    refine WL.r 1 rfl <| WL.nil <| WC.ifF rfl rfl <| WC.skip <| WC.seq <| WC.seq <| WC.plan [([0, 1, 2, 3, 4, 5, 7, 6, 8, 9, 10, 11, 12], none)] (by kernel_rfl) (by kernel_rfl) ?_
    refine WQ.run 4 [.bool any1] rfl (by exact hS.ld 0 rfl rfl) ?_
    refine WQ.runG 9 [.int .i64 (ndD A i).key, .int .i64 last1] rfl (by exact ⟨fun _ => hS.ld 2 rfl rfl, fun _ => hS.ld 0 rfl rfl⟩) (fun j => ?_)
    refine WQ.prop 43 rfl (band (dv _) (dd _)) <| WQ.nil ?_
    intro m1
    replace hS := hS.drewN m1; generalize hwm1 : World.drewN _ _ = w at *; clear hwm1
    as_aux_lemma =>
    refine WC.ifF rfl (decide_eq_false ((fun h9 => by rw [hk7] at h9; exact (f1 h9.1).elim (fun ⟨h1, h2⟩ => by have h3 : last < k := hl h1 (k, z) (by rw [hls]; simp); omega) (fun ⟨x, hx, h2⟩ => by have := hs7.2.2.1 x hx; omega)))) ?_
    refine WC.skip <| WC.seq <| WC.region <| WL.run 6 [.int .i64 (ndD A i).key] rfl (by exact hS.ld 2 rfl rfl) ?_
    refine WL.st rfl rfl rfl 0 hS rfl rfl rfl rfl rfl rfl (fun w hS => ?_)
    replace hS := hS.n3 L (a0 := cel p #[.slice da (List.length (sls (AM.dmp A))) dc, .slice fa (List.length (u32s (SM.order A.s))) fc, .int .i64 (ndD A i).key, .bool any1, .int .i64 ((most - 1) - (tl.n : Int))] 257) rfl
    refine WL.r 2 rfl <| WL.st rfl rfl rfl 0 hS rfl rfl rfl rfl rfl rfl (fun w hS => ?_)
    replace hS := hS.n3 L (a0 := cel p #[.slice da (List.length (sls (AM.dmp A))) dc, .slice fa (List.length (u32s (SM.order A.s))) fc, .int .i64 (ndD A i).key, .bool true, .int .i64 ((most - 1) - (tl.n : Int))] 257) rfl
    refine WL.nil <| WC.seq <| WC.region <| WL.run 3 [.int .u32 (ndD A i).rg] rfl (by exact hS.ld 2 rfl rfl) ?_
    refine WL.call rfl rfl (ih (tr.n) (by omega) _ _ _ A R da fa dc fc p (ndD A i).rg (ndD A i).key ((most - 1) - (tl.n : Int)) true tr (hA) (hr7) (hs7.2.1) ((fun _ x hx => by rw [hk7]; exact hs7.2.2.2 x hx)) ((by omega)) rfl hS) rfl ?_
    clear hS; rintro _ w ⟨last2, any2, rfl, hS, f2⟩
    replace hS := hS.n3 L (a0 := cel p #[.slice da (List.length (sls (AM.dmp A))) dc, .slice fa (List.length (u32s (SM.order A.s))) fc, .int .i64 last2, .bool any2, .int .i64 (((most - 1) - (tl.n : Int)) - (tr.n : Int))] 257) rfl
    refine WL.r 1 rfl <| WL.nil <| WC.ret ?_
    refine ⟨[.bool true], rfl, ?_⟩
    replace hS := (hS.sel 3 [0, 0] rfl)
    rw [show most - 1 - (tl.n : Int) - (tr.n : Int) = most - (t.n : Int) by omega] at hS; exact ⟨_, _, rfl, hS, fun h => .inr ((f2 h).elim (fun ⟨_, h2⟩ => ⟨(k, z), by rw [hls]; simp, by rw [h2, hk7]⟩) (fun ⟨x, hx, h2⟩ => ⟨x, by rw [hls]; exact List.mem_append_right _ (List.mem_cons_of_mem _ hx), h2⟩))⟩
theorem t7_ord_all (nM : Nat) : ∀ (g w : World) (L : List HP) (A : AM) (R : List Int) (da fa : Option Addr) (dc fc : Nat) (p : Nat) (i last most : Int) (any : Bool) (t : Tr), (ARf A R) → (Is A t i) → (Srt t.ls) → (any = true → ∀ x ∈ t.ls, last < x.1) → ((t.n : Int) ≤ most ∧ most ≤ 1000000) → t.n = nM → St g (cel p #[.slice da (List.length (sls (AM.dmp A))) dc, .slice fa (List.length (u32s (SM.order A.s))) fc, .int .i64 last, .bool any, .int .i64 most] 257 :: Sh 174 11 (sls (AM.dmp A)) da dc :: L) w → Sp Tryz.prog 152 [.pointer (some ⟨p, 0, none⟩), .int .u32 i] w (fun v w' => ∃ (last2 : Int) (any2 : Bool), v = .bool true ∧ St g (cel p #[.slice da (List.length (sls (AM.dmp A))) dc, .slice fa (List.length (u32s (SM.order A.s))) fc, .int .i64 last2, .bool any2, .int .i64 (most - (t.n : Int))] 257 :: Sh 174 11 (sls (AM.dmp A)) da dc :: L) w' ∧ (any2 = true → (any = true ∧ last2 = last) ∨ ∃ x ∈ t.ls, x.1 = last2)) := by
  induction nM using Nat.strongRecOn with
  | _ nM ih => intro g w L A R da fa dc fc p i last most any t hA hi hs hl hm hM hS; exact t7_ord_step nM ih A R da fa dc fc p i last most any t hA hi hs hl hm hM hS
theorem t7_ord {g w : World} {L : List HP} (A : AM) (R : List Int) (da fa : Option Addr) (dc fc : Nat) (p : Nat) (i last most : Int) (any : Bool) (t : Tr) (hA : ARf A R) (hi : Is A t i) (hs : Srt t.ls) (hl : any = true → ∀ x ∈ t.ls, last < x.1) (hm : (t.n : Int) ≤ most ∧ most ≤ 1000000) (hS : St g (cel p #[.slice da (List.length (sls (AM.dmp A))) dc, .slice fa (List.length (u32s (SM.order A.s))) fc, .int .i64 last, .bool any, .int .i64 most] 257 :: Sh 174 11 (sls (AM.dmp A)) da dc :: L) w) :
    Sp Tryz.prog 152 [.pointer (some ⟨p, 0, none⟩), .int .u32 i] w (fun v w' => ∃ (last2 : Int) (any2 : Bool), v = .bool true ∧ St g (cel p #[.slice da (List.length (sls (AM.dmp A))) dc, .slice fa (List.length (u32s (SM.order A.s))) fc, .int .i64 last2, .bool any2, .int .i64 (most - (t.n : Int))] 257 :: Sh 174 11 (sls (AM.dmp A)) da dc :: L) w' ∧ (any2 = true → (any = true ∧ last2 = last) ∨ ∃ x ∈ t.ls, x.1 = last2)) := t7_ord_all _ g w L A R da fa dc fc p i last most any t hA hi hs hl hm rfl hS
set_option maxHeartbeats 1000000 in
set_option maxRecDepth 8192 in
theorem t7_bal_step (nM : Nat) (ih : ∀ mM : Nat, mM < nM → ∀ (g w : World) (L : List HP) (A : AM) (R : List Int) (da fa : Option Addr) (dc fc : Nat) (i : Int) (t : Tr), (ARf A R) → (Is A t i) → (t.ok) → t.n = mM → St g (Sh 174 11 (sls (AM.dmp A)) da dc :: L) w → Sp Tryz.prog 153 [.agg #[.slice da (List.length (sls (AM.dmp A))) dc, .slice fa (List.length (u32s (SM.order A.s))) fc], .int .u32 i] w (fun v w' => v = .bool true ∧ St g (Sh 174 11 (sls (AM.dmp A)) da dc :: L) w')) {g w : World} {L : List HP} (A : AM) (R : List Int) (da fa : Option Addr) (dc fc : Nat) (i : Int) (t : Tr) (hA : ARf A R) (hi : Is A t i) (hb : t.ok) (hM : t.n = nM) (hS : St g (Sh 174 11 (sls (AM.dmp A)) da dc :: L) w) :
    Sp Tryz.prog 153 [.agg #[.slice da (List.length (sls (AM.dmp A))) dc, .slice fa (List.length (u32s (SM.order A.s))) fc], .int .u32 i] w (fun v w' => v = .bool true ∧ St g (Sh 174 11 (sls (AM.dmp A)) da dc :: L) w') := by
  refine Sp.enter Tryz.func153 rfl (by kernel_rfl) (by kernel_rfl) ?_
  refine WC.seq <| WC.region <| WL.box rfl rfl #[.slice da (List.length (sls (AM.dmp A))) dc, .slice fa (List.length (u32s (SM.order A.s))) fc] hS rfl rfl (fun b1 w hS => ?_)
  refine WL.r 1 rfl <| WL.nil <| WC.seq <| WC.seq <| WC.region ?_
  have hx0 := Is.nil_iff hi; have hir := is_rng hA hi
  refine WL.r 2 rfl <| WL.nil <| WC.ifP rfl (fun hx => ?_) (fun hx => ?_)
  · refine WC.seq <| WC.region <| WL.r 1 rfl <| WL.nil <| WC.ret ?_
    refine ⟨[.bool true], rfl, ?_⟩
    replace hS := (hS.sel 1 [] rfl)
    exact ⟨rfl, hS⟩
  · refine WC.skip <| WC.seq <| WC.region ?_
    obtain ⟨tl, k, z, tr, ht⟩ := nil_or (t := t) (fun e => hx (hx0.2 e)); have htn : t.n = tl.n + tr.n + 1 := (by rw [ht]; rfl); have hi2 : Is A (.node tl k z tr) i := ht ▸ hi; have e7 : ndD A i = A.nd i := ndD_ok hi2.2.1; have hl7 : Is A tl (ndD A i).lf := (by rw [e7]; exact hi2.2.2.2.2.1); have hr7 : Is A tr (ndD A i).rg := (by rw [e7]; exact hi2.2.2.2.2.2); have hlr := is_rng hA hl7; have hrr := is_rng hA hr7; have hb7 : Bal tl.n tr.n ∧ tl.ok ∧ tr.ok := (by rw [ht] at hb; exact hb); have hlz : (ndD A (ndD A i).lf).size = (tl.n : Int) := (by rw [ndD_sz, Is.sz hA tl _ hl7]); have hrz : (ndD A (ndD A i).rg).size = (tr.n : Int) := (by rw [ndD_sz, Is.sz hA tr _ hr7]); have hnn := is_n hA hi
    refine WL.ldF rfl rfl 0 hS rfl rfl ag_62 <| WL.r 1 rfl <| WL.call rfl rfl (t7_node (A := A) (da := da) (fa := fa) (dc := dc) (fc := fc) (i := i) (hA := hA) (hi := (by omega)) (hS := (hS.sel 2 [1, 0] rfl))) rfl ?_
    clear hS; rintro _ w ⟨rfl, hS⟩
    replace hS := hS.n2 L (a1 := cel b1 #[.slice da (List.length (sls (AM.dmp A))) dc, .slice fa (List.length (u32s (SM.order A.s))) fc] 62) rfl
    refine WL.new rfl rfl zv_172 hS (fun b2 w hS => ?_)
    refine WL.stF rfl rfl rfl 0 hS rfl rfl rfl rfl rfl ag_172 (fun w hS => ?_)
    replace hS := hS.n3 L (a0 := cel b2 #[.int .i64 (ndD A i).key, .int .i64 (ndD A i).val, .int .u32 (ndD A i).lf, .int .u32 (ndD A i).rg, .int .i64 (ndD A i).size, .int .i64 (ndD A i).sum, .int .i64 (ndD A i).mn, .int .i64 (ndD A i).mx] 172) rfl
    refine WL.nil ?_
    as_aux_lemma =>
    refine WC.seq <| WC.plan [([0, 1, 5, 6, 2, 7], some (3, [5, 6, 7])), ([4], some (8, [4])), ([9], some (10, [])), ([11, 12, 13, 14], some (15, [])), ([16, 17, 18, 19, 20], some (21, [])), ([22, 23], none)] (by kernel_rfl) (by kernel_rfl) ?_
    refine WQ.ldF rfl rfl 2 hS rfl rfl ag_62 <| WQ.r 1 rfl <| WQ.ldF rfl rfl 2 hS rfl rfl ag_62 <| WQ.run 3 [.int .u32 (ndD A i).lf, .int .u32 (ndD A i).rg] rfl (by exact ⟨hS.ld 0 rfl rfl, hS.ld 0 rfl rfl⟩) ?_
    refine WQ.nil ?_
    intro m1
    replace hS := hS.drewN m1; generalize hwm1 : World.drewN _ _ = w at *; clear hwm1
    refine WL.call rfl rfl (t7_node (A := A) (R := R) (da := da) (fa := fa) (dc := dc) (fc := fc) (i := (ndD A i).lf) (hA := hA) (hi := (by omega)) (hS := (hS.sel 2 [1, 0] rfl))) rfl ?_
    clear hS; rintro _ w ⟨rfl, hS⟩
    replace hS := hS.n3 L rfl
    refine WL.nil ?_
    refine ⟨by exact ⟨RQ.ldF rfl rfl 2 hS rfl rfl ag_62 rfl rfl, RQ.pure rfl rfl rfl rfl, RQ.load rfl rfl rfl rfl (hS.ld 1 rfl rfl)⟩, ?_⟩
    refine WQ.r 1 rfl <| WQ.nil ?_
    intro m2
    replace hS := hS.drewN m2; generalize hwm2 : World.drewN _ _ = w at *; clear hwm2
    refine WL.call rfl rfl (t7_node (A := A) (R := R) (da := da) (fa := fa) (dc := dc) (fc := fc) (i := (ndD A i).rg) (hA := hA) (hi := (by omega)) (hS := hS)) rfl ?_
    clear hS; rintro _ w ⟨rfl, hS⟩
    replace hS := hS.n3 L rfl
    refine WL.nil ?_
    refine ⟨by exact RQ.pure rfl rfl rfl rfl, ?_⟩
    refine WQ.r 1 rfl <| WQ.nil ?_
    intro m3
    replace hS := hS.drewN m3; generalize hwm3 : World.drewN _ _ = w at *; clear hwm3
    refine WL.call rfl rfl (kb_bal (x := (ndD A (ndD A i).lf).size) (y := (ndD A (ndD A i).rg).size) (hx := (by omega)) (hy := (by omega)) (hS := hS)) rfl ?_
    clear hS; rintro _ w ⟨rfl, hS⟩
    replace hS := hS.n3 L rfl
    refine WL.nil ?_
    refine ⟨by exact trivial, ?_⟩
    refine WQ.r 1 rfl <| WQ.reb 22 (.bool true) (congrArg Value.bool (decide_eq_true ((by rw [hlz, hrz]; have h8 := hb7.1; unfold Bal at h8; omega)))) ?_
    refine WQ.ung rfl rfl rfl <| WQ.ldF rfl rfl 2 hS rfl rfl ag_62 <| WQ.ung rfl rfl rfl <| WQ.r 1 rfl <| WQ.ung rfl rfl rfl <| WQ.run 1 [.int .u32 (ndD A i).lf] rfl (by exact hS.ld 1 rfl rfl) ?_
    refine WQ.nil ?_
    intro m4
    replace hS := hS.drewN m4; generalize hwm4 : World.drewN _ _ = w at *; clear hwm4
    refine WL.ung rfl rfl rfl <| WL.call rfl rfl (ih (tl.n) (by omega) _ _ _ A R da fa dc fc (ndD A i).lf tl (hA) (hl7) (hb7.2.1) rfl hS) rfl ?_
    clear hS; rintro _ w ⟨rfl, hS⟩
    replace hS := hS.n3 L rfl
    refine WL.nil ?_
    refine ⟨by exact trivial, ?_⟩
    refine WQ.r 2 rfl <| WQ.ung rfl rfl rfl <| WQ.ldF rfl rfl 2 hS rfl rfl ag_62 <| WQ.ung rfl rfl rfl <| WQ.r 1 rfl <| WQ.ung rfl rfl rfl <| WQ.run 1 [.int .u32 (ndD A i).rg] rfl (by exact hS.ld 1 rfl rfl) ?_
    refine WQ.nil ?_
    intro m5
    replace hS := hS.drewN m5; generalize hwm5 : World.drewN _ _ = w at *; clear hwm5
    refine WL.ung rfl rfl rfl <| WL.call rfl rfl (ih (tr.n) (by omega) _ _ _ A R da fa dc fc (ndD A i).rg tr (hA) (hr7) (hb7.2.2) rfl hS) rfl ?_
    clear hS; rintro _ w ⟨rfl, hS⟩
    replace hS := hS.n3 L rfl
    refine WL.nil ?_
    refine ⟨by exact trivial, ?_⟩
    refine WQ.r 2 rfl <| WQ.nil ?_
    intro m6
    replace hS := hS.drewN m6; generalize hwm6 : World.drewN _ _ = w at *; clear hwm6
    as_aux_lemma =>
    refine WC.ret ?_
    refine ⟨[.bool true], rfl, ?_⟩
    replace hS := (hS.sel 3 [0] rfl)
    exact ⟨rfl, hS⟩
theorem t7_bal_all (nM : Nat) : ∀ (g w : World) (L : List HP) (A : AM) (R : List Int) (da fa : Option Addr) (dc fc : Nat) (i : Int) (t : Tr), (ARf A R) → (Is A t i) → (t.ok) → t.n = nM → St g (Sh 174 11 (sls (AM.dmp A)) da dc :: L) w → Sp Tryz.prog 153 [.agg #[.slice da (List.length (sls (AM.dmp A))) dc, .slice fa (List.length (u32s (SM.order A.s))) fc], .int .u32 i] w (fun v w' => v = .bool true ∧ St g (Sh 174 11 (sls (AM.dmp A)) da dc :: L) w') := by
  induction nM using Nat.strongRecOn with
  | _ nM ih => intro g w L A R da fa dc fc i t hA hi hb hM hS; exact t7_bal_step nM ih A R da fa dc fc i t hA hi hb hM hS
theorem t7_bal {g w : World} {L : List HP} (A : AM) (R : List Int) (da fa : Option Addr) (dc fc : Nat) (i : Int) (t : Tr) (hA : ARf A R) (hi : Is A t i) (hb : t.ok) (hS : St g (Sh 174 11 (sls (AM.dmp A)) da dc :: L) w) :
    Sp Tryz.prog 153 [.agg #[.slice da (List.length (sls (AM.dmp A))) dc, .slice fa (List.length (u32s (SM.order A.s))) fc], .int .u32 i] w (fun v w' => v = .bool true ∧ St g (Sh 174 11 (sls (AM.dmp A)) da dc :: L) w') := t7_bal_all _ g w L A R da fa dc fc i t hA hi hb rfl hS
set_option maxRecDepth 8192 in
theorem t7_check {g w : World} {L : List HP} (A : AM) (R : List Int) (da fa : Option Addr) (dc fc : Nat) (i : Int) (t : Tr) (hA : ARf A R) (hi : Is A t i) (hs : Srt t.ls) (hb : t.ok) (hS : St g (Sh 174 11 (sls (AM.dmp A)) da dc :: L) w) :
    Sp Tryz.prog 85 [.agg #[.slice da (List.length (sls (AM.dmp A))) dc, .slice fa (List.length (u32s (SM.order A.s))) fc], .int .u32 i] w (fun v w' => v = .int .i64 0 ∧ St g (Sh 174 11 (sls (AM.dmp A)) da dc :: L) w') := by
  refine Sp.enter Tryz.func85 rfl (by kernel_rfl) (by kernel_rfl) ?_
  refine WC.seq <| WC.region <| WL.box rfl rfl #[.slice da (List.length (sls (AM.dmp A))) dc, .slice fa (List.length (u32s (SM.order A.s))) fc] hS rfl rfl (fun b1 w hS => ?_)
  refine WL.r 1 rfl <| WL.nil <| WC.seq <| WC.seq <| WC.region ?_
  have hir := is_rng hA hi; have hn := dmp_n A; have hcr := cap_rng hA; have htc := tn_cap hA hi hs; have hrf := hi.ref
  refine WL.r 3 rfl ?_
  by_cases cg1 : i ≠ 0
  · refine WL.reb 8 (.bool true) (congrArg Value.bool (decide_eq_true cg1)) <| WL.ung rfl rfl rfl <| WL.ldF rfl rfl 0 hS rfl rfl ag_62 <| WL.ung rfl rfl rfl <| WL.r 1 rfl <| WL.ung rfl rfl rfl <| WL.call rfl rfl (c6_alloc (A := A) (da := da) (fa := fa) (dc := dc) (fc := fc) (i := i) (hA := hA) (hi := (by omega)) (hS := (hS.sel 2 [1, 0] rfl))) rfl ?_
    clear hS; rintro _ w ⟨b2, rfl, hS, f1⟩
    replace hS := hS.n2 L (a1 := cel b1 #[.slice da (List.length (sls (AM.dmp A))) dc, .slice fa (List.length (u32s (SM.order A.s))) fc] 62) rfl
    refine WL.ung rfl rfl rfl <| WL.r 1 rfl <| WL.r 1 rfl <| WL.nil ?_
    as_aux_lemma =>
    refine WC.ifF rfl (by have h9 := (hrf.resolve_left cg1).2; rw [← f1] at h9; rw [h9]; rfl) ?_
    refine WC.skip <| WC.seq <| WC.region <| WL.ldF rfl rfl 1 hS rfl rfl ag_62 <| WL.run 4 [.slice da (List.length (sls (AM.dmp A))) dc] rfl (by exact hS.ld 1 rfl rfl) ?_
    refine WL.nw 18 rfl (w64 (by omega)) ?_
    refine WL.r 1 rfl <| WL.nw 19 rfl (w64 (by omega)) ?_
    refine WL.build rfl rfl (cs := [.slice da (List.length (sls (AM.dmp A))) dc, .slice fa (List.length (u32s (SM.order A.s))) fc, .int .i64 0, .bool false, .int .i64 ((2 * (List.length (sls (AM.dmp A)) : Int)) + 2)]) zv_257 rfl rfl <| WL.box rfl rfl #[.slice da (List.length (sls (AM.dmp A))) dc, .slice fa (List.length (u32s (SM.order A.s))) fc, .int .i64 0, .bool false, .int .i64 ((2 * (List.length (sls (AM.dmp A)) : Int)) + 2)] hS rfl rfl (fun b3 w hS => ?_)
    refine WL.r 1 rfl <| WL.nil <| WC.seq <| WC.seq <| WC.region <| WL.r 2 rfl <| WL.call rfl rfl (t7_ord (A := A) (R := R) (da := da) (fa := fa) (dc := dc) (fc := fc) (p := b3) (i := i) (last := 0) (most := (2 * (List.length (sls (AM.dmp A)) : Int)) + 2) (any := false) (t := t) (hA := hA) (hi := hi) (hs := hs) (hl := (fun h => by cases h)) (hm := (by omega)) (hS := hS)) rfl ?_
    clear hS; rintro _ w ⟨last1, any1, rfl, hS, f2⟩
    replace hS := hS.n3 L (a0 := cel b3 #[.slice da (List.length (sls (AM.dmp A))) dc, .slice fa (List.length (u32s (SM.order A.s))) fc, .int .i64 last1, .bool any1, .int .i64 (((2 * (List.length (sls (AM.dmp A)) : Int)) + 2) - (t.n : Int))] 257) rfl
    refine WL.r 1 rfl <| WL.nil <| WC.ifF rfl rfl <| WC.skip <| WC.seq <| WC.seq <| WC.region <| WL.ldF rfl rfl 2 hS rfl rfl ag_62 <| WL.r 1 rfl <| WL.call rfl rfl (t7_bal (A := A) (da := da) (fa := fa) (dc := dc) (fc := fc) (i := i) (t := t) (hA := hA) (hi := hi) (hb := hb) (hS := (hS.sel 2 [1, 0] rfl))) rfl ?_
    clear hS; rintro _ w ⟨rfl, hS⟩
    replace hS := hS.n3 L rfl
    refine WL.r 1 rfl <| WL.nil ?_
    as_aux_lemma =>
    refine WC.ifF rfl rfl <| WC.skip <| WC.seq <| WC.region <| WL.r 1 rfl <| WL.nil <| WC.ret ?_
    refine ⟨[.int .i64 0], rfl, ?_⟩
    replace hS := (hS.sel 3 [0] rfl)
    exact ⟨rfl, hS⟩
  · refine WL.reb 8 (.bool false) (congrArg Value.bool (decide_eq_false cg1)) <| WL.skp rfl rfl rfl rfl <| WL.skp rfl rfl rfl rfl <| WL.skp rfl rfl rfl rfl <| WL.skp rfl rfl rfl rfl <| WL.r 1 rfl <| WL.nil <| WC.ifF rfl rfl <| WC.skip <| WC.seq <| WC.region <| WL.ldF rfl rfl 0 hS rfl rfl ag_62 ?_
    refine WL.run 4 [.slice da (List.length (sls (AM.dmp A))) dc] rfl (by exact hS.ld 0 rfl rfl) ?_
    refine WL.nw 18 rfl (w64 (by omega)) ?_
    refine WL.r 1 rfl <| WL.nw 19 rfl (w64 (by omega)) ?_
    refine WL.build rfl rfl (cs := [.slice da (List.length (sls (AM.dmp A))) dc, .slice fa (List.length (u32s (SM.order A.s))) fc, .int .i64 0, .bool false, .int .i64 ((2 * (List.length (sls (AM.dmp A)) : Int)) + 2)]) zv_257 rfl rfl <| WL.box rfl rfl #[.slice da (List.length (sls (AM.dmp A))) dc, .slice fa (List.length (u32s (SM.order A.s))) fc, .int .i64 0, .bool false, .int .i64 ((2 * (List.length (sls (AM.dmp A)) : Int)) + 2)] hS rfl rfl (fun b2 w hS => ?_)
    refine WL.r 1 rfl <| WL.nil ?_
    as_aux_lemma =>
    refine WC.seq <| WC.seq <| WC.region <| WL.r 2 rfl <| WL.call rfl rfl (t7_ord (A := A) (R := R) (da := da) (fa := fa) (dc := dc) (fc := fc) (p := b2) (i := i) (last := 0) (most := (2 * (List.length (sls (AM.dmp A)) : Int)) + 2) (any := false) (t := t) (hA := hA) (hi := hi) (hs := hs) (hl := (fun h => by cases h)) (hm := (by omega)) (hS := (hS.sel 3 [0, 1, 0] rfl))) rfl ?_
    clear hS; rintro _ w ⟨last1, any1, rfl, hS, f1⟩
    replace hS := hS.n3 L (a0 := cel b2 #[.slice da (List.length (sls (AM.dmp A))) dc, .slice fa (List.length (u32s (SM.order A.s))) fc, .int .i64 last1, .bool any1, .int .i64 (((2 * (List.length (sls (AM.dmp A)) : Int)) + 2) - (t.n : Int))] 257) (a2 := cel b1 #[.slice da (List.length (sls (AM.dmp A))) dc, .slice fa (List.length (u32s (SM.order A.s))) fc] 62) rfl
    refine WL.r 1 rfl <| WL.nil <| WC.ifF rfl rfl <| WC.skip <| WC.seq <| WC.seq <| WC.region <| WL.ldF rfl rfl 2 hS rfl rfl ag_62 <| WL.r 1 rfl <| WL.call rfl rfl (t7_bal (A := A) (da := da) (fa := fa) (dc := dc) (fc := fc) (i := i) (t := t) (hA := hA) (hi := hi) (hb := hb) (hS := (hS.sel 2 [1, 0] rfl))) rfl ?_
    clear hS; rintro _ w ⟨rfl, hS⟩
    replace hS := hS.n3 L rfl
    refine WL.r 1 rfl <| WL.nil <| WC.ifF rfl rfl <| WC.skip <| WC.seq <| WC.region <| WL.r 1 rfl <| WL.nil ?_
    as_aux_lemma =>
    refine WC.ret ?_
    refine ⟨[.int .i64 0], rfl, ?_⟩
    replace hS := (hS.sel 3 [0] rfl)
    exact ⟨rfl, hS⟩
set_option maxHeartbeats 1000000 in
set_option maxRecDepth 8192 in
theorem t7_list_step (nM : Nat) (ih : ∀ mM : Nat, mM < nM → ∀ (g w : World) (L : List HP) (A : AM) (R : List Int) (da fa : Option Addr) (dc fc : Nat) (i : Int) (t : Tr), (ARf A R) → (Is A t i) → (t.n ≤ 1000000) → t.n = mM → St g (Sh 174 11 (sls (AM.dmp A)) da dc :: L) w → Sp Tryz.prog 87 [.agg #[.slice da (List.length (sls (AM.dmp A))) dc, .slice fa (List.length (u32s (SM.order A.s))) fc], .int .u32 i] w (fun v w' => ∃ (u : Option Addr) (d : Nat), v = .slice u (List.length (en2 t.ls)) d ∧ St g (Own 121 2 (en2 t.ls) u d :: Sh 174 11 (sls (AM.dmp A)) da dc :: L) w')) {g w : World} {L : List HP} (A : AM) (R : List Int) (da fa : Option Addr) (dc fc : Nat) (i : Int) (t : Tr) (hA : ARf A R) (hi : Is A t i) (hn : t.n ≤ 1000000) (hM : t.n = nM) (hS : St g (Sh 174 11 (sls (AM.dmp A)) da dc :: L) w) :
    Sp Tryz.prog 87 [.agg #[.slice da (List.length (sls (AM.dmp A))) dc, .slice fa (List.length (u32s (SM.order A.s))) fc], .int .u32 i] w (fun v w' => ∃ (u : Option Addr) (d : Nat), v = .slice u (List.length (en2 t.ls)) d ∧ St g (Own 121 2 (en2 t.ls) u d :: Sh 174 11 (sls (AM.dmp A)) da dc :: L) w') := by
  refine Sp.enter Tryz.func87 rfl (by kernel_rfl) (by kernel_rfl) ?_
  have _ := hn
  refine WC.seq <| WC.region <| WL.box rfl rfl #[.slice da (List.length (sls (AM.dmp A))) dc, .slice fa (List.length (u32s (SM.order A.s))) fc] hS rfl rfl (fun b1 w hS => ?_)
  refine WL.r 1 rfl <| WL.nil <| WC.seq <| WC.seq <| WC.region ?_
  have hx0 := Is.nil_iff hi; have hir := is_rng hA hi
  refine WL.r 2 rfl <| WL.nil <| WC.ifP rfl (fun hx => ?_) (fun hx => ?_)
  · refine WC.seq <| WC.region ?_
    replace hS : St g (Own 121 2 (en2 []) none 0 :: cel b1 #[.slice da (List.length (sls (AM.dmp A))) dc, .slice fa (List.length (u32s (SM.order A.s))) fc] 62 :: Sh 174 11 (sls (AM.dmp A)) da dc :: L) w := hS.nil_ 121 2
    refine WL.r 1 rfl <| WL.nil <| WC.ret ?_
    refine ⟨[.slice none 0 0], rfl, ?_⟩
    replace hS := (hS.sel 2 [0] rfl)
    have h9 := hx0.1 hx; subst h9; exact ⟨none, 0, rfl, hS⟩
  · refine WC.skip <| WC.seq <| WC.region ?_
    obtain ⟨tl, k, z, tr, ht⟩ := nil_or (t := t) (fun e => hx (hx0.2 e)); have htn : t.n = tl.n + tr.n + 1 := (by rw [ht]; rfl); have hi2 : Is A (.node tl k z tr) i := ht ▸ hi; have e7 : ndD A i = A.nd i := ndD_ok hi2.2.1; have hl7 : Is A tl (ndD A i).lf := (by rw [e7]; exact hi2.2.2.2.2.1); have hr7 : Is A tr (ndD A i).rg := (by rw [e7]; exact hi2.2.2.2.2.2); have hlr := is_rng hA hl7; have hrr := is_rng hA hr7; have hle := en2_len tl.ls; have hll := Tr.ls_len tl; have hre := en2_len tr.ls; have hrl := Tr.ls_len tr
    refine WL.ldF rfl rfl 0 hS rfl rfl ag_62 <| WL.r 1 rfl <| WL.call rfl rfl (t7_node (A := A) (da := da) (fa := fa) (dc := dc) (fc := fc) (i := i) (hA := hA) (hi := (by omega)) (hS := (hS.sel 2 [1, 0] rfl))) rfl ?_
    clear hS; rintro _ w ⟨rfl, hS⟩
    replace hS := hS.n2 L (a1 := cel b1 #[.slice da (List.length (sls (AM.dmp A))) dc, .slice fa (List.length (u32s (SM.order A.s))) fc] 62) rfl
    refine WL.new rfl rfl zv_172 hS (fun b2 w hS => ?_)
    refine WL.stF rfl rfl rfl 0 hS rfl rfl rfl rfl rfl ag_172 (fun w hS => ?_)
    replace hS := hS.n3 L (a0 := cel b2 #[.int .i64 (ndD A i).key, .int .i64 (ndD A i).val, .int .u32 (ndD A i).lf, .int .u32 (ndD A i).rg, .int .i64 (ndD A i).size, .int .i64 (ndD A i).sum, .int .i64 (ndD A i).mn, .int .i64 (ndD A i).mx] 172) rfl
    refine WL.nil ?_
    as_aux_lemma =>
    refine WC.seq <| WC.tree (.two [0, 1, 4, 6, 2, 5, 7, 8] 3 [4, 5, 6, 7, 8] (.one [] 9 [0, 1, 2] (.one [] 10 [] (.seg [11] .nil))) 9 [0, 1, 2] (.one [] 3 [4, 5, 6, 7, 8] (.one [] 10 [] (.seg [11] .nil)))) (by kernel_rfl) (by kernel_rfl) ?_
    refine WQ.ldF rfl rfl 2 hS rfl rfl ag_62 <| WQ.run 6 [.int .u32 (ndD A i).lf, .int .i64 (ndD A i).key, .int .i64 (ndD A i).val] rfl (by exact ⟨hS.ld 0 rfl rfl, hS.ld 0 rfl rfl, hS.ld 0 rfl rfl⟩) ?_
    refine WQ.build rfl rfl (cs := [.int .i64 (ndD A i).key, .int .i64 (ndD A i).val]) zv_121 rfl rfl <| WQ.nil ?_
    intro m1
    replace hS := hS.drewN m1; generalize hwm1 : World.drewN _ _ = w at *; clear hwm1
    refine ⟨?_, ?_⟩
    · refine WL.call rfl rfl (ih (tl.n) (by omega) _ _ _ A R da fa dc fc (ndD A i).lf tl (hA) (hl7) ((by omega)) rfl (hS.sel 2 [1, 0] rfl)) rfl ?_
      clear hS; rintro _ w ⟨u1, d1, rfl, hS⟩
      replace hS := hS.n4 L (a0 := Own 121 2 (en2 tl.ls) u1 d1) rfl
      refine WL.nil ?_
      refine ⟨by exact ⟨RQ.pure rfl rfl rfl rfl, RQ.load rfl rfl rfl rfl (hS.ld 2 rfl rfl), RQ.pure rfl rfl rfl rfl, RQ.load rfl rfl rfl rfl (hS.ld 2 rfl rfl), RQ.build rfl rfl (cs := [.int .i64 (ndD A i).key, .int .i64 (ndD A i).val]) zv_121 rfl rfl rfl rfl⟩, ?_⟩
      refine WQ.nil ?_
      intro m2
      replace hS := hS.drewN m2; generalize hwm2 : World.drewN _ _ = w at *; clear hwm2
      refine WL.lit rfl rfl (en2 [((ndD A i).key, (ndD A i).val)]) el_49 hS (by exact ⟨rfl, rfl⟩) (en2_ok _) rfl (Nat.le_of_ble_eq_true rfl) (fun b3 w hS => ?_)
      refine WL.nil ?_
      refine ⟨by exact ⟨RQ.ldF rfl rfl 4 hS rfl rfl ag_62 rfl rfl, RQ.pure rfl rfl rfl rfl, RQ.load rfl rfl rfl rfl (hS.ld 3 rfl rfl)⟩, ?_⟩
      refine WQ.nil ?_
      intro m3
      replace hS := hS.drewN m3; generalize hwm3 : World.drewN _ _ = w at *; clear hwm3
      refine WL.app rfl rfl 1 (en2 (tl.ls ++ [((ndD A i).key, (ndD A i).val)])) el_49 hS rfl (hS.srcO 0 rfl) (en2_app _ _).symm (Rm.of (by first | omega | (simp <;> omega)) (by decide)) rfl rfl (fun a1 c1 w hS => ?_)
      replace hS := hS.n5 L (a0 := Own 121 2 (en2 [((ndD A i).key, (ndD A i).val)]) (some ⟨b3, 0, none⟩) (List.length (en2 [((ndD A i).key, (ndD A i).val)]))) (a1 := Own 121 2 (en2 (tl.ls ++ [((ndD A i).key, (ndD A i).val)])) a1 c1) rfl
      refine WL.nil ?_
      refine ⟨by exact trivial, ?_⟩
      refine WQ.r 1 rfl <| WQ.nil ?_
      intro m4
      replace hS := hS.drewN m4; generalize hwm4 : World.drewN _ _ = w at *; clear hwm4
      as_aux_lemma =>
      refine WC.seq <| WC.region <| WL.r 1 rfl <| WL.ldF rfl rfl 4 hS rfl rfl ag_62 <| WL.run 2 [.int .u32 (ndD A i).rg] rfl (by exact hS.ld 3 rfl rfl) ?_
      refine WL.call rfl rfl (ih (tr.n) (by omega) _ _ _ A R da fa dc fc (ndD A i).rg tr (hA) (hr7) ((by omega)) rfl (hS.sel 3 [2, 0, 0] rfl)) rfl ?_
      clear hS; rintro _ w ⟨u2, d2, rfl, hS⟩
      replace hS := hS.n6 L (a0 := Own 121 2 (en2 tr.ls) u2 d2) rfl
      refine WL.app rfl rfl 3 (en2 ((tl.ls ++ [((ndD A i).key, (ndD A i).val)]) ++ tr.ls)) el_49 hS rfl (hS.srcO 0 rfl) (en2_app _ _).symm (Rm.of (by first | omega | (simp <;> omega)) (by decide)) rfl rfl (fun a2 c2 w hS => ?_)
      replace hS := hS.n6 L (a3 := Own 121 2 (en2 ((tl.ls ++ [((ndD A i).key, (ndD A i).val)]) ++ tr.ls)) a2 c2) rfl
      refine WL.r 1 rfl <| WL.nil <| WC.ret ?_
      refine ⟨[.slice a2 (List.length (en2 ((tl.ls ++ [((ndD A i).key, (ndD A i).val)]) ++ tr.ls))) c2], rfl, ?_⟩
      replace hS := (hS.sel 6 [3, 1] rfl)
      have e9 : tl.ls ++ [((ndD A i).key, (ndD A i).val)] ++ tr.ls = t.ls := (by rw [ht, e7, hi2.2.2.1, hi2.2.2.2.1]; show _ = tl.ls ++ (k, z) :: tr.ls; simp); rw [e9] at hS ⊢; exact ⟨_, _, rfl, hS⟩
    · refine WL.lit rfl rfl (en2 [((ndD A i).key, (ndD A i).val)]) el_49 hS (by exact ⟨rfl, rfl⟩) (en2_ok _) rfl (Nat.le_of_ble_eq_true rfl) (fun b3 w hS => ?_)
      refine WL.nil ?_
      refine ⟨by exact ⟨RQ.ldF rfl rfl 3 hS rfl rfl ag_62 rfl rfl, RQ.pure rfl rfl rfl rfl, RQ.load rfl rfl rfl rfl (hS.ld 1 rfl rfl)⟩, ?_⟩
      refine WQ.nil ?_
      intro m2
      replace hS := hS.drewN m2; generalize hwm2 : World.drewN _ _ = w at *; clear hwm2
      refine WL.call rfl rfl (ih (tl.n) (by omega) _ _ _ A R da fa dc fc (ndD A i).lf tl (hA) (hl7) ((by omega)) rfl (hS.sel 3 [2, 0, 0] rfl)) rfl ?_
      clear hS; rintro _ w ⟨u1, d1, rfl, hS⟩
      replace hS := hS.n5 L (a0 := Own 121 2 (en2 tl.ls) u1 d1) (a2 := Own 121 2 (en2 [((ndD A i).key, (ndD A i).val)]) (some ⟨b3, 0, none⟩) (List.length (en2 [((ndD A i).key, (ndD A i).val)]))) rfl
      refine WL.nil ?_
      refine ⟨by exact ⟨RQ.pure rfl rfl rfl rfl, RQ.load rfl rfl rfl rfl (hS.ld 3 rfl rfl), RQ.pure rfl rfl rfl rfl, RQ.load rfl rfl rfl rfl (hS.ld 3 rfl rfl), RQ.build rfl rfl (cs := [.int .i64 (ndD A i).key, .int .i64 (ndD A i).val]) zv_121 rfl rfl rfl rfl⟩, ?_⟩
      refine WQ.nil ?_
      intro m3
      replace hS := hS.drewN m3; generalize hwm3 : World.drewN _ _ = w at *; clear hwm3
      refine WL.app rfl rfl 0 (en2 (tl.ls ++ [((ndD A i).key, (ndD A i).val)])) el_49 hS rfl (hS.srcO 2 rfl) (en2_app _ _).symm (Rm.of (by first | omega | (simp <;> omega)) (by decide)) rfl rfl (fun a1 c1 w hS => ?_)
      replace hS := hS.n5 L (a0 := Own 121 2 (en2 (tl.ls ++ [((ndD A i).key, (ndD A i).val)])) a1 c1) rfl
      refine WL.nil ?_
      refine ⟨by exact trivial, ?_⟩
      refine WQ.r 1 rfl <| WQ.nil ?_
      intro m4
      replace hS := hS.drewN m4; generalize hwm4 : World.drewN _ _ = w at *; clear hwm4
      as_aux_lemma =>
      refine WC.seq <| WC.region <| WL.r 1 rfl <| WL.ldF rfl rfl 4 hS rfl rfl ag_62 <| WL.run 2 [.int .u32 (ndD A i).rg] rfl (by exact hS.ld 3 rfl rfl) ?_
      refine WL.call rfl rfl (ih (tr.n) (by omega) _ _ _ A R da fa dc fc (ndD A i).rg tr (hA) (hr7) ((by omega)) rfl (hS.sel 2 [1, 0] rfl)) rfl ?_
      clear hS; rintro _ w ⟨u2, d2, rfl, hS⟩
      replace hS := hS.n6 L (a0 := Own 121 2 (en2 tr.ls) u2 d2) rfl
      refine WL.app rfl rfl 2 (en2 ((tl.ls ++ [((ndD A i).key, (ndD A i).val)]) ++ tr.ls)) el_49 hS rfl (hS.srcO 0 rfl) (en2_app _ _).symm (Rm.of (by first | omega | (simp <;> omega)) (by decide)) rfl rfl (fun a2 c2 w hS => ?_)
      replace hS := hS.n6 L (a2 := Own 121 2 (en2 ((tl.ls ++ [((ndD A i).key, (ndD A i).val)]) ++ tr.ls)) a2 c2) rfl
      refine WL.r 1 rfl <| WL.nil <| WC.ret ?_
      refine ⟨[.slice a2 (List.length (en2 ((tl.ls ++ [((ndD A i).key, (ndD A i).val)]) ++ tr.ls))) c2], rfl, ?_⟩
      replace hS := (hS.sel 6 [2, 1] rfl)
      have e9 : tl.ls ++ [((ndD A i).key, (ndD A i).val)] ++ tr.ls = t.ls := (by rw [ht, e7, hi2.2.2.1, hi2.2.2.2.1]; show _ = tl.ls ++ (k, z) :: tr.ls; simp); rw [e9] at hS ⊢; exact ⟨_, _, rfl, hS⟩
theorem t7_list_all (nM : Nat) : ∀ (g w : World) (L : List HP) (A : AM) (R : List Int) (da fa : Option Addr) (dc fc : Nat) (i : Int) (t : Tr), (ARf A R) → (Is A t i) → (t.n ≤ 1000000) → t.n = nM → St g (Sh 174 11 (sls (AM.dmp A)) da dc :: L) w → Sp Tryz.prog 87 [.agg #[.slice da (List.length (sls (AM.dmp A))) dc, .slice fa (List.length (u32s (SM.order A.s))) fc], .int .u32 i] w (fun v w' => ∃ (u : Option Addr) (d : Nat), v = .slice u (List.length (en2 t.ls)) d ∧ St g (Own 121 2 (en2 t.ls) u d :: Sh 174 11 (sls (AM.dmp A)) da dc :: L) w') := by
  induction nM using Nat.strongRecOn with
  | _ nM ih => intro g w L A R da fa dc fc i t hA hi hn hM hS; exact t7_list_step nM ih A R da fa dc fc i t hA hi hn hM hS
theorem t7_list {g w : World} {L : List HP} (A : AM) (R : List Int) (da fa : Option Addr) (dc fc : Nat) (i : Int) (t : Tr) (hA : ARf A R) (hi : Is A t i) (hn : t.n ≤ 1000000) (hS : St g (Sh 174 11 (sls (AM.dmp A)) da dc :: L) w) :
    Sp Tryz.prog 87 [.agg #[.slice da (List.length (sls (AM.dmp A))) dc, .slice fa (List.length (u32s (SM.order A.s))) fc], .int .u32 i] w (fun v w' => ∃ (u : Option Addr) (d : Nat), v = .slice u (List.length (en2 t.ls)) d ∧ St g (Own 121 2 (en2 t.ls) u d :: Sh 174 11 (sls (AM.dmp A)) da dc :: L) w') := t7_list_all _ g w L A R da fa dc fc i t hA hi hn rfl hS
set_option maxRecDepth 8192 in
theorem t7_tree {g w : World} {L : List HP} (A : AM) (R : List Int) (da fa : Option Addr) (dc fc : Nat) (i : Int) (t : Tr) (l : Kvs) (u : Option Addr) (d : Nat) (hA : ARf A R) (hi : Is A t i) (hs : Srt t.ls) (hb : t.ok) (hl : t.ls = l) (hS : St g (Sh 174 11 (sls (AM.dmp A)) da dc :: Sh 121 2 (en2 l) u d :: L) w) :
    Sp Tryz.prog 23 [.agg #[.slice da (List.length (sls (AM.dmp A))) dc, .slice fa (List.length (u32s (SM.order A.s))) fc], .int .u32 i, .slice u (List.length (en2 l)) d] w (fun v w' => v = .bool true ∧ St g (Sh 174 11 (sls (AM.dmp A)) da dc :: Sh 121 2 (en2 l) u d :: L) w') := by
  refine Sp.enter Tryz.func23 rfl (by kernel_rfl) (by kernel_rfl) ?_
  refine WC.seq <| WC.region <| WL.box rfl rfl #[.slice da (List.length (sls (AM.dmp A))) dc, .slice fa (List.length (u32s (SM.order A.s))) fc] hS rfl rfl (fun b1 w hS => ?_)
  refine WL.r 1 rfl <| WL.nil <| WC.seq <| WC.seq <| WC.region ?_
  have hir := is_rng hA hi; have hll := Tr.ls_len t; have hel := en2_len l; have hlt : l.length = t.n := (by rw [← hl]; exact hll); have htc := tn_cap hA hi hs; have hcr := cap_rng hA; have hz : (ndD A i).size = (t.n : Int) := (by rw [ndD_sz, Is.sz hA t _ hi]); have htl := en2_len t.ls
  refine WL.ldF rfl rfl 0 hS rfl rfl ag_62 <| WL.r 1 rfl <| WL.call rfl rfl (t7_check (A := A) (da := da) (fa := fa) (dc := dc) (fc := fc) (i := i) (t := t) (hA := hA) (hi := hi) (hs := hs) (hb := hb) (hS := (hS.sel 2 [1, 0] rfl))) rfl ?_
  clear hS; rintro _ w ⟨rfl, hS⟩
  replace hS := hS.n3 L (a1 := cel b1 #[.slice da (List.length (sls (AM.dmp A))) dc, .slice fa (List.length (u32s (SM.order A.s))) fc] 62) rfl
  refine WL.r 2 rfl <| WL.reb 13 (.bool false) (congrArg Value.bool (decide_eq_false (by decide))) ?_
  refine WL.ung rfl rfl rfl <| WL.ldF rfl rfl 1 hS rfl rfl ag_62 <| WL.ung rfl rfl rfl <| WL.r 1 rfl <| WL.ung rfl rfl rfl <| WL.call rfl rfl (t7_node (A := A) (R := R) (da := da) (fa := fa) (dc := dc) (fc := fc) (i := i) (hA := hA) (hi := (by omega)) (hS := hS)) rfl ?_
  clear hS; rintro _ w ⟨rfl, hS⟩
  replace hS := hS.n3 L rfl
  refine WL.ung rfl rfl rfl <| WL.r 1 rfl <| WL.ung rfl rfl rfl <| WL.r 1 rfl <| WL.ung rfl rfl rfl <| WL.r 1 rfl <| WL.ung rfl rfl rfl <| WL.r 2 rfl <| WL.nil ?_
  as_aux_lemma =>
  refine WC.ifF rfl (decide_eq_false ((by omega))) ?_
  refine WC.skip <| WC.seq <| WC.region <| WL.ldF rfl rfl 1 hS rfl rfl ag_62 <| WL.r 1 rfl <| WL.call rfl rfl (t7_list (A := A) (da := da) (fa := fa) (dc := dc) (fc := fc) (i := i) (t := t) (hA := hA) (hi := hi) (hn := (by omega)) (hS := hS)) rfl ?_
  clear hS; rintro _ w ⟨u1, d1, rfl, hS⟩
  replace hS := hS.n4 L (a0 := Own 121 2 (en2 t.ls) u1 d1) rfl
  refine WL.r 1 rfl <| WL.nil <| WC.seq <| WC.seq <| WC.region <| WL.r 5 rfl <| WL.nil <| WC.ifF rfl (decide_eq_false ((by omega))) ?_
  refine WC.skip <| WC.seq <| WC.seq <| WC.region <| WL.r 1 rfl <| WL.nil <| WC.block <| WC.loop [2, 7, 8] (fun kM vs w => ∃ (k : Nat), vs = [.slice u (List.length (en2 l)) d, .slice u1 (List.length (en2 t.ls)) d1, .int .i64 (k : Int)] ∧ St g (Own 121 2 (en2 t.ls) u1 d1 :: Sh 174 11 (sls (AM.dmp A)) da dc :: cel b1 #[.slice da (List.length (sls (AM.dmp A))) dc, .slice fa (List.length (u32s (SM.order A.s))) fc] 62 :: Sh 121 2 (en2 l) u d :: L) w ∧ (k ≤ l.length) ∧ (l.length - k) = kM) ((List.length l) - 0) ⟨0, rfl, hS, (Nat.zero_le _), rfl⟩ ?_
  clear hS; rintro _ _ w j ⟨k, rfl, hS, hk, rfl⟩
  refine WC.seq <| WC.seq <| WC.region <| WL.r 4 rfl <| WL.nil ?_
  as_aux_lemma =>
  refine WC.ifP rfl (fun cd1 => ?_) (fun cd1 => ?_)
  · refine WC.skip <| WC.seq <| WC.block <| WC.seq <| WC.plan [([0, 1, 4, 5, 2, 6, 3, 7, 8], none)] (by kernel_rfl) (by kernel_rfl) ?_
    refine WQ.r 4 rfl ?_
    obtain ⟨x, hx⟩ : ∃ x, l[k]? = some x := ⟨_, List.getElem?_eq_getElem (by omega)⟩; have hx2 : t.ls[k]? = some x := (by rw [hl]; exact hx)
    refine WQ.ix rfl rfl (i := (k : Int)) (k) el_49 rfl rfl (by omega) (by omega) (hS.rdS 3 rfl (en2_at hx)).1 ?_
    refine WQ.ix rfl rfl (i := (k : Int)) (k) el_49 rfl rfl (by omega) (by omega) (hS.rdO 0 rfl (en2_at hx2)).1 ?_
    refine WQ.ldC rfl rfl [.int .i64 x.1, .int .i64 x.2] ag_121 rfl (hS.rdS 3 rfl (en2_at hx)).2 <| WQ.ldC rfl rfl [.int .i64 x.1, .int .i64 x.2] ag_121 rfl (hS.rdO 0 rfl (en2_at hx2)).2 <| WQ.neS rfl rfl eq_121 (xs := [.int .i64 x.1, .int .i64 x.2]) (ys := [.int .i64 x.1, .int .i64 x.2]) rfl rfl rfl rfl <| WQ.prop 44 rfl (bnot (band (dd _) (dd _))) <| WQ.nil ?_
    intro m1
    replace hS := hS.drewN m1; generalize hwm1 : World.drewN _ _ = w at *; clear hwm1
    refine WC.ifF rfl (decide_eq_false ((by simp))) ?_
    refine WC.skip <| WC.region <| WL.r 2 rfl <| WL.nw 35 rfl (w64 (by omega)) ?_
    refine WL.r 1 rfl <| WL.nil ?_
    exact ⟨_, by omega, k + 1, rfl, hS, (by omega), rfl⟩
  · refine WC.exit <| WC.seq <| WC.region <| WL.r 1 rfl <| WL.nil <| WC.ret ?_
    refine ⟨[.bool true], rfl, ?_⟩
    replace hS := (hS.sel 3 [1] rfl)
    exact ⟨rfl, hS⟩
end Go.Proofs.YtbeacjcmdijdmaaGreat
/-! ## U5 -/
namespace Go.Proofs.YtbeacjcmdijdmaaGreat
open Go Go.V Go.RowKit Go.Maps
def bsN (V : VM) (x y : Int) : Int := if V.T.s.opn x = true ∧ V.T.s.opn y = true then baseG V.xs (V.T.val x) (V.T.val y) else 0
def bsE (T : TM) (x y : Int) : Int := if T.s.opn x = true ∧ T.s.opn y = true then 0 else 5
theorem rootOf_no {V : VM} {z : Int} (h : ∀ r ∈ V.rs, r.n ≠ z) : V.rootOf z = 0 := by
  unfold VM.rootOf
  rw [List.find?_eq_none.2 fun r hr e => h r hr (of_decide_eq_true e)]; rfl
theorem opn_5 {b : Bool} (h : (if b = true then (0 : Int) else 5) ≠ 0) : b = false := by
  cases b with
  | false => rfl
  | true => exact absurd rfl h
theorem opn_0 {b : Bool} (h : ¬ (if b = true then (0 : Int) else 5) ≠ 0) : b = true := by
  cases b with
  | true => rfl
  | false => exact absurd (by decide) h
theorem bs_1 {T : TM} {x y : Int} (h : T.s.opn x = false) : bsE T x y = 5 := if_neg fun k => by rw [k.1] at h; cases h
theorem bs_2 {T : TM} {x y : Int} (h : T.s.opn y = false) : bsE T x y = 5 := if_neg fun k => by rw [k.2] at h; cases h
theorem bs_3 {T : TM} {x y : Int} (h : T.s.opn x = true) (k : T.s.opn y = true) : bsE T x y = 0 := if_pos ⟨h, k⟩
theorem bn_1 {V : VM} {x y : Int} (h : V.T.s.opn x = false) : bsN V x y = 0 := if_neg fun k => by rw [k.1] at h; cases h
theorem bn_2 {V : VM} {x y : Int} (h : V.T.s.opn y = false) : bsN V x y = 0 := if_neg fun k => by rw [k.2] at h; cases h
theorem bn_3 {V : VM} {x y : Int} (h : V.T.s.opn x = true) (k : V.T.s.opn y = true) : bsN V x y = baseG V.xs (V.T.val x) (V.T.val y) := if_pos ⟨h, k⟩
theorem VI.no0 {V : VM} {A : AM} {R : List Int} (h : VI V A R) : ∀ r ∈ V.rs, r.n ≠ 0 := fun r hr e => by
  have h1 := (h.pre r.n).1 ⟨r, hr, rfl⟩
  rw [pre_vw] at h1
  have := h.g.ok.pos r.n h1
  omega
theorem rs_cases {V : VM} (b : Int) : (∃ (j : Nat) (r : RN), V.rs[j]? = some r ∧ r.n = b) ∨ ∀ r ∈ V.rs, r.n ≠ b := ki_cases RN.n V.rs b
theorem if5_t {b : Bool} (h : b = false) : (if b = true then (0 : Int) else 5) ≠ 0 := by subst h; decide
theorem if5_f {b : Bool} (h : b = true) : ¬ (if b = true then (0 : Int) else 5) ≠ 0 := by subst h; decide
set_option maxRecDepth 8192 in
theorem vs_base_n1 {g w : World} {L : List HP} (s a : Nat) (V : VM) (A : AM) (R : List Int) (x y : Int) (hV : VI V A R) (hx : 0 ≤ x ∧ x ≤ 18446744073709551615) (hy : 0 ≤ y ∧ y ≤ 18446744073709551615) (hn : V.T.s.opn x = false) (hS : St g (Vst s a V :: L) w) :
    Sp Tryz.prog 21 [.pointer (some ⟨s, 0, none⟩), .int .u64 x, .int .u64 y] w (fun v w' => v = .tuple #[.int .u32 (V.rootOf (bsN V x y)), .int .i64 (bsN V x y), .int .i64 (bsE V.T x y)] ∧ St g (Vst s a V :: L) w') := by
  refine Sp.enter Tryz.func21 rfl (by kernel_rfl) (by kernel_rfl) ?_
  have _ := hy
  refine WC.seq <| WC.region <| WL.r 3 rfl <| WL.nil <| WC.seq <| WC.region <| WL.r 2 rfl <| WL.call rfl rfl (vs_num (s := s) (a := a) (V := V) (h := x) (hT := hV.t) (hh := hx) (hS := hS)) rfl ?_
  clear hS; rintro _ w ⟨rfl, hS⟩
  replace hS := hS.n1 L rfl
  refine WL.r 5 rfl <| WL.nil <| WC.seq <| WC.seq <| WC.region <| WL.r 2 rfl <| WL.nil <| WC.ifT rfl (decide_eq_true ((if5_t hn))) <| WC.seq <| WC.region <| WL.r 4 rfl <| WL.nil ?_
  refine WC.ret ?_
  refine ⟨[.int .u32 0, .int .i64 0, .int .i64 (if V.T.s.opn x = true then 0 else 5)], ⟨rfl, rfl, rfl⟩, ?_⟩
  exact ⟨by rw [bn_1 hn, bs_1 hn, rootOf_no (VI.no0 hV), if_neg (by rw [hn]; decide)]; rfl, hS⟩
set_option maxRecDepth 8192 in
theorem vs_base_n2 {g w : World} {L : List HP} (s a : Nat) (V : VM) (A : AM) (R : List Int) (x y : Int) (hV : VI V A R) (hx : 0 ≤ x ∧ x ≤ 18446744073709551615) (hy : 0 ≤ y ∧ y ≤ 18446744073709551615) (hm : V.T.s.opn x = true) (hn : V.T.s.opn y = false) (hS : St g (Vst s a V :: L) w) :
    Sp Tryz.prog 21 [.pointer (some ⟨s, 0, none⟩), .int .u64 x, .int .u64 y] w (fun v w' => v = .tuple #[.int .u32 (V.rootOf (bsN V x y)), .int .i64 (bsN V x y), .int .i64 (bsE V.T x y)] ∧ St g (Vst s a V :: L) w') := by
  refine Sp.enter Tryz.func21 rfl (by kernel_rfl) (by kernel_rfl) ?_
  refine WC.seq <| WC.region <| WL.r 3 rfl <| WL.nil <| WC.seq <| WC.region <| WL.r 2 rfl <| WL.call rfl rfl (vs_num (s := s) (a := a) (V := V) (h := x) (hT := hV.t) (hh := hx) (hS := hS)) rfl ?_
  clear hS; rintro _ w ⟨rfl, hS⟩
  replace hS := hS.n1 L rfl
  refine WL.r 5 rfl <| WL.nil <| WC.seq <| WC.seq <| WC.region <| WL.r 2 rfl <| WL.nil <| WC.ifF rfl (decide_eq_false ((if5_f hm))) <| WC.skip <| WC.seq <| WC.region <| WL.r 2 rfl ?_
  refine WL.call rfl rfl (vs_num (s := s) (a := a) (V := V) (h := y) (hT := hV.t) (hh := hy) (hS := hS)) rfl ?_
  clear hS; rintro _ w ⟨rfl, hS⟩
  replace hS := hS.n1 L rfl
  refine WL.r 5 rfl <| WL.nil ?_
  as_aux_lemma =>
  refine WC.seq <| WC.seq <| WC.region <| WL.r 2 rfl <| WL.nil <| WC.ifT rfl (decide_eq_true ((if5_t hn))) <| WC.seq <| WC.region <| WL.r 4 rfl <| WL.nil <| WC.ret ?_
  refine ⟨[.int .u32 0, .int .i64 0, .int .i64 (if V.T.s.opn y = true then 0 else 5)], ⟨rfl, rfl, rfl⟩, ?_⟩
  exact ⟨by rw [bn_2 hn, bs_2 hn, rootOf_no (VI.no0 hV), if_neg (by rw [hn]; decide)]; rfl, hS⟩
set_option maxRecDepth 8192 in
theorem vs_base_out {g w : World} {L : List HP} (s a : Nat) (V : VM) (A : AM) (R : List Int) (x y : Int) (hV : VI V A R) (hx : 0 ≤ x ∧ x ≤ 18446744073709551615) (hy : 0 ≤ y ∧ y ≤ 18446744073709551615) (hm : V.T.s.opn x = true) (hn : V.T.s.opn y = true) (ho : ∀ r ∈ V.rs, r.n ≠ baseG V.xs (V.T.val x) (V.T.val y)) (hS : St g (Vst s a V :: L) w) :
    Sp Tryz.prog 21 [.pointer (some ⟨s, 0, none⟩), .int .u64 x, .int .u64 y] w (fun v w' => v = .tuple #[.int .u32 (V.rootOf (bsN V x y)), .int .i64 (bsN V x y), .int .i64 (bsE V.T x y)] ∧ St g (Vst s a V :: L) w') := by
  refine Sp.enter Tryz.func21 rfl (by kernel_rfl) (by kernel_rfl) ?_
  refine WC.seq <| WC.region <| WL.r 3 rfl <| WL.nil <| WC.seq <| WC.region <| WL.r 2 rfl <| WL.call rfl rfl (vs_num_ok (s := s) (a := a) (V := V) (h := x) (hT := hV.t) (hh := hx) (hn := hm) (hS := hS)) rfl ?_
  clear hS; rintro _ w ⟨rfl, hS⟩
  replace hS := hS.n1 L rfl
  refine WL.r 5 rfl <| WL.nil <| WC.seq <| WC.seq <| WC.region <| WL.r 2 rfl <| WL.nil <| WC.ifF rfl (decide_eq_false ((by decide))) ?_
  refine WC.skip <| WC.seq <| WC.region <| WL.r 2 rfl <| WL.call rfl rfl (vs_num_ok (s := s) (a := a) (V := V) (h := y) (hT := hV.t) (hh := hy) (hn := hn) (hS := hS)) rfl ?_
  clear hS; rintro _ w ⟨rfl, hS⟩
  replace hS := hS.n1 L rfl
  refine WL.r 5 rfl <| WL.nil ?_
  as_aux_lemma =>
  refine WC.seq <| WC.seq <| WC.region <| WL.r 2 rfl <| WL.nil <| WC.ifF rfl (decide_eq_false ((by decide))) ?_
  refine WC.skip <| WC.seq <| WC.region ?_
  obtain ⟨⟨vt, vp, vm, vr⟩, hS⟩ := St.exOpen (f := vstF s a V) hS
  replace hS : St g (cel s #[.pointer (some ⟨a, 0, none⟩), .pointer (some ⟨vt, 0, none⟩), .pointer (some ⟨vp, 0, none⟩), .map (some vr), .int .i64 V.cap] 144 :: Tbl vt V.T :: cel vp #[.int .i64 V.cap, .int .i64 V.last, .map (some vm)] 231 :: blk vm (.map (mE (List.map vK V.xs)) V.q) :: Shs vF V.xs :: blk vr (.map (mE (List.map rK V.rs)) V.q2) :: L) w := hS
  refine WL.run 7 [.pointer (some ⟨vp, 0, none⟩)] rfl (by exact hS.ld 0 rfl rfl) ?_
  refine WL.call rfl rfl (base_spec (p := vp) (m := vm) (cap := V.cap) (last := V.last) (xs := V.xs) (q := V.q) (n1 := V.T.val x) (n2 := V.T.val y) (hG := hV.g.ok) (hS := (hS.sel 5 [2, 2, 2, 0, 0] rfl))) rfl ?_
  clear hS; rintro _ w ⟨rfl, hS⟩
  replace hS := hS.n6 L rfl
  refine WL.r 1 rfl <| WL.nil <| WC.seq <| WC.region <| WL.run 6 [.map (some vr)] rfl (by exact hS.ld 3 rfl rfl) ?_
  refine WL.lk rfl rfl mt_140 5 hS rfl rfl rfl (by first | trivial | rfl) (r := none) (ki_out hV.k.key ho) rfl ?_
  refine WL.r 4 rfl <| WL.nil <| WC.ret ?_
  replace hS := St.exClose (f := vstF s a V) (L := L) ⟨vt, vp, vm, vr⟩ ((hS.sel 5 [3, 3, 0, 0, 0] rfl))
  replace hS : St g (Vst s a V :: L) w := hS
  refine ⟨[.int .u32 0, .int .i64 (baseG V.xs (V.T.val x) (V.T.val y)), .int .i64 0], ⟨rfl, rfl, rfl⟩, ?_⟩
  exact ⟨by rw [bn_3 hm hn, bs_3 hm hn, rootOf_no ho]; rfl, hS⟩
set_option maxRecDepth 8192 in
theorem vs_base_in {g w : World} {L : List HP} (s a : Nat) (V : VM) (A : AM) (R : List Int) (x y : Int) (j : Nat) (r : RN) (hV : VI V A R) (hx : 0 ≤ x ∧ x ≤ 18446744073709551615) (hy : 0 ≤ y ∧ y ≤ 18446744073709551615) (hm : V.T.s.opn x = true) (hn : V.T.s.opn y = true) (hr : V.rs[j]? = some r) (hrn : r.n = baseG V.xs (V.T.val x) (V.T.val y)) (hS : St g (Vst s a V :: L) w) :
    Sp Tryz.prog 21 [.pointer (some ⟨s, 0, none⟩), .int .u64 x, .int .u64 y] w (fun v w' => v = .tuple #[.int .u32 (V.rootOf (bsN V x y)), .int .i64 (bsN V x y), .int .i64 (bsE V.T x y)] ∧ St g (Vst s a V :: L) w') := by
  refine Sp.enter Tryz.func21 rfl (by kernel_rfl) (by kernel_rfl) ?_
  refine WC.seq <| WC.region <| WL.r 3 rfl <| WL.nil <| WC.seq <| WC.region <| WL.r 2 rfl <| WL.call rfl rfl (vs_num_ok (s := s) (a := a) (V := V) (h := x) (hT := hV.t) (hh := hx) (hn := hm) (hS := hS)) rfl ?_
  clear hS; rintro _ w ⟨rfl, hS⟩
  replace hS := hS.n1 L rfl
  refine WL.r 5 rfl <| WL.nil <| WC.seq <| WC.seq <| WC.region <| WL.r 2 rfl <| WL.nil <| WC.ifF rfl (decide_eq_false ((by decide))) ?_
  refine WC.skip <| WC.seq <| WC.region <| WL.r 2 rfl <| WL.call rfl rfl (vs_num_ok (s := s) (a := a) (V := V) (h := y) (hT := hV.t) (hh := hy) (hn := hn) (hS := hS)) rfl ?_
  clear hS; rintro _ w ⟨rfl, hS⟩
  replace hS := hS.n1 L rfl
  refine WL.r 5 rfl <| WL.nil ?_
  as_aux_lemma =>
  refine WC.seq <| WC.seq <| WC.region <| WL.r 2 rfl <| WL.nil <| WC.ifF rfl (decide_eq_false ((by decide))) ?_
  refine WC.skip <| WC.seq <| WC.region ?_
  obtain ⟨⟨vt, vp, vm, vr⟩, hS⟩ := St.exOpen (f := vstF s a V) hS
  replace hS : St g (cel s #[.pointer (some ⟨a, 0, none⟩), .pointer (some ⟨vt, 0, none⟩), .pointer (some ⟨vp, 0, none⟩), .map (some vr), .int .i64 V.cap] 144 :: Tbl vt V.T :: cel vp #[.int .i64 V.cap, .int .i64 V.last, .map (some vm)] 231 :: blk vm (.map (mE (List.map vK V.xs)) V.q) :: Shs vF V.xs :: blk vr (.map (mE (List.map rK V.rs)) V.q2) :: L) w := hS
  refine WL.run 7 [.pointer (some ⟨vp, 0, none⟩)] rfl (by exact hS.ld 0 rfl rfl) ?_
  refine WL.call rfl rfl (base_spec (p := vp) (m := vm) (cap := V.cap) (last := V.last) (xs := V.xs) (q := V.q) (n1 := V.T.val x) (n2 := V.T.val y) (hG := hV.g.ok) (hS := (hS.sel 5 [2, 2, 2, 0, 0] rfl))) rfl ?_
  clear hS; rintro _ w ⟨rfl, hS⟩
  replace hS := hS.n6 L rfl
  refine WL.r 1 rfl <| WL.nil <| WC.seq <| WC.region <| WL.run 6 [.map (some vr)] rfl (by exact hS.ld 3 rfl rfl) ?_
  refine WL.lk rfl rfl mt_140 5 hS rfl rfl rfl (by first | trivial | rfl) (r := some (j, .int .u32 r.root)) (hrn ▸ ki_in hV.k.key hV.k.uniq hr) rfl ?_
  refine WL.r 4 rfl <| WL.nil <| WC.ret ?_
  replace hS := St.exClose (f := vstF s a V) (L := L) ⟨vt, vp, vm, vr⟩ ((hS.sel 5 [3, 3, 0, 0, 0] rfl))
  replace hS : St g (Vst s a V :: L) w := hS
  refine ⟨[.int .u32 r.root, .int .i64 (baseG V.xs (V.T.val x) (V.T.val y)), .int .i64 0], ⟨rfl, rfl, rfl⟩, ?_⟩
  exact ⟨by rw [bn_3 hm hn, bs_3 hm hn, ← hrn, VM.rootOf_at hV.k.uniq hr]; rfl, hS⟩
set_option maxRecDepth 8192 in
theorem vs_base {g w : World} {L : List HP} (s a : Nat) (V : VM) (A : AM) (R : List Int) (x y : Int) (hV : VI V A R) (hx : 0 ≤ x ∧ x ≤ 18446744073709551615) (hy : 0 ≤ y ∧ y ≤ 18446744073709551615) (hS : St g (Vst s a V :: L) w) :
    Sp Tryz.prog 21 [.pointer (some ⟨s, 0, none⟩), .int .u64 x, .int .u64 y] w (fun v w' => v = .tuple #[.int .u32 (V.rootOf (bsN V x y)), .int .i64 (bsN V x y), .int .i64 (bsE V.T x y)] ∧ St g (Vst s a V :: L) w') := by
  cases h1 : V.T.s.opn x with
  | false => exact vs_base_n1 s a V A R x y hV hx hy h1 hS
  | true =>
    cases h2 : V.T.s.opn y with
    | false => exact vs_base_n2 s a V A R x y hV hx hy h1 h2 hS
    | true =>
      rcases rs_cases (V := V) (baseG V.xs (V.T.val x) (V.T.val y)) with ⟨j, r, hr, hn⟩ | ho
      · exact vs_base_in s a V A R x y j r hV hx hy h1 h2 hr hn hS
      · exact vs_base_out s a V A R x y hV hx hy h1 h2 ho hS
noncomputable def qbN (z : RSt) (x y : Int) : Int := if z.T.s.opn x = true ∧ z.T.s.opn y = true then baseR z.P z.B (z.T.val x) (z.T.val y) else 0
theorem qn_1 {z : RSt} {x y : Int} (h : z.T.s.opn x = false) : qbN z x y = 0 := if_neg fun k => by rw [k.1] at h; cases h
theorem qn_2 {z : RSt} {x y : Int} (h : z.T.s.opn y = false) : qbN z x y = 0 := if_neg fun k => by rw [k.2] at h; cases h
theorem qn_3 {z : RSt} {x y : Int} (h : z.T.s.opn x = true) (k : z.T.s.opn y = true) : qbN z x y = baseR z.P z.B (z.T.val x) (z.T.val y) := if_pos ⟨h, k⟩
set_option maxRecDepth 8192 in
theorem qs_base {g w : World} {L : List HP} (z : RSt) (x y : Int) (hz : ROk z) (hx : 0 ≤ x ∧ x ≤ 18446744073709551615) (hy : 0 ≤ y ∧ y ≤ 18446744073709551615) (hb : qbN z x y ≠ 0 → ∃ (k : Nat) (l : LsE), qbN z x y = (k : Int) + 1 ∧ z.LL[k]? = some l) (hS : St g (Shs rsF [z] :: L) w) :
    Sp Tryz.prog 22 [.agg #[.int .i64 z.cap, .int .i64 z.T.s.cap, .slice z.ra (List.length (u32s z.T.s.rel)) z.rc, .int .i64 (z.T.s.fresh + 1), .slice z.ga (List.length (u32s (z.T.s.gen.drop 1))) z.gc, .slice z.oa (List.length (bos (z.T.s.used.drop 1))) z.oc, .slice z.va (List.length (u32s (z.T.vals.drop 1))) z.vc, .int .i64 z.cap, .slice z.pa (List.length (enP z.P)) z.pc, .slice z.ba (List.length (bos z.B)) z.bc, .slice z.la (List.length (enL z.LL)) z.lc], .int .u64 x, .int .u64 y] w (fun v w' => ∃ (l : LsE), v = .tuple #[.slice l.a (List.length (en2 l.es)) l.c, .int .i64 (qbN z x y), .int .i64 (bsE z.T x y)] ∧ St g (Shs rsF [z] :: Sh 121 2 (en2 l.es) l.a l.c :: L) w' ∧ ((qbN z x y ≠ 0 ∧ ∃ k : Nat, qbN z x y = (k : Int) + 1 ∧ z.LL[k]? = some l) ∨ (qbN z x y = 0 ∧ l = ⟨[], none, 0⟩))) := by
  refine Sp.enter Tryz.func22 rfl (by kernel_rfl) (by kernel_rfl) ?_
  refine WC.seq <| WC.region <| WL.box rfl rfl #[.int .i64 z.cap, .int .i64 z.T.s.cap, .slice z.ra (List.length (u32s z.T.s.rel)) z.rc, .int .i64 (z.T.s.fresh + 1), .slice z.ga (List.length (u32s (z.T.s.gen.drop 1))) z.gc, .slice z.oa (List.length (bos (z.T.s.used.drop 1))) z.oc, .slice z.va (List.length (u32s (z.T.vals.drop 1))) z.vc, .int .i64 z.cap, .slice z.pa (List.length (enP z.P)) z.pc, .slice z.ba (List.length (bos z.B)) z.bc, .slice z.la (List.length (enL z.LL)) z.lc] hS rfl rfl (fun b1 w hS => ?_)
  refine WL.r 3 rfl <| WL.nil <| WC.seq <| WC.region ?_
  have hzn := hz.n; have hzl := hz.l; have hzb := hz.b; have hel := enL_len z.LL
  refine WL.ldF rfl rfl 0 hS rfl rfl ag_43 <| WL.r 1 rfl <| WL.call rfl rfl (qs_num (z := z) (h := x) (hz := hz) (hh := hx) (hS := (hS.sel 2 [1, 0] rfl))) rfl ?_
  clear hS; rintro _ w ⟨rfl, hS⟩
  replace hS := hS.n2 L (a1 := cel b1 #[.int .i64 z.cap, .int .i64 z.T.s.cap, .slice z.ra (List.length (u32s z.T.s.rel)) z.rc, .int .i64 (z.T.s.fresh + 1), .slice z.ga (List.length (u32s (z.T.s.gen.drop 1))) z.gc, .slice z.oa (List.length (bos (z.T.s.used.drop 1))) z.oc, .slice z.va (List.length (u32s (z.T.vals.drop 1))) z.vc, .int .i64 z.cap, .slice z.pa (List.length (enP z.P)) z.pc, .slice z.ba (List.length (bos z.B)) z.bc, .slice z.la (List.length (enL z.LL)) z.lc] 43) rfl
  refine WL.r 5 rfl <| WL.nil <| WC.seq <| WC.region <| WL.ldF rfl rfl 1 hS rfl rfl ag_43 <| WL.r 1 rfl <| WL.call rfl rfl (qs_num (z := z) (h := y) (hz := hz) (hh := hy) (hS := hS)) rfl ?_
  clear hS; rintro _ w ⟨rfl, hS⟩
  replace hS := hS.n2 L rfl
  refine WL.r 5 rfl <| WL.nil ?_
  as_aux_lemma =>
  refine WC.seq <| WC.seq <| WC.region <| WL.r 2 rfl <| WL.rG 4 rfl (fun j => ?_)
  refine WL.prop 31 rfl (bor (dd _) (dd _)) <| WL.nil <| WC.ifP rfl (fun cd1 => ?_) (fun cd1 => ?_)
  · refine WC.seq <| WC.region ?_
    replace hS : St g (Sh 121 2 (en2 []) none 0 :: Shs rsF [z] :: cel b1 #[.int .i64 z.cap, .int .i64 z.T.s.cap, .slice z.ra (List.length (u32s z.T.s.rel)) z.rc, .int .i64 (z.T.s.fresh + 1), .slice z.ga (List.length (u32s (z.T.s.gen.drop 1))) z.gc, .slice z.oa (List.length (bos (z.T.s.used.drop 1))) z.oc, .slice z.va (List.length (u32s (z.T.vals.drop 1))) z.vc, .int .i64 z.cap, .slice z.pa (List.length (enP z.P)) z.pc, .slice z.ba (List.length (bos z.B)) z.bc, .slice z.la (List.length (enL z.LL)) z.lc] 43 :: L) w := hS.nilS 121 2
    refine WL.r 3 rfl <| WL.nil <| WC.ret ?_
    refine ⟨[.slice none 0 0, .int .i64 0, .int .i64 5], ⟨rfl, rfl, rfl⟩, ?_⟩
    replace hS := (hS.sel 3 [1, 0] rfl)
    exact cd1.elim (fun h => ⟨⟨[], none, 0⟩, by rw [qn_1 (opn_5 h), bs_1 (opn_5 h)]; rfl, hS, .inr ⟨qn_1 (opn_5 h), rfl⟩⟩) (fun h => ⟨⟨[], none, 0⟩, by rw [qn_2 (opn_5 h), bs_2 (opn_5 h)]; rfl, hS, .inr ⟨qn_2 (opn_5 h), rfl⟩⟩)
  · refine WC.skip <| WC.seq <| WC.region ?_
    have ho1 : z.T.s.opn x = true := opn_0 (fun h => cd1 (.inl h)); have ho2 : z.T.s.opn y = true := opn_0 (fun h => cd1 (.inr h)); have hq : qbN z x y = baseR z.P z.B (if z.T.s.opn x = true then z.T.val x else 0) (if z.T.s.opn y = true then z.T.val y else 0) := (by rw [qn_3 ho1 ho2, if_pos ho1, if_pos ho2])
    replace hS : St g (Sh 64 1 (u32s z.T.s.rel) z.ra z.rc :: Sh 64 1 (u32s (z.T.s.gen.drop 1)) z.ga z.gc :: Sh 4 1 (bos (z.T.s.used.drop 1)) z.oa z.oc :: Sh 64 1 (u32s (z.T.vals.drop 1)) z.va z.vc :: Sh 56 1 (enP z.P) z.pa z.pc :: Shs prF z.P :: Sh 4 1 (bos z.B) z.ba z.bc :: Sh 49 1 (enL z.LL) z.la z.lc :: Shs leF z.LL :: Shs rsF [z] :: cel b1 #[.int .i64 z.cap, .int .i64 z.T.s.cap, .slice z.ra (List.length (u32s z.T.s.rel)) z.rc, .int .i64 (z.T.s.fresh + 1), .slice z.ga (List.length (u32s (z.T.s.gen.drop 1))) z.gc, .slice z.oa (List.length (bos (z.T.s.used.drop 1))) z.oc, .slice z.va (List.length (u32s (z.T.vals.drop 1))) z.vc, .int .i64 z.cap, .slice z.pa (List.length (enP z.P)) z.pc, .slice z.ba (List.length (bos z.B)) z.bc, .slice z.la (List.length (enL z.LL)) z.lc] 43 :: L) w := hS.rsGet 0 rfl
    refine WL.r 1 rfl <| WL.ldC rfl rfl [.int .i64 z.cap, .slice z.pa (List.length (enP z.P)) z.pc, .slice z.ba (List.length (bos z.B)) z.bc] ag_40 rfl (hS.part 10 rfl rfl) <| WL.r 2 rfl <| WL.call rfl rfl (rbase_spec (cap := z.cap) (P := z.P) (a := z.pa) (c := z.pc) (B := z.B) (b := z.ba) (d := z.bc) (x := if z.T.s.opn x = true then z.T.val x else 0) (y := if z.T.s.opn y = true then z.T.val y else 0) (hP := hz.p) (hl := (by omega)) (hB := hz.b) (hS := (hS.sel 7 [4, 4, 4, 0, 0, 0, 0] rfl))) rfl ?_
    clear hS; rintro _ w ⟨rfl, hS⟩
    replace hS := hS.n11 L (a0 := Sh 56 1 (enP z.P) z.pa z.pc) (a1 := Shs prF z.P) (a2 := Sh 4 1 (bos z.B) z.ba z.bc) (a3 := Sh 64 1 (u32s z.T.s.rel) z.ra z.rc) (a4 := Sh 64 1 (u32s (z.T.s.gen.drop 1)) z.ga z.gc) (a5 := Sh 4 1 (bos (z.T.s.used.drop 1)) z.oa z.oc) (a6 := Sh 64 1 (u32s (z.T.vals.drop 1)) z.va z.vc) (a7 := Sh 49 1 (enL z.LL) z.la z.lc) (a8 := Shs leF z.LL) rfl
    refine WL.r 1 rfl <| WL.nil <| WC.seq <| WC.seq <| WC.region <| WL.r 2 rfl <| WL.nil ?_
    as_aux_lemma =>
    refine WC.ifP rfl (fun hb0 => ?_) (fun hb0 => ?_)
    · refine WC.seq <| WC.region ?_
      replace hS : St g (Sh 121 2 (en2 []) none 0 :: Sh 56 1 (enP z.P) z.pa z.pc :: Shs prF z.P :: Sh 4 1 (bos z.B) z.ba z.bc :: Sh 64 1 (u32s z.T.s.rel) z.ra z.rc :: Sh 64 1 (u32s (z.T.s.gen.drop 1)) z.ga z.gc :: Sh 4 1 (bos (z.T.s.used.drop 1)) z.oa z.oc :: Sh 64 1 (u32s (z.T.vals.drop 1)) z.va z.vc :: Sh 49 1 (enL z.LL) z.la z.lc :: Shs leF z.LL :: Shs rsF [z] :: cel b1 #[.int .i64 z.cap, .int .i64 z.T.s.cap, .slice z.ra (List.length (u32s z.T.s.rel)) z.rc, .int .i64 (z.T.s.fresh + 1), .slice z.ga (List.length (u32s (z.T.s.gen.drop 1))) z.gc, .slice z.oa (List.length (bos (z.T.s.used.drop 1))) z.oc, .slice z.va (List.length (u32s (z.T.vals.drop 1))) z.vc, .int .i64 z.cap, .slice z.pa (List.length (enP z.P)) z.pc, .slice z.ba (List.length (bos z.B)) z.bc, .slice z.la (List.length (enL z.LL)) z.lc] 43 :: L) w := hS.nilS 121 2
      refine WL.r 3 rfl <| WL.nil <| WC.ret ?_
      refine ⟨[.slice none 0 0, .int .i64 0, .int .i64 0], ⟨rfl, rfl, rfl⟩, ?_⟩
      replace hS := (hS.sel 12 [10, 0] rfl)
      exact ⟨⟨[], none, 0⟩, by rw [hq, hb0, bs_3 ho1 ho2]; rfl, hS, .inr ⟨hq.trans hb0, rfl⟩⟩
    · refine WC.skip <| WC.seq <| WC.region ?_
      obtain ⟨k, l, hk, hl⟩ := hb (by rw [hq]; exact hb0); have hkl := (List.getElem?_eq_some_iff.1 hl).1
      replace hS : St g (Sh 121 2 (en2 l.es) l.a l.c :: Sh 56 1 (enP z.P) z.pa z.pc :: Shs prF z.P :: Sh 4 1 (bos z.B) z.ba z.bc :: Sh 64 1 (u32s z.T.s.rel) z.ra z.rc :: Sh 64 1 (u32s (z.T.s.gen.drop 1)) z.ga z.gc :: Sh 4 1 (bos (z.T.s.used.drop 1)) z.oa z.oc :: Sh 64 1 (u32s (z.T.vals.drop 1)) z.va z.vc :: Sh 49 1 (enL z.LL) z.la z.lc :: Shs leF z.LL :: Shs rsF [z] :: cel b1 #[.int .i64 z.cap, .int .i64 z.T.s.cap, .slice z.ra (List.length (u32s z.T.s.rel)) z.rc, .int .i64 (z.T.s.fresh + 1), .slice z.ga (List.length (u32s (z.T.s.gen.drop 1))) z.gc, .slice z.oa (List.length (bos (z.T.s.used.drop 1))) z.oc, .slice z.va (List.length (u32s (z.T.vals.drop 1))) z.vc, .int .i64 z.cap, .slice z.pa (List.length (enP z.P)) z.pc, .slice z.ba (List.length (bos z.B)) z.bc, .slice z.la (List.length (enL z.LL)) z.lc] 43 :: L) w := hS.shsGet 8 rfl (List.mem_of_getElem? hl)
      refine WL.run 4 [.slice z.la (List.length (enL z.LL)) z.lc] rfl (by exact hS.ld 11 rfl rfl) ?_
      refine WL.nw 42 rfl (w64 (by omega)) ?_
      refine WL.ix rfl rfl (i := (baseR z.P z.B (if z.T.s.opn x = true then z.T.val x else 0) (if z.T.s.opn y = true then z.T.val y else 0)) - 1) (k) el_41 rfl rfl (by omega) (by omega) (hS.rdS 8 rfl (enL_at hl)).1 ?_
      refine WL.run 5 [.slice l.a (List.length (en2 l.es)) l.c] rfl (by exact (hS.rdS 8 rfl (enL_at hl)).2 0 _ rfl) ?_
      refine WL.nil <| WC.ret ?_
      refine ⟨[.slice l.a (List.length (en2 l.es)) l.c, .int .i64 (baseR z.P z.B (if z.T.s.opn x = true then z.T.val x else 0) (if z.T.s.opn y = true then z.T.val y else 0)), .int .i64 0], ⟨rfl, rfl, rfl⟩, ?_⟩
      replace hS := (hS.sel 12 [10, 0] rfl)
      exact ⟨l, by rw [hq, bs_3 ho1 ho2]; rfl, hS, .inl ⟨by rw [hq]; exact hb0, k, hk, hl⟩⟩
theorem WR.bs {V : VM} {A : AM} {R : List Int} {z : RSt} {m : Nat} (h : WR V A R z m) (x y : Int) : qbN z x y = bsN V x y ∧ bsE z.T x y = bsE V.T x y := by
  unfold qbN bsN bsE
  rw [h.tt]
  refine ⟨?_, rfl⟩
  split
  · exact (h.ra.base h.vi.g.ok _ _).symm
  · rfl
theorem WR.bst {V : VM} {A : AM} {R : List Int} {z : RSt} {m : Nat} (h : WR V A R z m) {x y : Int} (hb : bsN V x y ≠ 0) : ∃ (k : Nat) (l : LsE), bsN V x y = (k : Int) + 1 ∧ z.LL[k]? = some l ∧ TrL A (V.rootOf (bsN V x y)) l.es := by
  have hp : preG V.xs (bsN V x y) = true := by
    unfold bsN at hb ⊢
    split at hb
    · rename_i ho; rw [if_pos ho]; exact base_pre h.vi.g.ok hb
    · exact absurd rfl hb
  obtain ⟨r, hr, hn⟩ := (h.vi.pre (bsN V x y)).2 hp
  obtain ⟨j, hj⟩ := List.mem_iff_getElem?.1 hr
  obtain ⟨l, hl, ht⟩ := h.tr r hr
  have h1 := h.vi.g.ok.pos (bsN V x y) (by rw [← pre_vw]; exact hp)
  have h2 := VM.rootOf_at h.vi.k.uniq hj
  rw [hn] at h2 hl
  exact ⟨(bsN V x y - 1).toNat, l, by omega, hl, by rw [h2]; exact ht⟩
theorem tries_rng {hs : List Int} {x y : Int} (h : ∀ q ∈ hs, 0 ≤ q ∧ q ≤ 18446744073709551615) (hx : 0 ≤ x ∧ x ≤ 18446744073709551615) (hy : 0 ≤ y ∧ y ≤ 18446744073709551615) : ∀ q ∈ hs ++ [x, y], 0 ≤ q ∧ q ≤ 18446744073709551615 := fun q hq => by
  rcases List.mem_append.1 hq with hq | hq
  · exact h q hq
  · exact two_rng hx hy q hq
theorem TrL.nil (A : AM) : TrL A 0 [] := ⟨.nil, rfl, trivial, List.Pairwise.nil, rfl⟩
theorem WR.bt {V : VM} {A : AM} {R : List Int} {z : RSt} {m : Nat} (h : WR V A R z m) {x y : Int} {l : LsE} (hl : (qbN z x y ≠ 0 ∧ ∃ k : Nat, qbN z x y = (k : Int) + 1 ∧ z.LL[k]? = some l) ∨ (qbN z x y = 0 ∧ l = ⟨[], none, 0⟩)) : TrL A (V.rootOf (bsN V x y)) l.es := by
  rw [(h.bs x y).1] at hl
  rcases hl with ⟨h0, k, h1, h2⟩ | ⟨h0, rfl⟩
  · obtain ⟨k', l', h3, h4, h5⟩ := h.bst h0
    have e : k = k' := by omega
    subst e
    rw [h2] at h4; rw [Option.some.inj h4]; exact h5
  · rw [h0, rootOf_no (VI.no0 h.vi)]; exact TrL.nil A
theorem WR.bx {V : VM} {A : AM} {R : List Int} {z : RSt} {m : Nat} (h : WR V A R z m) {x y : Int} (hb : qbN z x y ≠ 0) : ∃ (k : Nat) (l : LsE), qbN z x y = (k : Int) + 1 ∧ z.LL[k]? = some l := by
  rw [(h.bs x y).1] at hb ⊢
  obtain ⟨k, l, h1, h2, _⟩ := h.bst hb
  exact ⟨k, l, h1, h2⟩
set_option maxHeartbeats 2000000 in
set_option maxRecDepth 8192 in
theorem law_vbases {g w : World} {L : List HP} (ls : List Vc) (la : Option Addr) (lc : Nat) (ax ay : Int) (hls : ∀ z ∈ ls, VcOk z) (hll : ls.length ≤ maxLen) (hax : 0 ≤ ax ∧ ax ≤ 18446744073709551615) (hay : 0 ≤ ay ∧ ay ≤ 18446744073709551615) (hS : St g (Sh 51 5 (enV ls) la lc :: Shs vcF ls :: L) w) :
    Sp Tryz.prog 4 [.slice la (List.length (enV ls)) lc, .int .u64 ax, .int .u64 ay] w (fun v w' => v = .bool true ∧ St g (L) w') := by
  refine Sp.enter Tryz.func4 rfl (by kernel_rfl) (by kernel_rfl) ?_
  refine WC.seq <| WC.region <| WL.r 1 rfl <| WL.nil <| WC.seq <| WC.seq <| WC.region ?_
  have hel := enV_len ls; have hmx0 : ls.length ≤ 9223372036854775807 := hll
  refine WL.r 3 rfl <| WL.nil <| WC.ifP rfl (fun cd1 => ?_) (fun cd1 => ?_)
  · refine WC.seq <| WC.region <| WL.call rfl rfl (awake22_spec   (hS := hS)) rfl ?_
    clear hS; rintro _ w ⟨rfl, hS⟩
    replace hS := hS.n2 L rfl
    refine WL.r 1 rfl <| WL.nil <| WC.ret ?_
    refine ⟨[.bool true], rfl, ?_⟩
    replace hS := (hS.sel 2 [] rfl)
    exact ⟨rfl, hS⟩
  · refine WC.skip <| WC.seq <| WC.region <| WL.call rfl rfl (vs_new_ok (sl := 2500) (cap := 30) (hc := (by decide)) (hs := (by decide)) (hS := hS)) rfl ?_
    clear hS; rintro _ w ⟨s1, a1, rfl, hS⟩
    replace hS := hS.n4 L (a0 := Vst s1 a1 (VM.new 30)) (a1 := Arn a1 (AM.new 2500)) rfl
    refine WL.r 5 rfl <| WL.nil <| WC.seq <| WC.seq <| WC.region <| WL.call rfl rfl (awake22_spec   (hS := hS)) rfl ?_
    clear hS; rintro _ w ⟨rfl, hS⟩
    replace hS := hS.n4 L rfl
    refine WL.r 2 rfl <| WL.ung rfl rfl rfl <| WL.r 1 rfl <| WL.ung rfl rfl rfl <| WL.r 3 rfl <| WL.reb 36 (.bool false) (congrArg Value.bool (decide_eq_false (by decide))) ?_
    refine WL.ung rfl rfl rfl <| WL.r 1 rfl <| WL.ung rfl rfl rfl <| WL.r 3 rfl <| WL.ung rfl rfl rfl <| WL.r 1 rfl <| WL.ung rfl rfl rfl <| WL.call rfl rfl (vs_arena (s := s1) (a := a1) (V := VM.new 30)  (hS := hS)) rfl ?_
    clear hS; rintro _ w ⟨rfl, hS⟩
    replace hS := hS.n4 L rfl
    refine WL.ung rfl rfl rfl <| WL.r 2 rfl <| WL.nil ?_
    as_aux_lemma =>
    refine WC.ifF rfl rfl <| WC.skip <| WC.seq <| WC.region <| WL.r 1 rfl <| WL.call rfl rfl (qs_new (n := 30) (cz := 30) (hc := rfl) (hn := (by decide)) (hS := hS)) rfl ?_
    clear hS; rintro _ w ⟨z1, rfl, hS, f1⟩
    replace hS := hS.n5 L (a0 := Shs rsF [z1]) rfl
    refine WL.build rfl rfl (cs := [.pointer (some ⟨s1, 0, none⟩), .int .i64 z1.cap, .int .i64 z1.T.s.cap, .slice z1.ra (List.length (u32s z1.T.s.rel)) z1.rc, .int .i64 (z1.T.s.fresh + 1), .slice z1.ga (List.length (u32s (z1.T.s.gen.drop 1))) z1.gc, .slice z1.oa (List.length (bos (z1.T.s.used.drop 1))) z1.oc, .slice z1.va (List.length (u32s (z1.T.vals.drop 1))) z1.vc, .int .i64 z1.cap, .slice z1.pa (List.length (enP z1.P)) z1.pc, .slice z1.ba (List.length (bos z1.B)) z1.bc, .slice z1.la (List.length (enL z1.LL)) z1.lc, .slice none 0 0]) zv_47 rfl rfl <| WL.box rfl rfl #[.pointer (some ⟨s1, 0, none⟩), .int .i64 z1.cap, .int .i64 z1.T.s.cap, .slice z1.ra (List.length (u32s z1.T.s.rel)) z1.rc, .int .i64 (z1.T.s.fresh + 1), .slice z1.ga (List.length (u32s (z1.T.s.gen.drop 1))) z1.gc, .slice z1.oa (List.length (bos (z1.T.s.used.drop 1))) z1.oc, .slice z1.va (List.length (u32s (z1.T.vals.drop 1))) z1.vc, .int .i64 z1.cap, .slice z1.pa (List.length (enP z1.P)) z1.pc, .slice z1.ba (List.length (bos z1.B)) z1.bc, .slice z1.la (List.length (enL z1.LL)) z1.lc, .slice none 0 0] hS rfl rfl (fun b1 w hS => ?_)
    refine WL.r 1 rfl <| WL.nil <| WC.seq <| WC.seq <| WC.region <| WL.r 1 rfl <| WL.nil <| WC.block ?_
    replace hS := hS.nil_ 23 1
    replace hS := hS.n7 L (a0 := Own 23 1 (u64s []) none 0) (a1 := cel b1 #[.pointer (some ⟨s1, 0, none⟩), .int .i64 z1.cap, .int .i64 z1.T.s.cap, .slice z1.ra (List.length (u32s z1.T.s.rel)) z1.rc, .int .i64 (z1.T.s.fresh + 1), .slice z1.ga (List.length (u32s (z1.T.s.gen.drop 1))) z1.gc, .slice z1.oa (List.length (bos (z1.T.s.used.drop 1))) z1.oc, .slice z1.va (List.length (u32s (z1.T.vals.drop 1))) z1.vc, .int .i64 z1.cap, .slice z1.pa (List.length (enP z1.P)) z1.pc, .slice z1.ba (List.length (bos z1.B)) z1.bc, .slice z1.la (List.length (enL z1.LL)) z1.lc, .slice none (List.length (u64s [])) 0] 47) rfl
    refine WC.loop [0, 1, 2, 7, 9, 10] (fun kM vs w => ∃ (k : Nat) (V : VM) (A : AM) (y : RSt) (hs : List Int) (u : Option Addr) (d : Nat), vs = [.slice la (List.length (enV ls)) lc, .int .u64 ax, .int .u64 ay, .pointer (some ⟨s1, 0, none⟩), .pointer (some ⟨b1, 0, none⟩), .int .i64 (k : Int)] ∧ St g (Own 23 1 (u64s hs) u d :: cel b1 #[.pointer (some ⟨s1, 0, none⟩), .int .i64 y.cap, .int .i64 y.T.s.cap, .slice y.ra (List.length (u32s y.T.s.rel)) y.rc, .int .i64 (y.T.s.fresh + 1), .slice y.ga (List.length (u32s (y.T.s.gen.drop 1))) y.gc, .slice y.oa (List.length (bos (y.T.s.used.drop 1))) y.oc, .slice y.va (List.length (u32s (y.T.vals.drop 1))) y.vc, .int .i64 y.cap, .slice y.pa (List.length (enP y.P)) y.pc, .slice y.ba (List.length (bos y.B)) y.bc, .slice y.la (List.length (enL y.LL)) y.lc, .slice u (List.length (u64s hs)) d] 47 :: Shs rsF [y] :: Vst s1 a1 V :: Arn a1 A :: Sh 51 5 (enV ls) la lc :: Shs vcF ls :: L) w ∧ (k ≤ ls.length) ∧ (WR V A [] y (12 + k)) ∧ (StB V A hs k) ∧ (ls.length - k) = kM) ((List.length ls) - 0) ⟨0, VM.new 30, AM.new 2500, z1, [], none, 0, rfl, hS, (Nat.zero_le _), (WR.new (by decide) f1 12), (⟨Int.le_refl 0, Nat.zero_le _, fun _ h => (by cases h), List.length_replicate⟩), rfl⟩ ?_
    clear hS; rintro _ _ w j ⟨k, V, A, y, hs, u, d, rfl, hS, hk, hW, hB, rfl⟩
    refine WC.seq <| WC.seq <| WC.region <| WL.r 4 rfl <| WL.nil ?_
    as_aux_lemma =>
    refine WC.ifP rfl (fun cd2 => ?_) (fun cd2 => ?_)
    · refine WC.skip <| WC.seq <| WC.block <| WC.seq <| WC.region ?_
      obtain ⟨z, hz⟩ : ∃ z, ls[k]? = some z := ⟨_, List.getElem?_eq_getElem (by omega)⟩; have hzk := hls z (List.mem_of_getElem? hz)
      replace hS : St g (Sh 121 2 (en2 z.es) z.a z.c :: Own 23 1 (u64s hs) u d :: cel b1 #[.pointer (some ⟨s1, 0, none⟩), .int .i64 y.cap, .int .i64 y.T.s.cap, .slice y.ra (List.length (u32s y.T.s.rel)) y.rc, .int .i64 (y.T.s.fresh + 1), .slice y.ga (List.length (u32s (y.T.s.gen.drop 1))) y.gc, .slice y.oa (List.length (bos (y.T.s.used.drop 1))) y.oc, .slice y.va (List.length (u32s (y.T.vals.drop 1))) y.vc, .int .i64 y.cap, .slice y.pa (List.length (enP y.P)) y.pc, .slice y.ba (List.length (bos y.B)) y.bc, .slice y.la (List.length (enL y.LL)) y.lc, .slice u (List.length (u64s hs)) d] 47 :: Shs rsF [y] :: Vst s1 a1 V :: Arn a1 A :: Sh 51 5 (enV ls) la lc :: Shs vcF ls :: L) w := hS.shsGet 6 rfl (List.mem_of_getElem? hz)
      refine WL.r 3 rfl <| WL.ix rfl rfl (i := (k : Int)) (k) el_22 rfl rfl (by omega) (by omega) (hS.rdS 6 rfl (enV_at hz)).1 ?_
      refine WL.ldC rfl rfl [.int .i64 z.kd, .int .u64 z.ca, .int .u64 z.cb, .slice z.a (List.length (en2 z.es)) z.c, .bool z.rb] ag_51 rfl (hS.rdS 6 rfl (enV_at hz)).2 <| WL.call rfl rfl (wstep (p := b1) (s := s1) (a := a1) (V := V) (A := A) (z := y) (n := k) (hs := hs) (u := u) (d := d) (kd := z.kd) (ca := z.ca) (cb := z.cb) (es := z.es) (ea := z.a) (ec := z.c) (rb := z.rb) (hW := hW) (hB := hB) (hn := (by omega)) (hkd := hzk.kd) (hca := hzk.ca) (hcb := hzk.cb) (hel := hzk.es) (hS := (hS.sel 6 [2, 1, 2, 2, 1, 0] rfl))) rfl ?_
      clear hS; rintro _ w ⟨V1, A1, z2, hs1, u1, d1, rfl, hS, f2, f3⟩
      replace hS := hS.n8 L (a0 := cel b1 #[.pointer (some ⟨s1, 0, none⟩), .int .i64 z2.cap, .int .i64 z2.T.s.cap, .slice z2.ra (List.length (u32s z2.T.s.rel)) z2.rc, .int .i64 (z2.T.s.fresh + 1), .slice z2.ga (List.length (u32s (z2.T.s.gen.drop 1))) z2.gc, .slice z2.oa (List.length (bos (z2.T.s.used.drop 1))) z2.oc, .slice z2.va (List.length (u32s (z2.T.vals.drop 1))) z2.vc, .int .i64 z2.cap, .slice z2.pa (List.length (enP z2.P)) z2.pc, .slice z2.ba (List.length (bos z2.B)) z2.bc, .slice z2.la (List.length (enL z2.LL)) z2.lc, .slice u1 (List.length (u64s hs1)) d1] 47) (a1 := Own 23 1 (u64s hs1) u1 d1) (a2 := Vst s1 a1 V1) (a3 := Arn a1 A1) (a4 := Shs rsF [z2]) (a5 := Sh 121 2 (en2 z.es) z.a z.c) rfl
      refine WL.r 1 rfl <| WL.nil <| WC.ifF rfl rfl <| WC.skip <| WC.region <| WL.r 2 rfl <| WL.nw 54 rfl (w64 (by omega)) ?_
      refine WL.r 1 rfl <| WL.nil ?_
      exact ⟨_, by omega, k + 1, V1, A1, z2, hs1, u1, d1, rfl, (hS.sel 6 [1, 0, 2, 0, 0] rfl), (by omega), (f2), (f3.1), rfl⟩
    · refine WC.exit <| WC.seq <| WC.region ?_
      have hhl := hB.hl; have hul := u64s_len hs; have hrk := hW.rok
      refine WL.run 4 [.slice u (List.length (u64s hs)) d] rfl (by exact hS.ld 1 rfl rfl) ?_
      replace hS := hS.nil_ 23 1
      refine WL.app rfl rfl 0 (u64s hs) el_45 hS rfl (hS.srcO 1 rfl) (List.nil_append _) (Rm.of (by first | omega | (simp <;> omega)) (by decide)) rfl rfl (fun a2 c1 w hS => ?_)
      replace hS := hS.n8 L (a0 := Own 23 1 (u64s hs) a2 c1) rfl
      refine WL.r 2 rfl <| WL.lit rfl rfl (u64s [ax, ay]) el_45 hS (by exact ⟨rfl, rfl, rfl, rfl⟩) (u64s_ok _) rfl (Nat.le_of_ble_eq_true rfl) (fun b2 w hS => ?_)
      refine WL.app rfl rfl 1 (u64s (hs ++ [ax, ay])) el_45 hS rfl (hS.srcO 0 rfl) (u64s_app _ _).symm (Rm.of (by first | omega | (simp <;> omega)) (by decide)) rfl rfl (fun a3 c2 w hS => ?_)
      replace hS := hS.n9 L (a0 := Own 23 1 (u64s [ax, ay]) (some ⟨b2, 0, none⟩) (List.length (u64s [ax, ay]))) (a1 := Own 23 1 (u64s (hs ++ [ax, ay])) a3 c2) rfl
      refine WL.r 1 rfl <| WL.nil <| WC.seq <| WC.region <| WL.r 1 rfl <| WL.call rfl rfl (vs_arena (s := s1) (a := a1) (V := V)  (hS := (hS.sel 6 [5, 0, 0, 0, 0, 0] rfl))) rfl ?_
      clear hS; rintro _ w ⟨rfl, hS⟩
      replace hS := hS.n9 L rfl
      refine WL.call rfl rfl (ar_dump (a := a1) (A := A) (hA := hW.vi.ref.toAWf) (hS := (hS.sel 7 [6, 0, 0, 0, 0, 0, 0] rfl))) rfl ?_
      clear hS; rintro _ w ⟨a4, c3, a5, c4, rfl, hS⟩
      replace hS := hS.n11 L (a0 := Own 174 11 (sls (AM.dmp A)) a4 c3) (a1 := Own 64 1 (u32s (SM.order A.s)) a5 c4) rfl
      refine WL.new rfl rfl zv_62 hS (fun b3 w hS => ?_)
      refine WL.stF rfl rfl rfl 0 hS rfl rfl rfl rfl rfl ag_62 (fun w hS => ?_)
      replace hS := hS.n12 L (a0 := cel b3 #[.slice a4 (List.length (sls (AM.dmp A))) c3, .slice a5 (List.length (u32s (SM.order A.s))) c4] 62) rfl
      refine WL.nil ?_
      as_aux_lemma =>
      refine WC.seq <| WC.seq <| WC.region ?_
      replace hS := (hS.at_ 1 rfl).share
      replace hS := hS.n12 L (a0 := Sh 174 11 (sls (AM.dmp A)) a4 c3) rfl
      refine WL.r 1 rfl <| WL.nil <| WC.block <| WC.loop [7, 9, 11, 12, 13] (fun kM vs w => ∃ (k2 : Nat), vs = [.pointer (some ⟨s1, 0, none⟩), .pointer (some ⟨b1, 0, none⟩), .slice a3 (List.length (u64s (hs ++ [ax, ay]))) c2, .pointer (some ⟨b3, 0, none⟩), .int .i64 (k2 : Int)] ∧ St g (Sh 174 11 (sls (AM.dmp A)) a4 c3 :: cel b3 #[.slice a4 (List.length (sls (AM.dmp A))) c3, .slice a5 (List.length (u32s (SM.order A.s))) c4] 62 :: Own 64 1 (u32s (SM.order A.s)) a5 c4 :: Arn a1 A :: Vst s1 a1 V :: Own 23 1 (u64s [ax, ay]) (some ⟨b2, 0, none⟩) (List.length (u64s [ax, ay])) :: Own 23 1 (u64s (hs ++ [ax, ay])) a3 c2 :: Own 23 1 (u64s hs) u d :: cel b1 #[.pointer (some ⟨s1, 0, none⟩), .int .i64 y.cap, .int .i64 y.T.s.cap, .slice y.ra (List.length (u32s y.T.s.rel)) y.rc, .int .i64 (y.T.s.fresh + 1), .slice y.ga (List.length (u32s (y.T.s.gen.drop 1))) y.gc, .slice y.oa (List.length (bos (y.T.s.used.drop 1))) y.oc, .slice y.va (List.length (u32s (y.T.vals.drop 1))) y.vc, .int .i64 y.cap, .slice y.pa (List.length (enP y.P)) y.pc, .slice y.ba (List.length (bos y.B)) y.bc, .slice y.la (List.length (enL y.LL)) y.lc, .slice u (List.length (u64s hs)) d] 47 :: Shs rsF [y] :: Sh 51 5 (enV ls) la lc :: Shs vcF ls :: L) w ∧ (k2 ≤ hs.length + 2) ∧ (hs.length + 2 - k2) = kM) ((List.length hs) + 2 - 0) ⟨0, rfl, hS, (Nat.zero_le _), rfl⟩ ?_
      clear hS; rintro _ _ w j ⟨k2, rfl, hS, hk2, rfl⟩
      refine WC.seq <| WC.seq <| WC.region <| WL.r 4 rfl <| WL.nil <| WC.ifP rfl (fun cd3 => ?_) (fun cd3 => ?_)
      · refine WC.skip <| WC.seq <| WC.block <| WC.seq <| WC.plan [([0, 1, 4, 5, 8, 2, 6, 9, 3, 7, 10, 13, 11, 12, 14], none)] (by kernel_rfl) (by kernel_rfl) ?_
        have htl := u64s_len (hs ++ [ax, ay]); have hal : (hs ++ [ax, ay]).length = hs.length + 1 + 1 := (by simp); have ho1 : Int.ofNat (hs.length + 1 + 1) = ((hs.length + 1 + 1 : Nat) : Int) := rfl; have hp0 := Int.emod_nonneg ((k2 : Int) * 5 + 3) (b := Int.ofNat (hs.length + 1 + 1)) (by omega); have hp1 := Int.emod_lt_of_pos ((k2 : Int) * 5 + 3) (b := Int.ofNat (hs.length + 1 + 1)) (by omega); obtain ⟨i, hi⟩ : ∃ y, (hs ++ [ax, ay])[k2]? = some y := ⟨_, List.getElem?_eq_getElem (by omega)⟩; obtain ⟨j, hj⟩ : ∃ y, (hs ++ [ax, ay])[(((k2 : Int) * 5 + 3) % Int.ofNat (hs.length + 1 + 1)).toNat]? = some y := ⟨_, List.getElem?_eq_getElem (by omega)⟩; have hte : Int.tmod (((k2 : Int) * 5) + 3) (Int.ofNat (List.length hs + 1 + 1)) = ((k2 : Int) * 5 + 3) % Int.ofNat (hs.length + 1 + 1) := Int.tmod_eq_emod_of_nonneg (by omega); have htr := tries_rng hB.hr hax hay; have hir := htr i (List.mem_of_getElem? hi); have hjr := htr j (List.mem_of_getElem? hj)
        refine WQ.r 5 rfl <| WQ.ix rfl rfl (i := (k2 : Int)) (k2) el_45 rfl rfl (by omega) (by omega) (hS.rdO 6 rfl (u64s_at hi)).1 ?_
        refine WQ.r 1 rfl <| WQ.nw 86 rfl (w64 (by omega)) ?_
        refine WQ.r 1 rfl <| WQ.reb 89 (.int .i64 (Int.ofNat ((List.length hs) + 1 + 1))) (congrArg (Value.int .i64) (by rw [ho1, ← hal, ← htl])) ?_
        refine WQ.run 2 [.int .u64 i] rfl (by exact (hS.rdO 6 rfl (u64s_at hi)).2 0 _ rfl) ?_
        refine WQ.nw 87 rfl (w64 (by omega)) ?_
        refine WQ.r 1 rfl <| WQ.r 1 rfl <| WQ.ix rfl rfl (i := Int.tmod (((k2 : Int) * 5) + 3) (Int.ofNat ((List.length hs) + 1 + 1))) ((((k2 : Int) * 5 + 3) % Int.ofNat (hs.length + 1 + 1)).toNat) el_45 rfl rfl (by omega) (by omega) (hS.rdO 6 rfl (u64s_at hj)).1 ?_
        refine WQ.run 2 [.int .u64 j] rfl (by exact (hS.rdO 6 rfl (u64s_at hj)).2 0 _ rfl) ?_
        refine WQ.nil ?_
        intro m1
        replace hS := hS.drewN m1; generalize hwm1 : World.drewN _ _ = w at *; clear hwm1
        as_aux_lemma =>
        refine WC.seq <| WC.region <| WL.r 3 rfl <| WL.call rfl rfl (vs_base (s := s1) (a := a1) (V := V) (A := A) (R := []) (x := i) (y := j) (hV := hW.vi) (hx := hir) (hy := hjr) (hS := (hS.sel 5 [4, 0, 0, 0, 0] rfl))) rfl ?_
        clear hS; rintro _ w ⟨rfl, hS⟩
        replace hS := hS.n12 L rfl
        refine WL.r 7 rfl <| WL.nil <| WC.seq <| WC.region <| WL.r 3 rfl <| WL.ldC rfl rfl [.int .i64 y.cap, .int .i64 y.T.s.cap, .slice y.ra (List.length (u32s y.T.s.rel)) y.rc, .int .i64 (y.T.s.fresh + 1), .slice y.ga (List.length (u32s (y.T.s.gen.drop 1))) y.gc, .slice y.oa (List.length (bos (y.T.s.used.drop 1))) y.oc, .slice y.va (List.length (u32s (y.T.vals.drop 1))) y.vc, .int .i64 y.cap, .slice y.pa (List.length (enP y.P)) y.pc, .slice y.ba (List.length (bos y.B)) y.bc, .slice y.la (List.length (enL y.LL)) y.lc] ag_43 rfl (hS.part 8 rfl rfl) <| WL.r 2 rfl <| WL.call rfl rfl (qs_base (z := y) (x := i) (y := j) (hz := hrk) (hx := hir) (hy := hjr) (hb := (fun h => hW.bx h)) (hS := (hS.sel 10 [9, 0, 0, 0, 0, 0, 0, 0, 0, 0] rfl))) rfl ?_
        clear hS; rintro _ w ⟨l1, rfl, hS, f2⟩
        replace hS := hS.n13 L (a1 := Sh 121 2 (en2 l1.es) l1.a l1.c) rfl
        refine WL.r 7 rfl <| WL.nil <| WC.seq <| WC.region ?_
        obtain ⟨t, t1, t2, t3, t4⟩ := hW.bt f2; have hbs := hW.bs i j
        refine WL.r 4 rfl <| WL.reb 115 (.bool false) (congrArg Value.bool (decide_eq_false ((by rw [hbs.1]; simp)))) ?_
        refine WL.ung rfl rfl rfl <| WL.r 1 rfl <| WL.ung rfl rfl rfl <| WL.r 1 rfl <| WL.ung rfl rfl rfl <| WL.r 3 rfl <| WL.reb 120 (.bool false) (congrArg Value.bool (decide_eq_false ((by rw [hbs.2]; simp)))) ?_
        refine WL.ung rfl rfl rfl <| WL.ldF rfl rfl 4 hS rfl rfl ag_62 <| WL.ung rfl rfl rfl <| WL.r 1 rfl <| WL.ung rfl rfl rfl <| WL.r 1 rfl <| WL.ung rfl rfl rfl <| WL.call rfl rfl (t7_tree (A := A) (R := List.map RN.root V.rs ++ []) (da := a4) (fa := a5) (dc := c3) (fc := c4) (i := V.rootOf (bsN V i j)) (t := t) (l := l1.es) (u := l1.a) (d := l1.c) (hA := hW.vi.ref) (hi := t1) (hs := t3) (hb := t2) (hl := t4) (hS := (hS.sel 4 [3, 1, 0, 0] rfl))) rfl ?_
        clear hS; rintro _ w ⟨rfl, hS⟩
        replace hS := hS.n13 L rfl
        refine WL.ung rfl rfl rfl <| WL.r 2 rfl <| WL.nil ?_
        as_aux_lemma =>
        refine WC.ifF rfl rfl <| WC.skip <| WC.region <| WL.r 2 rfl <| WL.nw 79 rfl (w64 (by omega)) ?_
        refine WL.r 1 rfl <| WL.nil ?_
        exact ⟨_, by omega, k2 + 1, rfl, (hS.sel 11 [0, 3, 3, 3, 2, 2, 2, 2, 2, 1] rfl), (by omega), rfl⟩
      · refine WC.exit <| WC.seq <| WC.region <| WL.r 1 rfl <| WL.nil <| WC.ret ?_
        refine ⟨[.bool true], rfl, ?_⟩
        replace hS := (hS.sel 12 [] rfl)
        exact ⟨rfl, hS⟩
end Go.Proofs.YtbeacjcmdijdmaaGreat
/-! ## Argp -/
namespace Go.Proofs.YtbeacjcmdijdmaaGreat
open Go Go.V Go.RowKit
set_option maxRecDepth 100000
section
variable {H : Type} {enc : TypeId × Value → H} {w : World} {cs : List Value}
theorem rd_int (h : Rdc enc Tryz.prog w 3 cs) : ∃ n, cs = [.int .i64 n] ∧ (-9223372036854775808 ≤ n ∧ n ≤ 9223372036854775807) := by
  obtain ⟨n, h1, h2, h3⟩ := h.int (k := .i64) (by kernel_rfl)
  exact ⟨n, h1, h2, h3⟩
theorem rd_bool (h : Rdc enc Tryz.prog w 4 cs) : ∃ b, cs = [.bool b] := h.bool (by kernel_rfl)
theorem one1 {x : List Value} {v : Value} (h : x = [v]) (h1 : v.oneCell' = true) : x.length = 1 ∧ ∀ u ∈ x, u.oneCell' = true := by
  subst h; exact ⟨rfl, fun u hu => by simp at hu; subst hu; exact h1⟩
end
end Go.Proofs.YtbeacjcmdijdmaaGreat
/-! ## Argv -/
namespace Go.Proofs.YtbeacjcmdijdmaaGreat
open Go Go.V Go.RowKit
set_option maxRecDepth 100000
theorem rdf_121 {H : Type} {enc : TypeId × Value → H} {w : World} {cs : List Value} (h : Rdc enc Tryz.prog w 121 cs) : ∃ c0 c1 : Value, cs = [c0, c1] ∧ Rdc enc Tryz.prog w 2 [c0] ∧ Rdc enc Tryz.prog w 2 [c1] := by
  obtain ⟨hl, hf⟩ := Rdc.struct h Tryz.underlying121
  rw [show Tryz.prog.cellsOf 121 = 2 by kernel_rfl] at hl
  match cs, hl with
  | [c0, c1], _ =>
    have f0 : Rdc enc Tryz.prog w 2 (([c0, c1].drop 0).take (Tryz.prog.cellsOf 2)) := hf 0 _ rfl
    rw [show Tryz.prog.cellsOf 2 = 1 by kernel_rfl] at f0
    have f1 : Rdc enc Tryz.prog w 2 (([c0, c1].drop 1).take (Tryz.prog.cellsOf 2)) := hf 1 _ rfl
    rw [show Tryz.prog.cellsOf 2 = 1 by kernel_rfl] at f1
    exact ⟨c0, c1, rfl, f0, f1⟩
section
variable {H : Type} {enc : TypeId × Value → H} {w : World} {cs : List Value}
theorem rd_i64 (h : Rdc enc Tryz.prog w 2 cs) : ∃ n, cs = [.int .i64 n] ∧ Ir n := by
  obtain ⟨n, h1, h2, h3⟩ := h.int (k := .i64) (by kernel_rfl)
  exact ⟨n, h1, h2, h3⟩
theorem rd_u64 (h : Rdc enc Tryz.prog w 23 cs) : ∃ n, cs = [.int .u64 n] ∧ 0 ≤ n ∧ n ≤ 18446744073709551615 := by
  obtain ⟨n, h1, h2, h3⟩ := h.int (k := .u64) (by kernel_rfl)
  exact ⟨n, h1, h2, h3⟩
theorem rd_ent (h : Rdc enc Tryz.prog w 121 cs) : ∃ x : Int × Int, cs = [.int .i64 x.1, .int .i64 x.2] ∧ Ir x.1 ∧ Ir x.2 := by
  obtain ⟨c0, c1, rfl, h0, h1⟩ := rdf_121 h
  obtain ⟨a, e0, w0⟩ := rd_i64 h0
  obtain ⟨b, e1, w1⟩ := rd_i64 h1
  cases e0; cases e1
  exact ⟨(a, b), rfl, w0, w1⟩
theorem rd_ents (h : Rdc enc Tryz.prog w 49 cs) : ∃ (l : List (Int × Int)) (a : Option Addr) (c : Nat), cs = [.slice a (en2 l).length c] ∧ (∀ x ∈ l, Ir x.1 ∧ Ir x.2) ∧ l.length ≤ maxLen ∧ ∀ e, Hw w (Sh e 2 (en2 l) a c) := by
  obtain ⟨a, c, ls, h1, h2, h3, h4⟩ := Rdc.slice (e := 121) (size := 2) h (by kernel_rfl) (by kernel_rfl) (by decide) (fun x hx => by
    obtain ⟨n, hn, _⟩ := rd_ent hx
    subst hn; exact ⟨rfl, fun u hu => by simp at hu; rcases hu with rfl | rfl <;> rfl⟩)
  obtain ⟨m, rfl, hm⟩ := map_of (fun x : Int × Int => [Value.int .i64 x.1, Value.int .i64 x.2]) (fun x => Ir x.1 ∧ Ir x.2) ls (fun x hx => by
    obtain ⟨n, hn, hb⟩ := rd_ent (h3 x hx)
    exact ⟨n, hn, hb⟩)
  exact ⟨m, a, c, h1, hm, by simpa using h2, h4⟩
end
end Go.Proofs.YtbeacjcmdijdmaaGreat
/-! ## Argx -/
namespace Go.Proofs.YtbeacjcmdijdmaaGreat
open Go Go.V Go.RowKit
set_option maxRecDepth 100000
theorem rdf_51 {H : Type} {enc : TypeId × Value → H} {w : World} {cs : List Value} (h : Rdc enc Tryz.prog w 51 cs) : ∃ c0 c1 c2 c3 c4 : Value, cs = [c0, c1, c2, c3, c4] ∧ Rdc enc Tryz.prog w 3 [c0] ∧ Rdc enc Tryz.prog w 23 [c1] ∧ Rdc enc Tryz.prog w 23 [c2] ∧ Rdc enc Tryz.prog w 49 [c3] ∧ Rdc enc Tryz.prog w 4 [c4] := by
  obtain ⟨hl, hf⟩ := Rdc.struct h Tryz.underlying51
  rw [show Tryz.prog.cellsOf 51 = 5 by kernel_rfl] at hl
  match cs, hl with
  | [c0, c1, c2, c3, c4], _ =>
    have f0 : Rdc enc Tryz.prog w 3 (([c0, c1, c2, c3, c4].drop 0).take (Tryz.prog.cellsOf 3)) := hf 0 _ rfl
    rw [show Tryz.prog.cellsOf 3 = 1 by kernel_rfl] at f0
    have f1 : Rdc enc Tryz.prog w 23 (([c0, c1, c2, c3, c4].drop 1).take (Tryz.prog.cellsOf 23)) := hf 1 _ rfl
    rw [show Tryz.prog.cellsOf 23 = 1 by kernel_rfl] at f1
    have f2 : Rdc enc Tryz.prog w 23 (([c0, c1, c2, c3, c4].drop 2).take (Tryz.prog.cellsOf 23)) := hf 2 _ rfl
    rw [show Tryz.prog.cellsOf 23 = 1 by kernel_rfl] at f2
    have f3 : Rdc enc Tryz.prog w 49 (([c0, c1, c2, c3, c4].drop 3).take (Tryz.prog.cellsOf 49)) := hf 3 _ rfl
    rw [show Tryz.prog.cellsOf 49 = 1 by kernel_rfl] at f3
    have f4 : Rdc enc Tryz.prog w 4 (([c0, c1, c2, c3, c4].drop 4).take (Tryz.prog.cellsOf 4)) := hf 4 _ rfl
    rw [show Tryz.prog.cellsOf 4 = 1 by kernel_rfl] at f4
    exact ⟨c0, c1, c2, c3, c4, rfl, f0, f1, f2, f3, f4⟩
section
variable {H : Type} {enc : TypeId × Value → H} {w : World} {cs : List Value}
theorem rd_call (h : Rdc enc Tryz.prog w 51 cs) : ∃ z : Vc, cs = vcC z ∧ VcOk z ∧ ∀ A ∈ vcF z, Hw w A := by
  obtain ⟨c0, c1, c2, c3, c4, rfl, h0, h1, h2, h3, h4⟩ := rdf_51 h
  obtain ⟨kd, e0, w0⟩ := rd_int h0
  obtain ⟨ca, e1, w1⟩ := rd_u64 h1
  obtain ⟨cb, e2, w2⟩ := rd_u64 h2
  obtain ⟨l, a, c, e3, w3, m3, s3⟩ := rd_ents h3
  obtain ⟨rb, e4⟩ := rd_bool h4
  cases e0; cases e1; cases e2; cases e3; cases e4
  refine ⟨⟨kd, ca, cb, l, a, c, rb⟩, rfl, ⟨w0, w1, w2, m3⟩, fun A hA => ?_⟩
  simp only [vcF, List.mem_singleton] at hA
  subst hA; exact s3 _
theorem rd_vcs (h : Rdc enc Tryz.prog w 22 cs) : ∃ (l : List Vc) (a : Option Addr) (c : Nat), cs = [.slice a (enV l).length c] ∧ (∀ z ∈ l, VcOk z) ∧ l.length ≤ maxLen ∧ (∀ e, Hw w (Sh e 5 (enV l) a c)) ∧ Hw w (Shs vcF l) := by
  obtain ⟨a, c, ls, h1, h2, h3, h4⟩ := Rdc.slice (e := 51) (size := 5) h (by kernel_rfl) (by kernel_rfl) (by decide) (fun x hx => by
    obtain ⟨n, hn, _⟩ := rd_call hx
    subst hn; exact enV_ok [n] _ (List.mem_singleton.2 rfl))
  obtain ⟨m, rfl, hm⟩ := map_of vcC (fun z => VcOk z ∧ ∀ A ∈ vcF z, Hw w A) ls (fun x hx => by
    obtain ⟨n, hn, hb⟩ := rd_call (h3 x hx)
    exact ⟨n, hn, hb⟩)
  refine ⟨m, a, c, ?_, fun z hz => (hm z hz).1, by simpa using h2, h4, fun r hr z hz => ?_⟩
  · rw [h1, enV_len, List.length_map]
  have h5 := (hm z hz).2
  have : ∀ M : List HP, (∀ A ∈ M, Hw w A) → All M (fun _ => none) r := by
    intro M
    induction M with
    | nil => exact fun _ => trivial
    | cons A M ih => exact fun hM => ⟨fun _ => none, fun _ => none, Sub.refl _, Sub.refl _, Dj.none _, hM A (List.mem_cons_self ..) r hr, ih fun B hB => hM B (List.mem_cons_of_mem _ hB)⟩
  exact this _ h5
end
end Go.Proofs.YtbeacjcmdijdmaaGreat
/-! ## Jvb -/
namespace Go.Proofs.YtbeacjcmdijdmaaGreat
open Go Go.V Go.RowKit Go.ChangeShapes Go.WideShapes
set_option maxRecDepth 100000
theorem vbas_calls {H : Type} {enc : TypeId × Value → H} {W : World} {base : Nat} {args : List Value} (h : AOk enc Tryz.prog W base [22, 23, 23] args) :
    Calls Tryz.prog 4 args.toArray W fun e W' => e = .returned (.bool true) ∧ Below W.heap.size W W' := by
  obtain ⟨v0, vs0, rfl, k0, r0, h⟩ := h.cons
  obtain ⟨v1, vs1, rfl, k1, r1, h⟩ := h.cons
  obtain ⟨v2, vs2, rfl, k2, r2, h⟩ := h.cons
  obtain rfl := h.nil
  obtain ⟨l0, a0, c0, e0, h0, m0, s0, t0⟩ := rd_vcs r0
  obtain ⟨n1, e1, h1⟩ := rd_u64 r1
  obtain ⟨n2, e2, h2⟩ := rd_u64 r2
  obtain rfl := okv_one (okv_slice k0 Tryz.underlying22) e0
  obtain rfl := okv_one (okv_int k1 Tryz.underlying23) e1
  obtain rfl := okv_one (okv_int k2 Tryz.underlying23) e2
  have hS := St.start W
  have hS := t0.add hS
  have hS := (s0 51).add hS
  exact law_calls (law_vbases l0 a0 c0 n1 n2 h0 m0 h1 h2 hS)
theorem vbas_lifted (os : Os) (started : os.Started) (H : Type) (enc : TypeId × Value → H) :
    ReturnsInHanded {} Tryz.checked os 4 .any (Rows.versionsBasesSpec.pre6 enc Tryz.prog Tryz.f4 Rows.versionsBasesRow.domain false) (Rows.versionsBasesSpec.post enc Tryz.prog Tryz.f4 false true false false) := by
  refine returnsInHanded_of_change (C := Tryz.checked) (by kernel_rfl) started (by kernel_rfl) Tryz.func4
    (ChangeSpec.witness6 (enc := enc) (C := Tryz.checked) false ⟨#[], #[.slice none 0 0, .int .u64 0, .int .u64 0], []⟩ 8 (by kernel_rfl) (by kernel_rfl) (by kernel_rfl) (by kernel_rfl)) ?_
  intro W base args ds gs before hval0 hW _ _
  have hval : ∀ (j : Nat) t v, Tryz.f4.params[j]? = some t → args[j]? = some v → Value.okWide Tryz.prog W .any base t v := hval0
  have hW0 := hW
  obtain ⟨p, q, hA0, _⟩ := hW
  have hA : DataW.TrodAll enc Tryz.prog W 0 (fun _ => true) true Tryz.f4.params.toList args.toList ds p := hA0
  rw [Tryz.params4] at hA hval
  clear hA0 hval0
  have hc := vbas_calls (AOk.args hA hval)
  rw [Array.toArray_toList] at hc
  refine hc.mono fun e W' ⟨he, hb⟩ => ⟨_, he, ?_⟩
  refine law_post rfl hW0 (by kernel_rfl) ?_ (by kernel_rfl) Tryz.underlying4 ?_ hb
  · exact fun t ht => by
      simp only [Tryz.params4, List.mem_cons, List.not_mem_nil, or_false] at ht
      rcases ht with rfl | rfl | rfl <;> exact ⟨by kernel_rfl, of_decide_eq_true (by kernel_rfl)⟩
  · intro hd
    match ds, hd with
    | [d1, d2, d3], _ => exact ⟨rfl, rfl, rfl⟩
theorem vbas_holds : Rows.VersionsBasesSaid :=
  OpenClaim.holds_of_wide 4 Tryz.f4 rfl rfl rfl rfl rfl rfl rfl ⟨rfl, rfl, rfl, rfl, rfl⟩ rfl rfl rfl rfl rfl (by kernel_rfl) Tryz.func4 (by kernel_rfl)
    (of_decide_eq_true (by kernel_rfl)) (by unfold Func.isWrapper; first | (rw [if_pos (by decide +kernel)]; kernel_rfl) | (rw [if_neg (by decide +kernel)]; exact ⟨rfl, rfl⟩))
    (fun os started H enc _ => vbas_lifted os started H enc)
end Go.Proofs.YtbeacjcmdijdmaaGreat
