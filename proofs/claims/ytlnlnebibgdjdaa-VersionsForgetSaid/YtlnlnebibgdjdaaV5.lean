/-
  The law's example; the law VersionsNew.
  Conditions: the arguments lie in their kinds.
-/
import Derived.Test.YtlnlnebibgdjdaaV4
import Derived.Test.YtlnlnebibgdjdaaVra
namespace Go.Proofs.Ytlnlnebibgdjdaa
open Go Go.V Go.RowKit

theorem Com.get {V V2 : VM} {root : Int} {ps : List Int} (h : Com V root ps V2) : V2.T = V.T.open (V.last + 1) ∧ V2.last = V.last + 1 ∧ V2.cap = V.cap ∧ AddP V.xs V.cap V.last ps V2.xs (V.last + 1) ∧ V2.xs.length = V.xs.length + 1 ∨ (∃ x ∈ V.xs, V.last < x.n) := by
  obtain ⟨⟨xs2, q, rfl, hA⟩, h0⟩ := h
  by_cases hx : ∃ x ∈ V.xs, V.last < x.n
  · exact .inr hx
  · left
    have hle : ∀ x ∈ V.xs, x.n ≤ V.last := fun x hm => Classical.byContradiction fun h => hx ⟨x, hm, by omega⟩
    exact ⟨rfl, rfl, rfl, hA, ((AddP.facts hle hA).resolve_left fun e => e.1 h0).2.2.2.2.2⟩
/-- a version added, and what is known of its handle -/
structure Add1 (V : VM) (ps : List Int) (V2 : VM) : Prop where
  T : V2.T = V.T.open (V.last + 1)
  la : V2.last = V.last + 1
  cap : V2.cap = V.cap
  xs : AddP V.xs V.cap V.last ps V2.xs (V.last + 1)
  len : V2.xs.length = V.xs.length + 1
  opn : V2.T.s.opn V.T.newH = true
  val : V2.T.val V.T.newH = V.last + 1
  rng : 0 ≤ V.T.newH ∧ V.T.newH ≤ 18446744073709551615
  free : V2.T.s.free = V.T.s.free - 1
  old : ∀ x, V.T.s.opn x = true → V2.T.s.opn x = true ∧ V2.T.val x = V.T.val x
theorem Com.add1 {V V2 : VM} {A : AM} {R ps : List Int} {root : Int} (hV : VI V A R) (h : Com V root ps V2) (hr : 0 < V.room) : Add1 V ps V2 := by
  obtain ⟨h1, h2, h3, h4, h5⟩ := h.get.resolve_right (fun ⟨x, hx, hlt⟩ => by have := hV.g.le x hx; omega)
  have hf := (room_pos hV hr).2
  have h6 := hV.t.newH_opn hf (V.last + 1)
  refine ⟨h1, h2, h3, h4, h5, by rw [h1]; exact h6.1, by rw [h1]; exact h6.2, (TM.newH_mod hV.t hf).2, by rw [h1]; exact SM.alloc_free _, fun x hx => ?_⟩
  rw [h1]
  exact hV.t.opn_open hf _ hx
theorem room_add {V V2 : VM} {A A2 : AM} {R ps R2 : List Int} (hV : VI V A R) (h2 : VI V2 A2 R2) (h : Add1 V ps V2) : V2.room = V.room - 1 := by
  have h1 := h.len; have h3 := h.free; have h4 := hV.cp; have h5 := h2.cp; have h6 := h.cap
  unfold VM.room
  omega
theorem keys_is {rs : List RN} {ss : List Int} {xs : List VN} (hk : ∀ z, z ∈ ss ↔ ∃ r ∈ rs, r.n = z) (hp : ∀ z, (∃ r ∈ rs, r.n = z) ↔ preG xs z = true) (ha : ss.Pairwise fun a b => a < b) {l : List Int} (hl : l.Pairwise fun a b => a < b) (h : ∀ z, preG xs z = true ↔ z ∈ l) : ss = l :=
  asc_ext ha hl fun z => by rw [hk, hp, h]
theorem room_new {n : Nat} : (VM.new n).room = n := by
  unfold VM.room
  show min ((n : Int) - 0) ((n : Int) - ((SM.new n).cap - (SM.new n).free)) = n
  rw [SM.new_free]
  have : (SM.new n).cap = n := by unfold SM.cap SM.new; simp
  rw [this]; omega
theorem vs_arena {g w : World} {L : List HP} (s a : Nat) (V : VM) (hS : St g (Vst s a V :: L) w) :
    Sp Try.prog 12 [.pointer (some ⟨s, 0, none⟩)] w (fun v w' => v = .pointer (some ⟨a, 0, none⟩) ∧ St g (Vst s a V :: L) w') := by
  refine Sp.enter Try.func12 rfl (by kernel_rfl) (by kernel_rfl) ?_
  refine WC.seq ?_
  refine WC.region ?_
  obtain ⟨⟨vt, vp, vm, vr⟩, hS⟩ := St.exOpen (f := vstF s a V) hS
  replace hS : St g (cel s #[.pointer (some ⟨a, 0, none⟩), .pointer (some ⟨vt, 0, none⟩), .pointer (some ⟨vp, 0, none⟩), .map (some vr), .int .i64 V.cap] 100 :: Tbl vt V.T :: cel vp #[.int .i64 V.cap, .int .i64 V.last, .map (some vm)] 161 :: blk vm (.map (mE (List.map vK V.xs)) V.q) :: Shs vF V.xs :: blk vr (.map (mE (List.map rK V.rs)) V.q2) :: L) w := hS
  refine WL.r 1 rfl ?_
  refine WL.nil ?_
  refine WC.seq ?_
  refine WC.region ?_
  refine WL.run 5 [.pointer (some ⟨a, 0, none⟩)] rfl (by exact hS.ld 0 rfl rfl) ?_
  refine WL.nil ?_
  refine WC.ret ?_
  replace hS := St.exClose (f := vstF s a V) (L := L) ⟨vt, vp, vm, vr⟩ (hS)
  replace hS : St g (Vst s a V :: L) w := hS
  refine ⟨[.pointer (some ⟨a, 0, none⟩)], rfl, ?_⟩
  exact ⟨rfl, hS⟩
set_option maxHeartbeats 2000000 in
set_option maxRecDepth 8192 in
theorem awake22_spec {g w : World} {L : List HP} (hS : St g (L) w) :
    Sp Try.prog 11 [] w (fun v w' => v = .bool true ∧ St g (L) w') := by
  refine Sp.enter Try.func11 rfl (by kernel_rfl) (by kernel_rfl) ?_
  refine WC.seq ?_
  refine WC.region ?_
  refine WL.r 1 rfl ?_
  refine WL.nil ?_
  refine WC.seq ?_
  refine WC.region ?_
  refine WL.call rfl rfl (vs_new_ok (sl := 9) (cap := 9) (hc := (by decide)) (hs := (by decide)) (hS := hS)) rfl ?_
  clear hS; rintro _ w ⟨s1, a1, rfl, hS⟩
  replace hS : St g (Vst s1 a1 (VM.new 9) :: Arn a1 (AM.new 9) :: L) w := hS
  refine WL.r 5 rfl ?_
  refine WL.nil ?_
  refine WC.seq ?_
  refine WC.seq ?_
  refine WC.region ?_
  refine WL.r 3 rfl ?_
  refine WL.reb 18 (.bool false) (congrArg Value.bool (decide_eq_false (by decide))) ?_
  refine WL.ung rfl rfl rfl ?_
  refine WL.r 1 rfl ?_
  refine WL.ung rfl rfl rfl ?_
  refine WL.r 3 rfl ?_
  refine WL.ung rfl rfl rfl ?_
  refine WL.r 1 rfl ?_
  refine WL.ung rfl rfl rfl ?_
  refine WL.call rfl rfl (vs_arena (s := s1) (a := a1) (V := VM.new 9)  (hS := hS)) rfl ?_
  clear hS; rintro _ w ⟨rfl, hS⟩
  replace hS : St g (Vst s1 a1 (VM.new 9) :: Arn a1 (AM.new 9) :: L) w := hS
  refine WL.ung rfl rfl rfl ?_
  refine WL.r 2 rfl ?_
  refine WL.nil ?_
  as_aux_lemma =>
    refine WC.ifF rfl rfl ?_
    refine WC.skip ?_
    refine WC.seq ?_
    refine WC.region ?_
    have hV0 := VI.new (slots := 9) (cap := 9) (by omega) (by omega); have hr0 := room_new (n := 9)
    refine WL.r 1 rfl ?_
    refine WL.call rfl rfl (vs_create (s := s1) (a := a1) (V := VM.new 9) (A := AM.new 9) (R := []) (hV := hV0) (hrm := (by rw [hr0]; decide)) (hla := (by decide)) (hlen := (by decide)) (hS := hS)) rfl ?_
    clear hS; rintro _ w ⟨V1, rfl, hS, f1, f2⟩
    replace hS : St g (Vst s1 a1 V1 :: Arn a1 (AM.new 9) :: L) w := hS
    refine WL.r 5 rfl ?_
    refine WL.nil ?_
    refine WC.seq ?_
    refine WC.region ?_
    have add1 := Com.add1 hV0 f2 (by rw [hr0]; decide); have r1 := room_add hV0 f1 add1; have l1 : V1.last = 1 := add1.la
    refine WL.r 2 rfl ?_
    refine WL.call rfl rfl (vs_snap (s := s1) (a := a1) (V := V1) (A := AM.new 9) (R := []) (h := (VM.new 9).T.newH) (hV := f1) (hh := add1.rng) (hn := add1.opn) (hrm := (by rw [r1, hr0]; decide)) (hla := (by rw [l1]; decide)) (hlen := (by decide)) (hS := hS)) rfl ?_
    clear hS; rintro _ w ⟨V2, rfl, hS, f3, f4⟩
    replace hS : St g (Vst s1 a1 V2 :: Arn a1 ((AM.new 9).ret (V1.rootOf (V1.T.val (VM.new 9).T.newH))) :: L) w := hS
    refine WL.r 5 rfl ?_
    refine WL.nil ?_
    refine WC.seq ?_
    refine WC.region ?_
    have add2 := Com.add1 f1 f4 (by rw [r1, hr0]; decide); have r2 := room_add f1 f3 add2; have l2 : V2.last = 2 := (by rw [add2.la, l1]; rfl); have o2 := add2.old _ add1.opn; have v2 : V2.T.val (VM.new 9).T.newH = 1 := (by rw [o2.2, add1.val]; rfl)
    refine WL.r 2 rfl ?_
    refine WL.call rfl rfl (vs_snap (s := s1) (a := a1) (V := V2) (A := (AM.new 9).ret (V1.rootOf (V1.T.val (VM.new 9).T.newH))) (R := []) (h := (VM.new 9).T.newH) (hV := f3) (hh := add1.rng) (hn := o2.1) (hrm := (by rw [r2, r1, hr0]; decide)) (hla := (by rw [l2]; decide)) (hlen := (by decide)) (hS := hS)) rfl ?_
    clear hS; rintro _ w ⟨V3, rfl, hS, f5, f6⟩
    replace hS : St g (Vst s1 a1 V3 :: Arn a1 (((AM.new 9).ret (V1.rootOf (V1.T.val (VM.new 9).T.newH))).ret (V2.rootOf (V2.T.val (VM.new 9).T.newH))) :: L) w := hS
    refine WL.r 5 rfl ?_
    refine WL.nil ?_
    as_aux_lemma =>
      refine WC.seq ?_
      refine WC.region ?_
      have add3 := Com.add1 f3 f6 (by rw [r2, r1, hr0]; decide); have l3 : V3.last = 3 := (by rw [add3.la, l2]; rfl); have o3 := add3.old _ o2.1; have v3 : V3.T.val (VM.new 9).T.newH = 1 := (by rw [o3.2, v2]); have p3 := add3.old _ add2.opn; have w3 : V3.T.val V1.T.newH = 2 := (by rw [p3.2, add2.val, l1]; rfl); have u3 : V3.T.val V2.T.newH = 3 := (by rw [add3.val, l2]; rfl)
      refine WL.r 2 rfl ?_
      refine WL.call rfl rfl (vs_release (s := s1) (a := a1) (V := V3) (A := ((AM.new 9).ret (V1.rootOf (V1.T.val (VM.new 9).T.newH))).ret (V2.rootOf (V2.T.val (VM.new 9).T.newH))) (R := []) (h := (VM.new 9).T.newH) (hV := f5) (hh := add1.rng) (hn := o3.1) (hlen := (by decide)) (hS := hS)) rfl ?_
      clear hS; rintro _ w ⟨V4, A1, f7, rfl, hS, f8, f9, f10, f11⟩
      replace hS : St g (Vst s1 a1 V4 :: Arn a1 A1 :: L) w := hS
      refine WL.nil ?_
      refine WC.seq ?_
      refine WC.region ?_
      have p4 := f5.t.opn_close o3.1 p3.1 (by rw [v3, w3]; decide); have q4 := f5.t.opn_close o3.1 add3.opn (by rw [v3, u3]; decide); have e4 : V4.T = V3.T.close (VM.new 9).T.newH := congrArg VM.T f9.eq; rw [← e4] at p4 q4; have u4 : V4.T.val V2.T.newH = 3 := (by rw [q4.2, u3]); have w4 : V4.T.val V1.T.newH = 2 := (by rw [p4.2, w3]); obtain ⟨ss, hss1, hss2, hss3⟩ := keysR_ex f8.k
      refine WL.r 1 rfl ?_
      refine WL.call rfl rfl (vs_ret (s := s1) (a := a1) (V := V4) (ss := ss) (hk := f8.k) (hp := hss1) (hs := hss2.imp (fun h => by omega)) (hS := hS)) rfl ?_
      clear hS; rintro _ w ⟨a2, c1, rfl, hS⟩
      replace hS : St g (Own 3 1 (i64s ss) a2 c1 :: Vst s1 a1 V4 :: Arn a1 A1 :: L) w := hS
      refine WL.r 1 rfl ?_
      refine WL.nil ?_
      refine WC.seq ?_
      refine WC.region ?_
      refine WL.r 2 rfl ?_
      refine WL.call rfl rfl (vs_release (s := s1) (a := a1) (V := V4) (A := A1) (R := []) (h := V2.T.newH) (hV := f8) (hh := add3.rng) (hn := q4.1) (hlen := (by decide)) (hS := (hS.sel 3 [1, 1, 0] rfl))) rfl ?_
      clear hS; rintro _ w ⟨V5, A2, f12, rfl, hS, f13, f14, f15, f16⟩
      replace hS : St g (Vst s1 a1 V5 :: Arn a1 A2 :: Own 3 1 (i64s ss) a2 c1 :: L) w := hS
      refine WL.nil ?_
      refine WC.seq ?_
      refine WC.region ?_
      have p5 := f8.t.opn_close q4.1 p4.1 (by rw [u4, w4]; decide); have e5 : V5.T = V4.T.close V2.T.newH := congrArg VM.T f14.eq; rw [← e5] at p5; have w5 : V5.T.val V1.T.newH = 2 := (by rw [p5.2, w4])
      refine WL.r 2 rfl ?_
      refine WL.call rfl rfl (vs_num_ok (s := s1) (a := a1) (V := V5) (h := V1.T.newH) (hT := f13.t) (hh := add2.rng) (hn := p5.1) (hS := hS)) rfl ?_
      clear hS; rintro _ w ⟨rfl, hS⟩
      replace hS : St g (Vst s1 a1 V5 :: Arn a1 A2 :: Own 3 1 (i64s ss) a2 c1 :: L) w := hS
      refine WL.r 5 rfl ?_
      refine WL.nil ?_
      as_aux_lemma =>
        refine WC.seq ?_
        refine WC.region ?_
        have k1 : V1.cap = 9 := add1.cap; have k2 : V2.cap = 9 := (by rw [add2.cap, k1]); have i1 : GI V1.xs V1.q 9 1 := (by have h9 := f1.g; rw [k1, l1] at h9; exact h9); have i2 : GI V2.xs V2.q 9 2 := (by have h9 := f3.g; rw [k2, l2] at h9; exact h9); have v1 : V1.T.val (VM.new 9).T.newH = 1 := add1.val; have a2' := add2.xs; rw [k1, l1, v1] at a2'; have a3' := add3.xs; rw [k2, l2, v2] at a3'; have r1' := f9.rel; rw [v3] at r1'; have r2' := f14.rel; rw [u4] at r2'; obtain ⟨z1, z2⟩ := awake22 i1 i2 add1.xs a2' a3' r1' r2'; have s1e := keys_is (l := [1, 2, 3]) hss3 f8.pre hss2 (by simp) (fun z => by rw [z1]; simp); obtain ⟨st, hst1, hst2, hst3⟩ := keysR_ex f13.k; have s2e := keys_is (l := [2]) hst3 f13.pre hst2 (by simp) (fun z => by rw [z2]; simp)
        refine WL.r 3 rfl ?_
        refine WL.reb 60 (.bool true) (congrArg Value.bool (decide_eq_true (by decide))) ?_
        refine WL.ung rfl rfl rfl ?_
        refine WL.r 1 rfl ?_
        refine WL.ung rfl rfl rfl ?_
        refine WL.r 3 rfl ?_
        refine WL.reb 64 (.bool true) (congrArg Value.bool (decide_eq_true (by decide))) ?_
        refine WL.ung rfl rfl rfl ?_
        refine WL.r 1 rfl ?_
        refine WL.ung rfl rfl rfl ?_
        refine WL.r 3 rfl ?_
        refine WL.reb 68 (.bool true) (congrArg Value.bool (decide_eq_true (by decide))) ?_
        refine WL.ung rfl rfl rfl ?_
        refine WL.r 1 rfl ?_
        refine WL.ung rfl rfl rfl ?_
        refine WL.lit rfl rfl (i64s [1, 2, 3]) el_33 hS (by exact ⟨rfl, rfl, rfl, rfl, rfl, rfl⟩) (i64s_ok _) rfl (by decide) (fun b1 w hS => ?_)
        refine WL.ung rfl rfl rfl ?_
        replace hS := (hS.at_ 3 rfl).share
        replace hS : St g (Sh 3 1 (i64s ss) a2 c1 :: Own 3 1 (i64s [1, 2, 3]) (some ⟨b1, 0, none⟩) (List.length (i64s [1, 2, 3])) :: Vst s1 a1 V5 :: Arn a1 A2 :: L) w := hS
        replace hS := (hS.at_ 1 rfl).share
        replace hS : St g (Sh 3 1 (i64s [1, 2, 3]) (some ⟨b1, 0, none⟩) (List.length (i64s [1, 2, 3])) :: Sh 3 1 (i64s ss) a2 c1 :: Vst s1 a1 V5 :: Arn a1 A2 :: L) w := hS
        refine WL.call rfl rfl (sameI (xs := ss) (ys := [1, 2, 3]) (a := a2) (b := some ⟨b1, 0, none⟩) (c := c1) (d := List.length (i64s [1, 2, 3])) (hl := (by first | (rw [s1e]; decide) | (rw [s2e]; decide))) (hS := (hS.sel 2 [1, 0] rfl))) rfl ?_
        clear hS; rintro _ w ⟨ok1, rfl, hS, f17⟩
        replace hS : St g (Sh 3 1 (i64s ss) a2 c1 :: Sh 3 1 (i64s [1, 2, 3]) (some ⟨b1, 0, none⟩) (List.length (i64s [1, 2, 3])) :: Vst s1 a1 V5 :: Arn a1 A2 :: L) w := hS
        refine WL.r 2 rfl ?_
        refine WL.reb 73 (.bool true) (congrArg Value.bool ((f17.2 s1e))) ?_
        refine WL.ung rfl rfl rfl ?_
        refine WL.r 1 rfl ?_
        refine WL.ung rfl rfl rfl ?_
        refine WL.call rfl rfl (vs_ret (s := s1) (a := a1) (V := V5) (ss := st) (hk := f13.k) (hp := hst1) (hs := hst2.imp (fun h => by omega)) (hS := (hS.sel 3 [2, 0, 0] rfl))) rfl ?_
        clear hS; rintro _ w ⟨a3, c2, rfl, hS⟩
        replace hS : St g (Own 3 1 (i64s st) a3 c2 :: Vst s1 a1 V5 :: Sh 3 1 (i64s ss) a2 c1 :: Sh 3 1 (i64s [1, 2, 3]) (some ⟨b1, 0, none⟩) (List.length (i64s [1, 2, 3])) :: Arn a1 A2 :: L) w := hS
        refine WL.ung rfl rfl rfl ?_
        refine WL.lit rfl rfl (i64s [2]) el_33 hS (by exact ⟨rfl, rfl⟩) (i64s_ok _) rfl (by decide) (fun b2 w hS => ?_)
        refine WL.ung rfl rfl rfl ?_
        replace hS := (hS.at_ 1 rfl).share
        replace hS : St g (Sh 3 1 (i64s st) a3 c2 :: Own 3 1 (i64s [2]) (some ⟨b2, 0, none⟩) (List.length (i64s [2])) :: Vst s1 a1 V5 :: Sh 3 1 (i64s ss) a2 c1 :: Sh 3 1 (i64s [1, 2, 3]) (some ⟨b1, 0, none⟩) (List.length (i64s [1, 2, 3])) :: Arn a1 A2 :: L) w := hS
        replace hS := (hS.at_ 1 rfl).share
        replace hS : St g (Sh 3 1 (i64s [2]) (some ⟨b2, 0, none⟩) (List.length (i64s [2])) :: Sh 3 1 (i64s st) a3 c2 :: Vst s1 a1 V5 :: Sh 3 1 (i64s ss) a2 c1 :: Sh 3 1 (i64s [1, 2, 3]) (some ⟨b1, 0, none⟩) (List.length (i64s [1, 2, 3])) :: Arn a1 A2 :: L) w := hS
        refine WL.call rfl rfl (sameI (xs := st) (ys := [2]) (a := a3) (b := some ⟨b2, 0, none⟩) (c := c2) (d := List.length (i64s [2])) (hl := (by first | (rw [s1e]; decide) | (rw [s2e]; decide))) (hS := (hS.sel 2 [1, 0] rfl))) rfl ?_
        clear hS; rintro _ w ⟨ok2, rfl, hS, f18⟩
        replace hS : St g (Sh 3 1 (i64s st) a3 c2 :: Sh 3 1 (i64s [2]) (some ⟨b2, 0, none⟩) (List.length (i64s [2])) :: Vst s1 a1 V5 :: Sh 3 1 (i64s ss) a2 c1 :: Sh 3 1 (i64s [1, 2, 3]) (some ⟨b1, 0, none⟩) (List.length (i64s [1, 2, 3])) :: Arn a1 A2 :: L) w := hS
        refine WL.r 2 rfl ?_
        refine WL.reb 79 (.bool true) (congrArg Value.bool ((f18.2 s2e))) ?_
        refine WL.ung rfl rfl rfl ?_
        refine WL.r 1 rfl ?_
        refine WL.ung rfl rfl rfl ?_
        refine WL.r 3 rfl ?_
        refine WL.reb 83 (.bool true) (congrArg Value.bool (decide_eq_true (w5))) ?_
        refine WL.ung rfl rfl rfl ?_
        refine WL.r 1 rfl ?_
        refine WL.ung rfl rfl rfl ?_
        refine WL.r 3 rfl ?_
        refine WL.nil ?_
        as_aux_lemma =>
          refine WC.ret ?_
          refine ⟨[.bool (decide (0 = 0))], rfl, ?_⟩
          replace hS := (hS.sel 6 [] rfl)
          exact ⟨rfl, hS⟩
theorem bif4 (p q r t : Prop) [Decidable p] [Decidable q] [Decidable r] [Decidable t] : (bif (bif (bif decide p then decide q else false) then decide r else false) then decide t else false) = decide (p ∧ q ∧ r ∧ t) := by
  by_cases h1 : p <;> by_cases h2 : q <;> by_cases h3 : r <;> by_cases h4 : t <;> simp [h1, h2, h3, h4]
theorem handles_new (n : Nat) : (TM.new n).handles = [] := by
  unfold TM.handles
  rw [show (List.filter (fun i : Nat => (TM.new n).s.ok (i : Int)) (List.range (TM.new n).s.used.length)) = [] from List.filter_eq_nil_iff.2 fun i _ => by rw [show (TM.new n).s = SM.new n from rfl, SM.new_live]; decide]
  rfl
set_option maxHeartbeats 1000000 in
set_option maxRecDepth 8192 in
theorem law_vnew_bad1 {g w : World} {L : List HP} (sl n small : Int) (hc : ¬ (1 ≤ n ∧ n ≤ 4096)) (hsr : -9223372036854775808 ≤ small ∧ small ≤ 9223372036854775807) (hS : St g (L) w) :
    Sp Try.prog 3 [.int .i64 sl, .int .i64 n, .int .i64 small] w (fun v w' => v = .bool true ∧ St g (L) w') := by
  refine Sp.enter Try.func3 rfl (by kernel_rfl) (by kernel_rfl) ?_
  have _ := hsr
  refine WC.seq ?_
  refine WC.region ?_
  refine WL.r 1 rfl ?_
  refine WL.nil ?_
  refine WC.seq ?_
  refine WC.region ?_
  refine WL.r 2 rfl ?_
  refine WL.rG 13 rfl (fun j => ?_)
  refine WL.prop 26 rfl (band (band (band (dd _) (dd _)) (dd _)) (dd _)) ?_
  refine WL.nil ?_
  refine WC.seq ?_
  refine WC.region ?_
  refine WL.r 2 rfl ?_
  refine WL.call rfl rfl (vs_new_bad1 (sl := sl) (cap := n) (hc := hc) (hS := hS)) rfl ?_
  clear hS; rintro _ w ⟨rfl, hS⟩
  replace hS : St g (L) w := hS
  refine WL.r 5 rfl ?_
  refine WL.nil ?_
  refine WC.seq ?_
  refine WC.seq ?_
  refine WC.region ?_
  have hb : (bif (bif (bif decide (1 ≤ sl) then decide (sl ≤ 65536) else false) then decide (1 ≤ n) else false) then decide (n ≤ 4096) else false) = false := (by rw [bif4]; exact decide_eq_false (by omega))
  refine WL.r 4 rfl ?_
  refine WL.rG 15 rfl (fun j => ?_)
  refine WL.prop 51 rfl (bor (bor (bnot (dv _)) (band (dd _) (dd _))) (bnot (dv _))) ?_
  refine WL.nil ?_
  as_aux_lemma =>
    refine WC.ifF rfl (decide_eq_false ((by rw [hb]; decide))) ?_
    refine WC.skip ?_
    refine WC.seq ?_
    refine WC.region ?_
    refine WL.r 1 rfl ?_
    refine WL.call rfl rfl (mod_spec (k := small) (n := 20) (hk := (by assumption)) (hn := (by omega)) (hS := hS)) rfl ?_
    clear hS; rintro _ w ⟨rfl, hS⟩
    replace hS : St g (L) w := hS
    refine WL.r 1 rfl ?_
    refine WL.nw 54 rfl (w64 (by omega)) ?_
    refine WL.r 1 rfl ?_
    refine WL.nil ?_
    refine WC.seq ?_
    refine WC.region ?_
    refine WL.r 2 rfl ?_
    refine WL.call rfl rfl (vs_new_ok (sl := 1 + (small % 20)) (cap := 1 + (small % 20)) (hc := (by omega)) (hs := (by omega)) (hS := hS)) rfl ?_
    clear hS; rintro _ w ⟨s1, a1, rfl, hS⟩
    replace hS : St g (Vst s1 a1 (VM.new (1 + (small % 20)).toNat) :: Arn a1 (AM.new (1 + (small % 20)).toNat) :: L) w := hS
    refine WL.r 5 rfl ?_
    refine WL.nil ?_
    refine WC.seq ?_
    refine WC.region ?_
    have hsm : 0 ≤ small % 20 ∧ small % 20 < 20 := by omega
    have hV := VI.new (slots := (1 + small % 20).toNat) (cap := (1 + small % 20).toNat) (by omega) (by omega); have hrn := room_new (n := (1 + small % 20).toNat); have hfn := SM.new_free (1 + small % 20).toNat; have hhn := handles_new (1 + small % 20).toNat
    refine WL.call rfl rfl (awake22_spec   (hS := hS)) rfl ?_
    clear hS; rintro _ w ⟨rfl, hS⟩
    replace hS : St g (Vst s1 a1 (VM.new (1 + (small % 20)).toNat) :: Arn a1 (AM.new (1 + (small % 20)).toNat) :: L) w := hS
    refine WL.r 1 rfl ?_
    refine WL.ung rfl rfl rfl ?_
    refine WL.r 1 rfl ?_
    refine WL.ung rfl rfl rfl ?_
    refine WL.r 3 rfl ?_
    refine WL.reb 66 (.bool true) (congrArg Value.bool (decide_eq_true (by decide))) ?_
    refine WL.ung rfl rfl rfl ?_
    refine WL.r 1 rfl ?_
    refine WL.ung rfl rfl rfl ?_
    refine WL.r 3 rfl ?_
    refine WL.ung rfl rfl rfl ?_
    refine WL.r 1 rfl ?_
    refine WL.ung rfl rfl rfl ?_
    refine WL.call rfl rfl (vs_arena (s := s1) (a := a1) (V := VM.new (1 + (small % 20)).toNat)  (hS := hS)) rfl ?_
    clear hS; rintro _ w ⟨rfl, hS⟩
    replace hS : St g (Vst s1 a1 (VM.new (1 + (small % 20)).toNat) :: Arn a1 (AM.new (1 + (small % 20)).toNat) :: L) w := hS
    refine WL.ung rfl rfl rfl ?_
    refine WL.r 3 rfl ?_
    refine WL.ung rfl rfl rfl ?_
    refine WL.r 1 rfl ?_
    refine WL.ung rfl rfl rfl ?_
    refine WL.call rfl rfl (vs_arena (s := s1) (a := a1) (V := VM.new (1 + (small % 20)).toNat)  (hS := hS)) rfl ?_
    clear hS; rintro _ w ⟨rfl, hS⟩
    replace hS : St g (Vst s1 a1 (VM.new (1 + (small % 20)).toNat) :: Arn a1 (AM.new (1 + (small % 20)).toNat) :: L) w := hS
    refine WL.ung rfl rfl rfl ?_
    refine WL.call rfl rfl (ar_free (a := a1) (A := AM.new (1 + (small % 20)).toNat) (hA := hV.ref.toAWf) (hS := (hS.sel 2 [1, 0] rfl))) rfl ?_
    clear hS; rintro _ w ⟨rfl, hS⟩
    replace hS : St g (Arn a1 (AM.new (1 + (small % 20)).toNat) :: Vst s1 a1 (VM.new (1 + (small % 20)).toNat) :: L) w := hS
    refine WL.ung rfl rfl rfl ?_
    refine WL.r 1 rfl ?_
    refine WL.ung rfl rfl rfl ?_
    refine WL.r 3 rfl ?_
    refine WL.reb 82 (.bool true) (congrArg Value.bool (decide_eq_true ((by rw [show (AM.new (1 + small % 20).toNat).s.free = ((1 + small % 20).toNat : Int) from hfn]; omega)))) ?_
    refine WL.ung rfl rfl rfl ?_
    refine WL.r 1 rfl ?_
    refine WL.ung rfl rfl rfl ?_
    refine WL.call rfl rfl (vs_room (s := s1) (a := a1) (V := VM.new (1 + (small % 20)).toNat) (ss := []) (hT := hV.t) (hG := hV.g) (hp := (List.Perm.refl _)) (hs := List.Pairwise.nil) (hS := (hS.sel 2 [1, 0] rfl))) rfl ?_
    clear hS; rintro _ w ⟨rfl, hS⟩
    replace hS : St g (Vst s1 a1 (VM.new (1 + (small % 20)).toNat) :: Arn a1 (AM.new (1 + (small % 20)).toNat) :: L) w := hS
    refine WL.ung rfl rfl rfl ?_
    refine WL.r 1 rfl ?_
    refine WL.ung rfl rfl rfl ?_
    refine WL.r 3 rfl ?_
    refine WL.reb 88 (.bool true) (congrArg Value.bool (decide_eq_true ((by rw [hrn]; omega)))) ?_
    refine WL.ung rfl rfl rfl ?_
    refine WL.r 1 rfl ?_
    refine WL.ung rfl rfl rfl ?_
    refine WL.call rfl rfl (vs_handles (s := s1) (a := a1) (V := VM.new (1 + (small % 20)).toNat) (hT := hV.t) (hS := hS)) rfl ?_
    clear hS; rintro _ w ⟨a2, c1, rfl, hS⟩
    replace hS : St g (Own 37 1 (u64s (VM.new (1 + (small % 20)).toNat).T.handles) a2 c1 :: Vst s1 a1 (VM.new (1 + (small % 20)).toNat) :: Arn a1 (AM.new (1 + (small % 20)).toNat) :: L) w := hS
    refine WL.ung rfl rfl rfl ?_
    refine WL.r 1 rfl ?_
    refine WL.ung rfl rfl rfl ?_
    refine WL.r 3 rfl ?_
    refine WL.reb 94 (.bool true) (congrArg Value.bool (decide_eq_true ((by rw [u64s_len, show (VM.new (1 + small % 20).toNat).T.handles = [] from hhn]; rfl)))) ?_
    refine WL.ung rfl rfl rfl ?_
    refine WL.r 1 rfl ?_
    refine WL.ung rfl rfl rfl ?_
    refine WL.call rfl rfl (vs_ret (s := s1) (a := a1) (V := VM.new (1 + (small % 20)).toNat) (ss := []) (hk := hV.k) (hp := (List.Perm.refl _)) (hs := List.Pairwise.nil) (hS := (hS.sel 2 [1, 0] rfl))) rfl ?_
    clear hS; rintro _ w ⟨a3, c2, rfl, hS⟩
    replace hS : St g (Own 3 1 (i64s []) a3 c2 :: Vst s1 a1 (VM.new (1 + (small % 20)).toNat) :: Own 37 1 (u64s (VM.new (1 + (small % 20)).toNat).T.handles) a2 c1 :: Arn a1 (AM.new (1 + (small % 20)).toNat) :: L) w := hS
    refine WL.ung rfl rfl rfl ?_
    refine WL.r 1 rfl ?_
    refine WL.ung rfl rfl rfl ?_
    refine WL.r 3 rfl ?_
    refine WL.nil ?_
    as_aux_lemma =>
      refine WC.ret ?_
      refine ⟨[.bool (decide ((List.length (i64s []) : Int) = 0))], rfl, ?_⟩
      replace hS := (hS.sel 4 [] rfl)
      exact ⟨rfl, hS⟩
set_option maxHeartbeats 1000000 in
set_option maxRecDepth 8192 in
theorem law_vnew_bad2 {g w : World} {L : List HP} (sl n small : Int) (hc : 1 ≤ n ∧ n ≤ 4096) (hsr : -9223372036854775808 ≤ small ∧ small ≤ 9223372036854775807) (hs : ¬ (1 ≤ sl ∧ sl ≤ 65536)) (hS : St g (L) w) :
    Sp Try.prog 3 [.int .i64 sl, .int .i64 n, .int .i64 small] w (fun v w' => v = .bool true ∧ St g (L) w') := by
  refine Sp.enter Try.func3 rfl (by kernel_rfl) (by kernel_rfl) ?_
  have _ := hsr
  refine WC.seq ?_
  refine WC.region ?_
  refine WL.r 1 rfl ?_
  refine WL.nil ?_
  refine WC.seq ?_
  refine WC.region ?_
  refine WL.r 2 rfl ?_
  refine WL.rG 13 rfl (fun j => ?_)
  refine WL.prop 26 rfl (band (band (band (dd _) (dd _)) (dd _)) (dd _)) ?_
  refine WL.nil ?_
  refine WC.seq ?_
  refine WC.region ?_
  refine WL.r 2 rfl ?_
  refine WL.call rfl rfl (vs_new_bad2 (sl := sl) (cap := n) (hc := hc) (hs := hs) (hS := hS)) rfl ?_
  clear hS; rintro _ w ⟨rfl, hS⟩
  replace hS : St g (L) w := hS
  refine WL.r 5 rfl ?_
  refine WL.nil ?_
  refine WC.seq ?_
  refine WC.seq ?_
  refine WC.region ?_
  have hb : (bif (bif (bif decide (1 ≤ sl) then decide (sl ≤ 65536) else false) then decide (1 ≤ n) else false) then decide (n ≤ 4096) else false) = false := (by rw [bif4]; exact decide_eq_false (by omega))
  refine WL.r 4 rfl ?_
  refine WL.rG 15 rfl (fun j => ?_)
  refine WL.prop 51 rfl (bor (bor (bnot (dv _)) (band (dd _) (dd _))) (bnot (dv _))) ?_
  refine WL.nil ?_
  as_aux_lemma =>
    refine WC.ifF rfl (decide_eq_false ((by rw [hb]; decide))) ?_
    refine WC.skip ?_
    refine WC.seq ?_
    refine WC.region ?_
    refine WL.r 1 rfl ?_
    refine WL.call rfl rfl (mod_spec (k := small) (n := 20) (hk := (by assumption)) (hn := (by omega)) (hS := hS)) rfl ?_
    clear hS; rintro _ w ⟨rfl, hS⟩
    replace hS : St g (L) w := hS
    refine WL.r 1 rfl ?_
    refine WL.nw 54 rfl (w64 (by omega)) ?_
    refine WL.r 1 rfl ?_
    refine WL.nil ?_
    refine WC.seq ?_
    refine WC.region ?_
    refine WL.r 2 rfl ?_
    refine WL.call rfl rfl (vs_new_ok (sl := 1 + (small % 20)) (cap := 1 + (small % 20)) (hc := (by omega)) (hs := (by omega)) (hS := hS)) rfl ?_
    clear hS; rintro _ w ⟨s1, a1, rfl, hS⟩
    replace hS : St g (Vst s1 a1 (VM.new (1 + (small % 20)).toNat) :: Arn a1 (AM.new (1 + (small % 20)).toNat) :: L) w := hS
    refine WL.r 5 rfl ?_
    refine WL.nil ?_
    refine WC.seq ?_
    refine WC.region ?_
    have hsm : 0 ≤ small % 20 ∧ small % 20 < 20 := by omega
    have hV := VI.new (slots := (1 + small % 20).toNat) (cap := (1 + small % 20).toNat) (by omega) (by omega); have hrn := room_new (n := (1 + small % 20).toNat); have hfn := SM.new_free (1 + small % 20).toNat; have hhn := handles_new (1 + small % 20).toNat
    refine WL.call rfl rfl (awake22_spec   (hS := hS)) rfl ?_
    clear hS; rintro _ w ⟨rfl, hS⟩
    replace hS : St g (Vst s1 a1 (VM.new (1 + (small % 20)).toNat) :: Arn a1 (AM.new (1 + (small % 20)).toNat) :: L) w := hS
    refine WL.r 1 rfl ?_
    refine WL.ung rfl rfl rfl ?_
    refine WL.r 1 rfl ?_
    refine WL.ung rfl rfl rfl ?_
    refine WL.r 3 rfl ?_
    refine WL.reb 66 (.bool true) (congrArg Value.bool (decide_eq_true (by decide))) ?_
    refine WL.ung rfl rfl rfl ?_
    refine WL.r 1 rfl ?_
    refine WL.ung rfl rfl rfl ?_
    refine WL.r 3 rfl ?_
    refine WL.ung rfl rfl rfl ?_
    refine WL.r 1 rfl ?_
    refine WL.ung rfl rfl rfl ?_
    refine WL.call rfl rfl (vs_arena (s := s1) (a := a1) (V := VM.new (1 + (small % 20)).toNat)  (hS := hS)) rfl ?_
    clear hS; rintro _ w ⟨rfl, hS⟩
    replace hS : St g (Vst s1 a1 (VM.new (1 + (small % 20)).toNat) :: Arn a1 (AM.new (1 + (small % 20)).toNat) :: L) w := hS
    refine WL.ung rfl rfl rfl ?_
    refine WL.r 3 rfl ?_
    refine WL.ung rfl rfl rfl ?_
    refine WL.r 1 rfl ?_
    refine WL.ung rfl rfl rfl ?_
    refine WL.call rfl rfl (vs_arena (s := s1) (a := a1) (V := VM.new (1 + (small % 20)).toNat)  (hS := hS)) rfl ?_
    clear hS; rintro _ w ⟨rfl, hS⟩
    replace hS : St g (Vst s1 a1 (VM.new (1 + (small % 20)).toNat) :: Arn a1 (AM.new (1 + (small % 20)).toNat) :: L) w := hS
    refine WL.ung rfl rfl rfl ?_
    refine WL.call rfl rfl (ar_free (a := a1) (A := AM.new (1 + (small % 20)).toNat) (hA := hV.ref.toAWf) (hS := (hS.sel 2 [1, 0] rfl))) rfl ?_
    clear hS; rintro _ w ⟨rfl, hS⟩
    replace hS : St g (Arn a1 (AM.new (1 + (small % 20)).toNat) :: Vst s1 a1 (VM.new (1 + (small % 20)).toNat) :: L) w := hS
    refine WL.ung rfl rfl rfl ?_
    refine WL.r 1 rfl ?_
    refine WL.ung rfl rfl rfl ?_
    refine WL.r 3 rfl ?_
    refine WL.reb 82 (.bool true) (congrArg Value.bool (decide_eq_true ((by rw [show (AM.new (1 + small % 20).toNat).s.free = ((1 + small % 20).toNat : Int) from hfn]; omega)))) ?_
    refine WL.ung rfl rfl rfl ?_
    refine WL.r 1 rfl ?_
    refine WL.ung rfl rfl rfl ?_
    refine WL.call rfl rfl (vs_room (s := s1) (a := a1) (V := VM.new (1 + (small % 20)).toNat) (ss := []) (hT := hV.t) (hG := hV.g) (hp := (List.Perm.refl _)) (hs := List.Pairwise.nil) (hS := (hS.sel 2 [1, 0] rfl))) rfl ?_
    clear hS; rintro _ w ⟨rfl, hS⟩
    replace hS : St g (Vst s1 a1 (VM.new (1 + (small % 20)).toNat) :: Arn a1 (AM.new (1 + (small % 20)).toNat) :: L) w := hS
    refine WL.ung rfl rfl rfl ?_
    refine WL.r 1 rfl ?_
    refine WL.ung rfl rfl rfl ?_
    refine WL.r 3 rfl ?_
    refine WL.reb 88 (.bool true) (congrArg Value.bool (decide_eq_true ((by rw [hrn]; omega)))) ?_
    refine WL.ung rfl rfl rfl ?_
    refine WL.r 1 rfl ?_
    refine WL.ung rfl rfl rfl ?_
    refine WL.call rfl rfl (vs_handles (s := s1) (a := a1) (V := VM.new (1 + (small % 20)).toNat) (hT := hV.t) (hS := hS)) rfl ?_
    clear hS; rintro _ w ⟨a2, c1, rfl, hS⟩
    replace hS : St g (Own 37 1 (u64s (VM.new (1 + (small % 20)).toNat).T.handles) a2 c1 :: Vst s1 a1 (VM.new (1 + (small % 20)).toNat) :: Arn a1 (AM.new (1 + (small % 20)).toNat) :: L) w := hS
    refine WL.ung rfl rfl rfl ?_
    refine WL.r 1 rfl ?_
    refine WL.ung rfl rfl rfl ?_
    refine WL.r 3 rfl ?_
    refine WL.reb 94 (.bool true) (congrArg Value.bool (decide_eq_true ((by rw [u64s_len, show (VM.new (1 + small % 20).toNat).T.handles = [] from hhn]; rfl)))) ?_
    refine WL.ung rfl rfl rfl ?_
    refine WL.r 1 rfl ?_
    refine WL.ung rfl rfl rfl ?_
    refine WL.call rfl rfl (vs_ret (s := s1) (a := a1) (V := VM.new (1 + (small % 20)).toNat) (ss := []) (hk := hV.k) (hp := (List.Perm.refl _)) (hs := List.Pairwise.nil) (hS := (hS.sel 2 [1, 0] rfl))) rfl ?_
    clear hS; rintro _ w ⟨a3, c2, rfl, hS⟩
    replace hS : St g (Own 3 1 (i64s []) a3 c2 :: Vst s1 a1 (VM.new (1 + (small % 20)).toNat) :: Own 37 1 (u64s (VM.new (1 + (small % 20)).toNat).T.handles) a2 c1 :: Arn a1 (AM.new (1 + (small % 20)).toNat) :: L) w := hS
    refine WL.ung rfl rfl rfl ?_
    refine WL.r 1 rfl ?_
    refine WL.ung rfl rfl rfl ?_
    refine WL.r 3 rfl ?_
    refine WL.nil ?_
    as_aux_lemma =>
      refine WC.ret ?_
      refine ⟨[.bool (decide ((List.length (i64s []) : Int) = 0))], rfl, ?_⟩
      replace hS := (hS.sel 4 [] rfl)
      exact ⟨rfl, hS⟩
set_option maxHeartbeats 1000000 in
set_option maxRecDepth 8192 in
theorem law_vnew_ok {g w : World} {L : List HP} (sl n small : Int) (hc : 1 ≤ n ∧ n ≤ 4096) (hsr : -9223372036854775808 ≤ small ∧ small ≤ 9223372036854775807) (hs : 1 ≤ sl ∧ sl ≤ 65536) (hS : St g (L) w) :
    Sp Try.prog 3 [.int .i64 sl, .int .i64 n, .int .i64 small] w (fun v w' => v = .bool true ∧ St g (L) w') := by
  refine Sp.enter Try.func3 rfl (by kernel_rfl) (by kernel_rfl) ?_
  have _ := hsr
  refine WC.seq ?_
  refine WC.region ?_
  refine WL.r 1 rfl ?_
  refine WL.nil ?_
  refine WC.seq ?_
  refine WC.region ?_
  refine WL.r 2 rfl ?_
  refine WL.rG 13 rfl (fun j => ?_)
  refine WL.prop 26 rfl (band (band (band (dd _) (dd _)) (dd _)) (dd _)) ?_
  refine WL.nil ?_
  refine WC.seq ?_
  refine WC.region ?_
  refine WL.r 2 rfl ?_
  refine WL.call rfl rfl (vs_new_ok (sl := sl) (cap := n) (hc := hc) (hs := hs) (hS := hS)) rfl ?_
  clear hS; rintro _ w ⟨s1, a1, rfl, hS⟩
  replace hS : St g (Vst s1 a1 (VM.new n.toNat) :: Arn a1 (AM.new sl.toNat) :: L) w := hS
  refine WL.r 5 rfl ?_
  refine WL.nil ?_
  refine WC.seq ?_
  refine WC.seq ?_
  refine WC.region ?_
  have hb : (bif (bif (bif decide (1 ≤ sl) then decide (sl ≤ 65536) else false) then decide (1 ≤ n) else false) then decide (n ≤ 4096) else false) = true := (by rw [bif4]; exact decide_eq_true (by omega))
  refine WL.r 4 rfl ?_
  refine WL.rG 15 rfl (fun j => ?_)
  refine WL.prop 51 rfl (bor (bor (bnot (dv _)) (band (dd _) (dd _))) (bnot (dv _))) ?_
  refine WL.nil ?_
  as_aux_lemma =>
    refine WC.ifF rfl (decide_eq_false ((by rw [hb]; simp))) ?_
    refine WC.skip ?_
    refine WC.seq ?_
    refine WC.region ?_
    refine WL.r 1 rfl ?_
    refine WL.call rfl rfl (mod_spec (k := small) (n := 20) (hk := (by assumption)) (hn := (by omega)) (hS := hS)) rfl ?_
    clear hS; rintro _ w ⟨rfl, hS⟩
    replace hS : St g (Vst s1 a1 (VM.new n.toNat) :: Arn a1 (AM.new sl.toNat) :: L) w := hS
    refine WL.r 1 rfl ?_
    refine WL.nw 54 rfl (w64 (by omega)) ?_
    refine WL.r 1 rfl ?_
    refine WL.nil ?_
    refine WC.seq ?_
    refine WC.region ?_
    refine WL.r 2 rfl ?_
    refine WL.call rfl rfl (vs_new_ok (sl := 1 + (small % 20)) (cap := 1 + (small % 20)) (hc := (by omega)) (hs := (by omega)) (hS := hS)) rfl ?_
    clear hS; rintro _ w ⟨s2, a2, rfl, hS⟩
    replace hS : St g (Vst s2 a2 (VM.new (1 + (small % 20)).toNat) :: Arn a2 (AM.new (1 + (small % 20)).toNat) :: Vst s1 a1 (VM.new n.toNat) :: Arn a1 (AM.new sl.toNat) :: L) w := hS
    refine WL.r 5 rfl ?_
    refine WL.nil ?_
    refine WC.seq ?_
    refine WC.region ?_
    have hsm : 0 ≤ small % 20 ∧ small % 20 < 20 := by omega
    have hV := VI.new (slots := (1 + small % 20).toNat) (cap := (1 + small % 20).toNat) (by omega) (by omega); have hrn := room_new (n := (1 + small % 20).toNat); have hfn := SM.new_free (1 + small % 20).toNat; have hhn := handles_new (1 + small % 20).toNat
    refine WL.call rfl rfl (awake22_spec   (hS := hS)) rfl ?_
    clear hS; rintro _ w ⟨rfl, hS⟩
    replace hS : St g (Vst s2 a2 (VM.new (1 + (small % 20)).toNat) :: Arn a2 (AM.new (1 + (small % 20)).toNat) :: Vst s1 a1 (VM.new n.toNat) :: Arn a1 (AM.new sl.toNat) :: L) w := hS
    refine WL.r 1 rfl ?_
    refine WL.ung rfl rfl rfl ?_
    refine WL.r 1 rfl ?_
    refine WL.ung rfl rfl rfl ?_
    refine WL.r 3 rfl ?_
    refine WL.reb 66 (.bool true) (congrArg Value.bool (decide_eq_true (by decide))) ?_
    refine WL.ung rfl rfl rfl ?_
    refine WL.r 1 rfl ?_
    refine WL.ung rfl rfl rfl ?_
    refine WL.r 3 rfl ?_
    refine WL.ung rfl rfl rfl ?_
    refine WL.r 1 rfl ?_
    refine WL.ung rfl rfl rfl ?_
    refine WL.call rfl rfl (vs_arena (s := s2) (a := a2) (V := VM.new (1 + (small % 20)).toNat)  (hS := hS)) rfl ?_
    clear hS; rintro _ w ⟨rfl, hS⟩
    replace hS : St g (Vst s2 a2 (VM.new (1 + (small % 20)).toNat) :: Arn a2 (AM.new (1 + (small % 20)).toNat) :: Vst s1 a1 (VM.new n.toNat) :: Arn a1 (AM.new sl.toNat) :: L) w := hS
    refine WL.ung rfl rfl rfl ?_
    refine WL.r 3 rfl ?_
    refine WL.ung rfl rfl rfl ?_
    refine WL.r 1 rfl ?_
    refine WL.ung rfl rfl rfl ?_
    refine WL.call rfl rfl (vs_arena (s := s2) (a := a2) (V := VM.new (1 + (small % 20)).toNat)  (hS := hS)) rfl ?_
    clear hS; rintro _ w ⟨rfl, hS⟩
    replace hS : St g (Vst s2 a2 (VM.new (1 + (small % 20)).toNat) :: Arn a2 (AM.new (1 + (small % 20)).toNat) :: Vst s1 a1 (VM.new n.toNat) :: Arn a1 (AM.new sl.toNat) :: L) w := hS
    refine WL.ung rfl rfl rfl ?_
    refine WL.call rfl rfl (ar_free (a := a2) (A := AM.new (1 + (small % 20)).toNat) (hA := hV.ref.toAWf) (hS := (hS.sel 2 [1, 0] rfl))) rfl ?_
    clear hS; rintro _ w ⟨rfl, hS⟩
    replace hS : St g (Arn a2 (AM.new (1 + (small % 20)).toNat) :: Vst s2 a2 (VM.new (1 + (small % 20)).toNat) :: Vst s1 a1 (VM.new n.toNat) :: Arn a1 (AM.new sl.toNat) :: L) w := hS
    refine WL.ung rfl rfl rfl ?_
    refine WL.r 1 rfl ?_
    refine WL.ung rfl rfl rfl ?_
    refine WL.r 3 rfl ?_
    refine WL.reb 82 (.bool true) (congrArg Value.bool (decide_eq_true ((by rw [show (AM.new (1 + small % 20).toNat).s.free = ((1 + small % 20).toNat : Int) from hfn]; omega)))) ?_
    refine WL.ung rfl rfl rfl ?_
    refine WL.r 1 rfl ?_
    refine WL.ung rfl rfl rfl ?_
    refine WL.call rfl rfl (vs_room (s := s2) (a := a2) (V := VM.new (1 + (small % 20)).toNat) (ss := []) (hT := hV.t) (hG := hV.g) (hp := (List.Perm.refl _)) (hs := List.Pairwise.nil) (hS := (hS.sel 2 [1, 0] rfl))) rfl ?_
    clear hS; rintro _ w ⟨rfl, hS⟩
    replace hS : St g (Vst s2 a2 (VM.new (1 + (small % 20)).toNat) :: Arn a2 (AM.new (1 + (small % 20)).toNat) :: Vst s1 a1 (VM.new n.toNat) :: Arn a1 (AM.new sl.toNat) :: L) w := hS
    refine WL.ung rfl rfl rfl ?_
    refine WL.r 1 rfl ?_
    refine WL.ung rfl rfl rfl ?_
    refine WL.r 3 rfl ?_
    refine WL.reb 88 (.bool true) (congrArg Value.bool (decide_eq_true ((by rw [hrn]; omega)))) ?_
    refine WL.ung rfl rfl rfl ?_
    refine WL.r 1 rfl ?_
    refine WL.ung rfl rfl rfl ?_
    refine WL.call rfl rfl (vs_handles (s := s2) (a := a2) (V := VM.new (1 + (small % 20)).toNat) (hT := hV.t) (hS := hS)) rfl ?_
    clear hS; rintro _ w ⟨a3, c1, rfl, hS⟩
    replace hS : St g (Own 37 1 (u64s (VM.new (1 + (small % 20)).toNat).T.handles) a3 c1 :: Vst s2 a2 (VM.new (1 + (small % 20)).toNat) :: Arn a2 (AM.new (1 + (small % 20)).toNat) :: Vst s1 a1 (VM.new n.toNat) :: Arn a1 (AM.new sl.toNat) :: L) w := hS
    refine WL.ung rfl rfl rfl ?_
    refine WL.r 1 rfl ?_
    refine WL.ung rfl rfl rfl ?_
    refine WL.r 3 rfl ?_
    refine WL.reb 94 (.bool true) (congrArg Value.bool (decide_eq_true ((by rw [u64s_len, show (VM.new (1 + small % 20).toNat).T.handles = [] from hhn]; rfl)))) ?_
    refine WL.ung rfl rfl rfl ?_
    refine WL.r 1 rfl ?_
    refine WL.ung rfl rfl rfl ?_
    refine WL.call rfl rfl (vs_ret (s := s2) (a := a2) (V := VM.new (1 + (small % 20)).toNat) (ss := []) (hk := hV.k) (hp := (List.Perm.refl _)) (hs := List.Pairwise.nil) (hS := (hS.sel 2 [1, 0] rfl))) rfl ?_
    clear hS; rintro _ w ⟨a4, c2, rfl, hS⟩
    replace hS : St g (Own 3 1 (i64s []) a4 c2 :: Vst s2 a2 (VM.new (1 + (small % 20)).toNat) :: Own 37 1 (u64s (VM.new (1 + (small % 20)).toNat).T.handles) a3 c1 :: Arn a2 (AM.new (1 + (small % 20)).toNat) :: Vst s1 a1 (VM.new n.toNat) :: Arn a1 (AM.new sl.toNat) :: L) w := hS
    refine WL.ung rfl rfl rfl ?_
    refine WL.r 1 rfl ?_
    refine WL.ung rfl rfl rfl ?_
    refine WL.r 3 rfl ?_
    refine WL.nil ?_
    as_aux_lemma =>
      refine WC.ret ?_
      refine ⟨[.bool (decide ((List.length (i64s []) : Int) = 0))], rfl, ?_⟩
      replace hS := (hS.sel 6 [] rfl)
      exact ⟨rfl, hS⟩
theorem law_vnew {g w : World} {L : List HP} (sl n small : Int) (hsr : -9223372036854775808 ≤ small ∧ small ≤ 9223372036854775807) (hS : St g (L) w) :
    Sp Try.prog 3 [.int .i64 sl, .int .i64 n, .int .i64 small] w (fun v w' => v = .bool true ∧ St g (L) w') := by
  by_cases hc : 1 ≤ n ∧ n ≤ 4096
  · by_cases hs : 1 ≤ sl ∧ sl ≤ 65536
    · exact law_vnew_ok sl n small hc hsr hs hS
    · exact law_vnew_bad2 sl n small hc hsr hs hS
  · exact law_vnew_bad1 sl n small hc hsr hS
end Go.Proofs.Ytlnlnebibgdjdaa
