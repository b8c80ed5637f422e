/-
  What the proof of Jvb stands on, part 4.
  Conditions: none.
-/
import Derived.Test.YtbeacjcmdijdmaaGreatZvbC
/-! ## V5 -/
namespace Go.Proofs.YtbeacjcmdijdmaaGreat
open Go Go.V Go.RowKit
theorem Com.get {V V2 : VM} {root : Int} {ps : List Int} (h : Com V root ps V2) : V2.T = V.T.open (V.last + 1) ∧ V2.last = V.last + 1 ∧ V2.cap = V.cap ∧ AddP V.xs V.cap V.last ps V2.xs (V.last + 1) ∧ V2.xs.length = V.xs.length + 1 ∨ (∃ x ∈ V.xs, V.last < x.n) := by
  obtain ⟨⟨xs2, q, rfl, hA⟩, h0⟩ := h
  by_cases hx : ∃ x ∈ V.xs, V.last < x.n
  · exact .inr hx
  · left
    have hle : ∀ x ∈ V.xs, x.n ≤ V.last := fun x hm => Classical.byContradiction fun h => hx ⟨x, hm, by omega⟩
    exact ⟨rfl, rfl, rfl, hA, ((AddP.facts hle hA).resolve_left fun e => e.1 h0).2.2.2.2.2⟩
structure Add1 (V : VM) (ps : List Int) (V2 : VM) : Prop where
  T : V2.T = V.T.open (V.last + 1)
  la : V2.last = V.last + 1
  cap : V2.cap = V.cap
  xs : AddP V.xs V.cap V.last ps V2.xs (V.last + 1)
  len : V2.xs.length = V.xs.length + 1
  opn : V2.T.s.opn V.T.newH = true
  val : V2.T.val V.T.newH = V.last + 1
  rng : 0 ≤ V.T.newH ∧ V.T.newH ≤ 18446744073709551615
  free : V2.T.s.free = V.T.s.free - 1
  old : ∀ x, V.T.s.opn x = true → V2.T.s.opn x = true ∧ V2.T.val x = V.T.val x
theorem Com.add1 {V V2 : VM} {A : AM} {R ps : List Int} {root : Int} (hV : VI V A R) (h : Com V root ps V2) (hr : 0 < V.room) : Add1 V ps V2 := by
  obtain ⟨h1, h2, h3, h4, h5⟩ := h.get.resolve_right (fun ⟨x, hx, hlt⟩ => by have := hV.g.le x hx; omega)
  have hf := (room_pos hV hr).2
  have h6 := hV.t.newH_opn hf (V.last + 1)
  refine ⟨h1, h2, h3, h4, h5, by rw [h1]; exact h6.1, by rw [h1]; exact h6.2, (TM.newH_mod hV.t hf).2, by rw [h1]; exact SM.alloc_free _, fun x hx => ?_⟩
  rw [h1]
  exact hV.t.opn_open hf _ hx
theorem room_add {V V2 : VM} {A A2 : AM} {R ps R2 : List Int} (hV : VI V A R) (h2 : VI V2 A2 R2) (h : Add1 V ps V2) : V2.room = V.room - 1 := by
  have h1 := h.len; have h3 := h.free; have h4 := hV.cp; have h5 := h2.cp; have h6 := h.cap
  unfold VM.room
  omega
theorem keys_is {rs : List RN} {ss : List Int} {xs : List VN} (hk : ∀ z, z ∈ ss ↔ ∃ r ∈ rs, r.n = z) (hp : ∀ z, (∃ r ∈ rs, r.n = z) ↔ preG xs z = true) (ha : ss.Pairwise fun a b => a < b) {l : List Int} (hl : l.Pairwise fun a b => a < b) (h : ∀ z, preG xs z = true ↔ z ∈ l) : ss = l :=
  asc_ext ha hl fun z => by rw [hk, hp, h]
theorem room_new {n : Nat} : (VM.new n).room = n := by
  unfold VM.room
  show min ((n : Int) - 0) ((n : Int) - ((SM.new n).cap - (SM.new n).free)) = n
  rw [SM.new_free]
  have : (SM.new n).cap = n := by unfold SM.cap SM.new; simp
  rw [this]; omega
set_option maxRecDepth 8192 in
theorem vs_arena {g w : World} {L : List HP} (s a : Nat) (V : VM) (hS : St g (Vst s a V :: L) w) :
    Sp Tryz.prog 11 [.pointer (some ⟨s, 0, none⟩)] w (fun v w' => v = .pointer (some ⟨a, 0, none⟩) ∧ St g (Vst s a V :: L) w') := by
  refine Sp.enter Tryz.func11 rfl (by kernel_rfl) (by kernel_rfl) ?_
  refine WC.seq <| WC.region ?_
  obtain ⟨⟨vt, vp, vm, vr⟩, hS⟩ := St.exOpen (f := vstF s a V) hS
  replace hS : St g (cel s #[.pointer (some ⟨a, 0, none⟩), .pointer (some ⟨vt, 0, none⟩), .pointer (some ⟨vp, 0, none⟩), .map (some vr), .int .i64 V.cap] 144 :: Tbl vt V.T :: cel vp #[.int .i64 V.cap, .int .i64 V.last, .map (some vm)] 231 :: blk vm (.map (mE (List.map vK V.xs)) V.q) :: Shs vF V.xs :: blk vr (.map (mE (List.map rK V.rs)) V.q2) :: L) w := hS
  refine WL.r 1 rfl <| WL.nil <| WC.seq <| WC.region <| WL.run 5 [.pointer (some ⟨a, 0, none⟩)] rfl (by exact hS.ld 0 rfl rfl) ?_
  refine WL.nil <| WC.ret ?_
  replace hS := St.exClose (f := vstF s a V) (L := L) ⟨vt, vp, vm, vr⟩ (hS)
  replace hS : St g (Vst s a V :: L) w := hS
  refine ⟨[.pointer (some ⟨a, 0, none⟩)], rfl, ?_⟩
  exact ⟨rfl, hS⟩
set_option maxHeartbeats 2000000 in
set_option maxRecDepth 8192 in
theorem awake22_spec {g w : World} {L : List HP} (hS : St g (L) w) :
    Sp Tryz.prog 9 [] w (fun v w' => v = .bool true ∧ St g (L) w') := by
  refine Sp.enter Tryz.func9 rfl (by kernel_rfl) (by kernel_rfl) ?_
  refine WC.seq <| WC.region <| WL.r 1 rfl <| WL.nil <| WC.seq <| WC.region <| WL.call rfl rfl (vs_new_ok (sl := 9) (cap := 9) (hc := (by decide)) (hs := (by decide)) (hS := hS)) rfl ?_
  clear hS; rintro _ w ⟨s1, a1, rfl, hS⟩
  replace hS : St g (Vst s1 a1 (VM.new 9) :: Arn a1 (AM.new 9) :: L) w := hS
  refine WL.r 5 rfl <| WL.nil <| WC.seq <| WC.seq <| WC.region <| WL.r 3 rfl <| WL.reb 18 (.bool false) (congrArg Value.bool (decide_eq_false (by decide))) ?_
  refine WL.ung rfl rfl rfl <| WL.r 1 rfl <| WL.ung rfl rfl rfl <| WL.r 3 rfl <| WL.ung rfl rfl rfl <| WL.r 1 rfl <| WL.ung rfl rfl rfl <| WL.call rfl rfl (vs_arena (s := s1) (a := a1) (V := VM.new 9)  (hS := hS)) rfl ?_
  clear hS; rintro _ w ⟨rfl, hS⟩
  replace hS := hS.n2 L rfl
  refine WL.ung rfl rfl rfl <| WL.r 2 rfl <| WL.nil ?_
  as_aux_lemma =>
  refine WC.ifF rfl rfl <| WC.skip <| WC.seq <| WC.region ?_
  have hV0 := VI.new (slots := 9) (cap := 9) (by omega) (by omega); have hr0 := room_new (n := 9)
  refine WL.r 1 rfl <| WL.call rfl rfl (vs_create (s := s1) (a := a1) (V := VM.new 9) (A := AM.new 9) (R := []) (hV := hV0) (hrm := (by rw [hr0]; decide)) (hla := (by decide)) (hlen := (by decide)) (hS := hS)) rfl ?_
  clear hS; rintro _ w ⟨V1, rfl, hS, f1, f2⟩
  replace hS := hS.n2 L (a0 := Vst s1 a1 V1) rfl
  refine WL.r 5 rfl <| WL.nil <| WC.seq <| WC.region ?_
  have add1 := Com.add1 hV0 f2 (by rw [hr0]; decide); have r1 := room_add hV0 f1 add1; have l1 : V1.last = 1 := add1.la
  refine WL.r 2 rfl <| WL.call rfl rfl (vs_snap (s := s1) (a := a1) (V := V1) (A := AM.new 9) (R := []) (h := (VM.new 9).T.newH) (hV := f1) (hh := add1.rng) (hn := add1.opn) (hrm := (by rw [r1, hr0]; decide)) (hla := (by rw [l1]; decide)) (hlen := (by decide)) (hS := hS)) rfl ?_
  clear hS; rintro _ w ⟨V2, rfl, hS, f3, f4⟩
  replace hS : St g (Vst s1 a1 V2 :: Arn a1 ((AM.new 9).ret (V1.rootOf (V1.T.val (VM.new 9).T.newH))) :: L) w := hS
  refine WL.r 5 rfl <| WL.nil <| WC.seq <| WC.region ?_
  have add2 := Com.add1 f1 f4 (by rw [r1, hr0]; decide); have r2 := room_add f1 f3 add2; have l2 : V2.last = 2 := (by rw [add2.la, l1]; rfl); have o2 := add2.old _ add1.opn; have v2 : V2.T.val (VM.new 9).T.newH = 1 := (by rw [o2.2, add1.val]; rfl)
  refine WL.r 2 rfl <| WL.call rfl rfl (vs_snap (s := s1) (a := a1) (V := V2) (A := (AM.new 9).ret (V1.rootOf (V1.T.val (VM.new 9).T.newH))) (R := []) (h := (VM.new 9).T.newH) (hV := f3) (hh := add1.rng) (hn := o2.1) (hrm := (by rw [r2, r1, hr0]; decide)) (hla := (by rw [l2]; decide)) (hlen := (by decide)) (hS := hS)) rfl ?_
  clear hS; rintro _ w ⟨V3, rfl, hS, f5, f6⟩
  replace hS : St g (Vst s1 a1 V3 :: Arn a1 (((AM.new 9).ret (V1.rootOf (V1.T.val (VM.new 9).T.newH))).ret (V2.rootOf (V2.T.val (VM.new 9).T.newH))) :: L) w := hS
  refine WL.r 5 rfl <| WL.nil ?_
  as_aux_lemma =>
  refine WC.seq <| WC.region ?_
  have add3 := Com.add1 f3 f6 (by rw [r2, r1, hr0]; decide); have l3 : V3.last = 3 := (by rw [add3.la, l2]; rfl); have o3 := add3.old _ o2.1; have v3 : V3.T.val (VM.new 9).T.newH = 1 := (by rw [o3.2, v2]); have p3 := add3.old _ add2.opn; have w3 : V3.T.val V1.T.newH = 2 := (by rw [p3.2, add2.val, l1]; rfl); have u3 : V3.T.val V2.T.newH = 3 := (by rw [add3.val, l2]; rfl)
  refine WL.r 2 rfl <| WL.call rfl rfl (vs_release (s := s1) (a := a1) (V := V3) (A := ((AM.new 9).ret (V1.rootOf (V1.T.val (VM.new 9).T.newH))).ret (V2.rootOf (V2.T.val (VM.new 9).T.newH))) (R := []) (h := (VM.new 9).T.newH) (hV := f5) (hh := add1.rng) (hn := o3.1) (hlen := (by decide)) (hS := hS)) rfl ?_
  clear hS; rintro _ w ⟨V4, A1, f7, rfl, hS, f8, f9, f10, f11⟩
  replace hS : St g (Vst s1 a1 V4 :: Arn a1 A1 :: L) w := hS
  refine WL.nil <| WC.seq <| WC.region ?_
  have p4 := f5.t.opn_close o3.1 p3.1 (by rw [v3, w3]; decide); have q4 := f5.t.opn_close o3.1 add3.opn (by rw [v3, u3]; decide); have e4 : V4.T = V3.T.close (VM.new 9).T.newH := congrArg VM.T f9.eq; rw [← e4] at p4 q4; have u4 : V4.T.val V2.T.newH = 3 := (by rw [q4.2, u3]); have w4 : V4.T.val V1.T.newH = 2 := (by rw [p4.2, w3]); obtain ⟨ss, hss1, hss2, hss3⟩ := keysR_ex f8.k
  refine WL.r 1 rfl <| WL.call rfl rfl (vs_ret (s := s1) (a := a1) (V := V4) (ss := ss) (hk := f8.k) (hp := hss1) (hs := hss2.imp (fun h => by omega)) (hS := hS)) rfl ?_
  clear hS; rintro _ w ⟨a2, c1, rfl, hS⟩
  replace hS := hS.n3 L (a0 := Own 3 1 (i64s ss) a2 c1) rfl
  refine WL.r 1 rfl <| WL.nil <| WC.seq <| WC.region <| WL.r 2 rfl <| WL.call rfl rfl (vs_release (s := s1) (a := a1) (V := V4) (A := A1) (R := []) (h := V2.T.newH) (hV := f8) (hh := add3.rng) (hn := q4.1) (hlen := (by decide)) (hS := (hS.sel 3 [1, 1, 0] rfl))) rfl ?_
  clear hS; rintro _ w ⟨V5, A2, f12, rfl, hS, f13, f14, f15, f16⟩
  replace hS := hS.n3 L (a0 := Vst s1 a1 V5) (a1 := Arn a1 A2) rfl
  refine WL.nil <| WC.seq <| WC.region ?_
  have p5 := f8.t.opn_close q4.1 p4.1 (by rw [u4, w4]; decide); have e5 : V5.T = V4.T.close V2.T.newH := congrArg VM.T f14.eq; rw [← e5] at p5; have w5 : V5.T.val V1.T.newH = 2 := (by rw [p5.2, w4])
  refine WL.r 2 rfl <| WL.call rfl rfl (vs_num_ok (s := s1) (a := a1) (V := V5) (h := V1.T.newH) (hT := f13.t) (hh := add2.rng) (hn := p5.1) (hS := hS)) rfl ?_
  clear hS; rintro _ w ⟨rfl, hS⟩
  replace hS := hS.n3 L rfl
  refine WL.r 5 rfl <| WL.nil ?_
  as_aux_lemma =>
  refine WC.seq <| WC.region ?_
  have k1 : V1.cap = 9 := add1.cap; have k2 : V2.cap = 9 := (by rw [add2.cap, k1]); have i1 : GI V1.xs V1.q 9 1 := (by have h9 := f1.g; rw [k1, l1] at h9; exact h9); have i2 : GI V2.xs V2.q 9 2 := (by have h9 := f3.g; rw [k2, l2] at h9; exact h9); have v1 : V1.T.val (VM.new 9).T.newH = 1 := add1.val; have a2' := add2.xs; rw [k1, l1, v1] at a2'; have a3' := add3.xs; rw [k2, l2, v2] at a3'; have r1' := f9.rel; rw [v3] at r1'; have r2' := f14.rel; rw [u4] at r2'; obtain ⟨z1, z2⟩ := awake22 i1 i2 add1.xs a2' a3' r1' r2'; have s1e := keys_is (l := [1, 2, 3]) hss3 f8.pre hss2 (by simp) (fun z => by rw [z1]; simp); obtain ⟨st, hst1, hst2, hst3⟩ := keysR_ex f13.k; have s2e := keys_is (l := [2]) hst3 f13.pre hst2 (by simp) (fun z => by rw [z2]; simp)
  refine WL.r 3 rfl <| WL.reb 60 (.bool true) (congrArg Value.bool (decide_eq_true (by decide))) ?_
  refine WL.ung rfl rfl rfl <| WL.r 1 rfl <| WL.ung rfl rfl rfl <| WL.r 3 rfl <| WL.reb 64 (.bool true) (congrArg Value.bool (decide_eq_true (by decide))) ?_
  refine WL.ung rfl rfl rfl <| WL.r 1 rfl <| WL.ung rfl rfl rfl <| WL.r 3 rfl <| WL.reb 68 (.bool true) (congrArg Value.bool (decide_eq_true (by decide))) ?_
  refine WL.ung rfl rfl rfl <| WL.r 1 rfl <| WL.ung rfl rfl rfl <| WL.lit rfl rfl (i64s [1, 2, 3]) el_56 hS (by exact ⟨rfl, rfl, rfl, rfl, rfl, rfl⟩) (i64s_ok _) rfl (Nat.le_of_ble_eq_true rfl) (fun b1 w hS => ?_)
  refine WL.ung rfl rfl rfl ?_
  replace hS := (hS.at_ 3 rfl).share
  replace hS := hS.n4 L (a0 := Sh 3 1 (i64s ss) a2 c1) (a1 := Own 3 1 (i64s [1, 2, 3]) (some ⟨b1, 0, none⟩) (List.length (i64s [1, 2, 3]))) rfl
  replace hS := (hS.at_ 1 rfl).share
  replace hS := hS.n4 L (a0 := Sh 3 1 (i64s [1, 2, 3]) (some ⟨b1, 0, none⟩) (List.length (i64s [1, 2, 3]))) rfl
  refine WL.call rfl rfl (sameI (xs := ss) (ys := [1, 2, 3]) (a := a2) (b := some ⟨b1, 0, none⟩) (c := c1) (d := List.length (i64s [1, 2, 3])) (hl := (by first | (rw [s1e]; decide) | (rw [s2e]; decide))) (hS := (hS.sel 2 [1, 0] rfl))) rfl ?_
  clear hS; rintro _ w ⟨ok1, rfl, hS, f17⟩
  replace hS := hS.n4 L rfl
  refine WL.r 2 rfl <| WL.reb 73 (.bool true) (congrArg Value.bool ((f17.2 s1e))) <| WL.ung rfl rfl rfl <| WL.r 1 rfl <| WL.ung rfl rfl rfl <| WL.call rfl rfl (vs_ret (s := s1) (a := a1) (V := V5) (ss := st) (hk := f13.k) (hp := hst1) (hs := hst2.imp (fun h => by omega)) (hS := (hS.sel 3 [2, 0, 0] rfl))) rfl ?_
  clear hS; rintro _ w ⟨a3, c2, rfl, hS⟩
  replace hS := hS.n5 L (a0 := Own 3 1 (i64s st) a3 c2) rfl
  refine WL.ung rfl rfl rfl <| WL.lit rfl rfl (i64s [2]) el_56 hS (by exact ⟨rfl, rfl⟩) (i64s_ok _) rfl (Nat.le_of_ble_eq_true rfl) (fun b2 w hS => ?_)
  refine WL.ung rfl rfl rfl ?_
  replace hS := (hS.at_ 1 rfl).share
  replace hS := hS.n6 L (a0 := Sh 3 1 (i64s st) a3 c2) (a1 := Own 3 1 (i64s [2]) (some ⟨b2, 0, none⟩) (List.length (i64s [2]))) rfl
  replace hS := (hS.at_ 1 rfl).share
  replace hS := hS.n6 L (a0 := Sh 3 1 (i64s [2]) (some ⟨b2, 0, none⟩) (List.length (i64s [2]))) rfl
  refine WL.call rfl rfl (sameI (xs := st) (ys := [2]) (a := a3) (b := some ⟨b2, 0, none⟩) (c := c2) (d := List.length (i64s [2])) (hl := (by first | (rw [s1e]; decide) | (rw [s2e]; decide))) (hS := (hS.sel 2 [1, 0] rfl))) rfl ?_
  clear hS; rintro _ w ⟨ok2, rfl, hS, f18⟩
  replace hS := hS.n6 L rfl
  refine WL.r 2 rfl <| WL.reb 79 (.bool true) (congrArg Value.bool ((f18.2 s2e))) <| WL.ung rfl rfl rfl <| WL.r 1 rfl <| WL.ung rfl rfl rfl <| WL.r 3 rfl <| WL.reb 83 (.bool true) (congrArg Value.bool (decide_eq_true (w5))) <| WL.ung rfl rfl rfl <| WL.r 1 rfl <| WL.ung rfl rfl rfl <| WL.r 3 rfl <| WL.nil ?_
  as_aux_lemma =>
  refine WC.ret ?_
  refine ⟨[.bool (decide (0 = 0))], rfl, ?_⟩
  replace hS := (hS.sel 6 [] rfl)
  exact ⟨rfl, hS⟩
end Go.Proofs.YtbeacjcmdijdmaaGreat
/-! ## V7 -/
namespace Go.Proofs.YtbeacjcmdijdmaaGreat
open Go Go.V Go.RowKit Go.Maps
theorem vtake_all {α : Type} {l : List α} {k : Nat} {y : α} {q : α → Prop} (h : ∀ x ∈ l.take k, q x) (hy : l[k]? = some y) (hq : q y) : ∀ x ∈ l.take (k + 1), q x := fun x hx => by
  rw [List.take_add_one, hy] at hx
  rcases List.mem_append.1 hx with hx | hx
  · exact h x hx
  · have : x = y := by simpa using hx
    rw [this]; exact hq
theorem vnum_ok {T : TM} {h : Int} (hn : ¬ (if T.s.opn h = true then (0 : Int) else 5) ≠ 0) : T.s.opn h = true := Classical.byContradiction fun h1 => hn (by rw [if_neg h1]; decide)
theorem vnum_bad {T : TM} {h : Int} (hn : (if T.s.opn h = true then (0 : Int) else 5) ≠ 0) : ¬ T.s.opn h = true := fun h1 => hn (by rw [if_pos h1])
theorem vless {T : TM} {hs : List Int} {k : Nat} (hbad : ∃ y ∈ hs, T.s.opn y = false) (hop : ∀ y ∈ hs.take k, T.s.opn y = true) : (k : Int) < (List.length (u64s hs) : Int) := by
  rw [u64s_len]
  refine Classical.byContradiction fun h => ?_
  obtain ⟨y, hy, hb⟩ := hbad
  have := hop y (by rw [List.take_of_length_le (by omega)]; exact hy)
  rw [hb] at this; cases this
set_option maxRecDepth 8192 in
theorem vs_num {g w : World} {L : List HP} (s a : Nat) (V : VM) (h : Int) (hT : TOk V.T) (hh : 0 ≤ h ∧ h ≤ 18446744073709551615) (hS : St g (Vst s a V :: L) w) :
    Sp Tryz.prog 55 [.pointer (some ⟨s, 0, none⟩), .int .u64 h] w (fun v w' => v = .tuple #[.int .i64 (if V.T.s.opn h = true then V.T.val h else 0), .int .i64 (if V.T.s.opn h = true then 0 else 5)] ∧ St g (Vst s a V :: L) w') := by
  by_cases hn : V.T.s.opn h = true
  · rw [if_pos hn, if_pos hn]; exact vs_num_ok s a V h hT hh hn hS
  · rw [if_neg hn, if_neg hn]; exact vs_num_bad s a V h hT hh (Bool.eq_false_iff.2 hn) hS
set_option maxRecDepth 8192 in
theorem vs_com_inv {g w : World} {L : List HP} (s a : Nat) (V : VM) (root y : Int) (pa : Option Addr) (pc : Nat) (hS : St g (Vst s a V :: Sh 23 1 (u64s [y, y]) pa pc :: L) w) :
    Sp Tryz.prog 127 [.pointer (some ⟨s, 0, none⟩), .int .u32 root, .slice pa (List.length (u64s [y, y])) pc] w (fun v w' => v = .tuple #[.int .u64 0, .int .i64 1] ∧ St g (Vst s a V :: Sh 23 1 (u64s [y, y]) pa pc :: L) w') := by
  refine Sp.enter Tryz.func127 rfl (by kernel_rfl) (by kernel_rfl) ?_
  refine WC.seq <| WC.region <| WL.r 2 rfl <| WL.nil <| WC.seq <| WC.seq <| WC.plan [([0, 1, 2, 3, 4, 5, 6, 7, 8, 11, 9, 12, 10, 13, 14, 15, 16], none)] (by kernel_rfl) (by kernel_rfl) ?_
  have hpl : (u64s [y, y]).length = 2 := rfl
  refine WQ.r 4 rfl <| WQ.reb 18 (.bool false) (congrArg Value.bool (decide_eq_false ((by omega)))) ?_
  refine WQ.ung rfl rfl rfl <| WQ.r 1 rfl <| WQ.ung rfl rfl rfl <| WQ.r 1 rfl <| WQ.ung rfl rfl rfl <| WQ.r 1 rfl <| WQ.ung rfl rfl rfl <| WQ.r 1 rfl <| WQ.reb 22 (.bool true) (congrArg Value.bool (decide_eq_true ((by omega)))) ?_
  refine WQ.ung rfl rfl rfl <| WQ.r 1 rfl <| WQ.ung rfl rfl rfl <| WQ.r 1 rfl <| WQ.ung rfl rfl rfl <| WQ.ix rfl rfl (i := 0) (0) el_45 rfl rfl (by omega) (by omega) (hS.rdS 1 rfl (u64s_at (k := 0) (x := y) rfl)).1 ?_
  refine WQ.ung rfl rfl rfl <| WQ.ix rfl rfl (i := 1) (1) el_45 rfl rfl (by omega) (by omega) (hS.rdS 1 rfl (u64s_at (k := 1) (x := y) rfl)).1 ?_
  refine WQ.ung rfl rfl rfl <| WQ.run 1 [.int .u64 y] rfl (by exact (hS.rdS 1 rfl (u64s_at (k := 0) (x := y) rfl)).2 0 _ rfl) ?_
  refine WQ.ung rfl rfl rfl <| WQ.run 1 [.int .u64 y] rfl (by exact (hS.rdS 1 rfl (u64s_at (k := 1) (x := y) rfl)).2 0 _ rfl) ?_
  refine WQ.ung rfl rfl rfl <| WQ.r 1 rfl <| WQ.ung rfl rfl rfl <| WQ.r 2 rfl <| WQ.nil ?_
  intro m1
  replace hS := hS.drewN m1; generalize hwm1 : World.drewN _ _ = w at *; clear hwm1
  as_aux_lemma =>
  refine WC.ifT rfl (decide_eq_true (rfl)) <| WC.seq <| WC.region <| WL.r 2 rfl <| WL.nil <| WC.ret ?_
  refine ⟨[.int .u64 0, .int .i64 1], ⟨rfl, rfl⟩, ?_⟩
  exact ⟨rfl, hS⟩
set_option maxRecDepth 8192 in
theorem vs_com_bad {g w : World} {L : List HP} (s a : Nat) (V : VM) (A : AM) (R : List Int) (root : Int) (hs : List Int) (pa : Option Addr) (pc : Nat) (hV : VI V A R) (hps : okPs hs) (hhs : ∀ x ∈ hs, 0 ≤ x ∧ x ≤ 18446744073709551615) (hbad : ∃ y ∈ hs, V.T.s.opn y = false) (hS : St g (Vst s a V :: Sh 23 1 (u64s hs) pa pc :: L) w) :
    Sp Tryz.prog 127 [.pointer (some ⟨s, 0, none⟩), .int .u32 root, .slice pa (List.length (u64s hs)) pc] w (fun v w' => v = .tuple #[.int .u64 0, .int .i64 5] ∧ St g (Vst s a V :: Sh 23 1 (u64s hs) pa pc :: L) w') := by
  refine Sp.enter Tryz.func127 rfl (by kernel_rfl) (by kernel_rfl) ?_
  refine WC.seq <| WC.region ?_
  have hpl := u64s_len hs; have hp2 := hps.1
  refine WL.r 2 rfl <| WL.nil <| WC.seq <| WC.seq <| WC.cut [0, 1, 2, 6, 7, 31] (fun vs w => ∃ (t31 : Bool), vs = [.pointer (some ⟨s, 0, none⟩), .int .u32 root, .slice pa (List.length (u64s hs)) pc, .int .u64 0, .int .i64 0, .bool t31] ∧ St g (Vst s a V :: Sh 23 1 (u64s hs) pa pc :: L) w ∧ (t31 = false)) ?_ ?_
  · refine WC.plan [([0, 1, 2, 3, 4, 5, 6, 7, 8, 11, 9, 12, 10, 13, 14, 15, 16], none)] (by kernel_rfl) (by kernel_rfl) ?_
    refine WQ.r 4 rfl <| WQ.reb 18 (.bool false) (congrArg Value.bool (decide_eq_false ((by omega)))) ?_
    refine WQ.ung rfl rfl rfl <| WQ.r 1 rfl <| WQ.ung rfl rfl rfl <| WQ.r 1 rfl <| WQ.ung rfl rfl rfl <| WQ.r 1 rfl <| WQ.ung rfl rfl rfl <| WQ.r 1 rfl ?_
    by_cases cg1 : (List.length (u64s hs) : Int) = 2
    · refine WQ.reb 22 (.bool true) (congrArg Value.bool (decide_eq_true cg1)) <| WQ.ung rfl rfl rfl <| WQ.r 1 rfl <| WQ.ung rfl rfl rfl <| WQ.r 1 rfl <| WQ.ung rfl rfl rfl ?_
      obtain ⟨p0, h0⟩ : ∃ u, hs[0]? = some u := ⟨_, List.getElem?_eq_getElem (by omega)⟩; obtain ⟨p1, h1⟩ : ∃ u, hs[1]? = some u := ⟨_, List.getElem?_eq_getElem (by omega)⟩
      refine WQ.ix rfl rfl (i := 0) (0) el_45 rfl rfl (by omega) (by omega) (hS.rdS 1 rfl (u64s_at h0)).1 ?_
      refine WQ.ung rfl rfl rfl <| WQ.ix rfl rfl (i := 1) (1) el_45 rfl rfl (by omega) (by omega) (hS.rdS 1 rfl (u64s_at h1)).1 ?_
      refine WQ.ung rfl rfl rfl <| WQ.run 1 [.int .u64 p0] rfl (by exact (hS.rdS 1 rfl (u64s_at h0)).2 0 _ rfl) ?_
      refine WQ.ung rfl rfl rfl <| WQ.run 1 [.int .u64 p1] rfl (by exact (hS.rdS 1 rfl (u64s_at h1)).2 0 _ rfl) ?_
      refine WQ.ung rfl rfl rfl <| WQ.r 1 rfl <| WQ.ung rfl rfl rfl <| WQ.r 2 rfl <| WQ.nil ?_
      intro m1
      replace hS := hS.drewN m1; generalize hwm1 : World.drewN _ _ = w at *; clear hwm1
      exact ⟨decide (p0 = p1), rfl, hS, (decide_eq_false (okPs_ne hps h0 h1))⟩
    · refine WQ.reb 22 (.bool false) (congrArg Value.bool (decide_eq_false cg1)) <| WQ.skp rfl rfl rfl rfl <| WQ.skp rfl rfl rfl rfl <| WQ.skp rfl rfl rfl rfl <| WQ.skp rfl rfl rfl rfl <| WQ.skp rfl rfl rfl rfl <| WQ.skp rfl rfl rfl rfl <| WQ.skp rfl rfl rfl rfl <| WQ.ung rfl rfl rfl <| WQ.r 2 rfl <| WQ.nil ?_
      intro m1
      replace hS := hS.drewN m1; generalize hwm1 : World.drewN _ _ = w at *; clear hwm1
      exact ⟨false, rfl, hS, (rfl)⟩
  clear hS; rintro _ w j ⟨t31, rfl, hS, h31⟩
  refine WC.ifF rfl h31 <| WC.skip <| WC.seq <| WC.region <| WL.r 1 rfl <| WL.nil <| WC.seq <| WC.seq <| WC.region <| WL.r 3 rfl <| WL.nil <| WC.block ?_
  replace hS := hS.nil_ 3 1
  refine WC.loop [0, 1, 8, 32, 33, 34] (fun kM vs w => ∃ (k : Nat) (acc : List Int) (u : Option Addr) (d : Nat), vs = [.pointer (some ⟨s, 0, none⟩), .int .u32 root, .slice u (List.length (i64s acc)) d, .slice pa (List.length (u64s hs)) pc, .int .i64 (List.length (u64s hs) : Int), .int .i64 (k : Int)] ∧ St g (Own 3 1 (i64s acc) u d :: Vst s a V :: Sh 23 1 (u64s hs) pa pc :: L) w ∧ (k ≤ hs.length) ∧ (∀ y ∈ hs.take k, V.T.s.opn y = true) ∧ (acc.length = k) ∧ (hs.length - k) = kM) ((List.length hs) - 0) ⟨0, [], none, 0, rfl, hS, (Nat.zero_le _), (fun _ h => by cases h), (rfl), rfl⟩ ?_
  clear hS; rintro _ _ w j ⟨k, acc, u, d, rfl, hS, hk, hop, hal, rfl⟩
  refine WC.seq <| WC.region <| WL.r 1 rfl <| WL.nil ?_
  as_aux_lemma =>
  refine WC.seq <| WC.ifT rfl (decide_eq_true ((vless hbad hop))) <| WC.skip <| WC.seq <| WC.block <| WC.seq <| WC.region ?_
  have hlt := vless hbad hop; have hul2 := u64s_len hs; obtain ⟨z, hz⟩ : ∃ u, hs[k]? = some u := ⟨_, List.getElem?_eq_getElem (by omega)⟩; have hzr := hhs z (List.mem_of_getElem? hz); have hacl := i64s_len acc
  refine WL.ix rfl rfl (i := (k : Int)) (k) el_45 rfl rfl (by omega) (by omega) (hS.rdS 2 rfl (u64s_at hz)).1 ?_
  refine WL.run 2 [.int .u64 z] rfl (by exact (hS.rdS 2 rfl (u64s_at hz)).2 0 _ rfl) ?_
  refine WL.nil <| WC.seq <| WC.region <| WL.r 2 rfl <| WL.call rfl rfl (vs_num (s := s) (a := a) (V := V) (h := z) (hT := hV.t) (hh := hzr) (hS := (hS.sel 2 [1, 0] rfl))) rfl ?_
  clear hS; rintro _ w ⟨rfl, hS⟩
  replace hS := hS.n3 L rfl
  refine WL.r 5 rfl <| WL.nil <| WC.seq <| WC.seq <| WC.region <| WL.r 2 rfl <| WL.nil <| WC.ifP rfl (fun cd1 => ?_) (fun cd1 => ?_)
  · refine WC.seq <| WC.region <| WL.r 3 rfl <| WL.nil ?_
    as_aux_lemma =>
    refine WC.ret ?_
    refine ⟨[.int .u64 0, .int .i64 (if V.T.s.opn z = true then 0 else 5)], ⟨rfl, rfl⟩, ?_⟩
    replace hS := (hS.sel 2 [0] rfl)
    exact ⟨by rw [if_neg (vnum_bad cd1)]; rfl, hS⟩
  · refine WC.skip ?_
    as_aux_lemma =>
    refine WC.region <| WL.r 2 rfl <| WL.lit rfl rfl (i64s [if V.T.s.opn z = true then V.T.val z else 0]) el_56 hS (by exact ⟨rfl, rfl⟩) (i64s_ok _) rfl (Nat.le_of_ble_eq_true rfl) (fun b1 w hS => ?_)
    refine WL.app rfl rfl 2 (i64s (acc ++ [if V.T.s.opn z = true then V.T.val z else 0])) el_56 hS rfl (hS.srcO 0 rfl) (i64s_app _ _).symm (Rm.of (by first | omega | (simp <;> omega)) (by decide)) rfl rfl (fun a1 c1 w hS => ?_)
    replace hS := hS.n4 L (a0 := Own 3 1 (i64s [if V.T.s.opn z = true then V.T.val z else 0]) (some ⟨b1, 0, none⟩) (List.length (i64s [if V.T.s.opn z = true then V.T.val z else 0]))) (a2 := Own 3 1 (i64s (acc ++ [if V.T.s.opn z = true then V.T.val z else 0])) a1 c1) rfl
    refine WL.r 1 rfl <| WL.nil <| WC.region <| WL.r 1 rfl <| WL.nw 51 rfl (w64 (by omega)) ?_
    refine WL.r 1 rfl <| WL.nil ?_
    exact ⟨_, by omega, k + 1, acc ++ [if V.T.s.opn z = true then V.T.val z else 0], _, _, rfl, (hS.sel 3 [2, 1] rfl), (by omega), (vtake_all hop hz (vnum_ok cd1)), (by rw [List.length_append, hal]; rfl), rfl⟩
set_option maxRecDepth 8192 in
theorem vs_com_full {g w : World} {L : List HP} (s a : Nat) (V : VM) (A : AM) (R : List Int) (root : Int) (hs : List Int) (pa : Option Addr) (pc : Nat) (hV : VI V A R) (hps : okPs hs) (hhs : ∀ x ∈ hs, 0 ≤ x ∧ x ≤ 18446744073709551615) (hall : ∀ y ∈ hs, V.T.s.opn y = true) (hrm : V.room = 0) (hS : St g (Vst s a V :: Sh 23 1 (u64s hs) pa pc :: L) w) :
    Sp Tryz.prog 127 [.pointer (some ⟨s, 0, none⟩), .int .u32 root, .slice pa (List.length (u64s hs)) pc] w (fun v w' => v = .tuple #[.int .u64 0, .int .i64 2] ∧ St g (Vst s a V :: Sh 23 1 (u64s hs) pa pc :: L) w') := by
  refine Sp.enter Tryz.func127 rfl (by kernel_rfl) (by kernel_rfl) ?_
  refine WC.seq <| WC.region ?_
  have hpl := u64s_len hs; have hp2 := hps.1
  refine WL.r 2 rfl <| WL.nil <| WC.seq <| WC.seq <| WC.cut [0, 1, 2, 6, 7, 31] (fun vs w => ∃ (t31 : Bool), vs = [.pointer (some ⟨s, 0, none⟩), .int .u32 root, .slice pa (List.length (u64s hs)) pc, .int .u64 0, .int .i64 0, .bool t31] ∧ St g (Vst s a V :: Sh 23 1 (u64s hs) pa pc :: L) w ∧ (t31 = false)) ?_ ?_
  · refine WC.plan [([0, 1, 2, 3, 4, 5, 6, 7, 8, 11, 9, 12, 10, 13, 14, 15, 16], none)] (by kernel_rfl) (by kernel_rfl) ?_
    refine WQ.r 4 rfl <| WQ.reb 18 (.bool false) (congrArg Value.bool (decide_eq_false ((by omega)))) ?_
    refine WQ.ung rfl rfl rfl <| WQ.r 1 rfl <| WQ.ung rfl rfl rfl <| WQ.r 1 rfl <| WQ.ung rfl rfl rfl <| WQ.r 1 rfl <| WQ.ung rfl rfl rfl <| WQ.r 1 rfl ?_
    by_cases cg1 : (List.length (u64s hs) : Int) = 2
    · refine WQ.reb 22 (.bool true) (congrArg Value.bool (decide_eq_true cg1)) <| WQ.ung rfl rfl rfl <| WQ.r 1 rfl <| WQ.ung rfl rfl rfl <| WQ.r 1 rfl <| WQ.ung rfl rfl rfl ?_
      obtain ⟨p0, h0⟩ : ∃ u, hs[0]? = some u := ⟨_, List.getElem?_eq_getElem (by omega)⟩; obtain ⟨p1, h1⟩ : ∃ u, hs[1]? = some u := ⟨_, List.getElem?_eq_getElem (by omega)⟩
      refine WQ.ix rfl rfl (i := 0) (0) el_45 rfl rfl (by omega) (by omega) (hS.rdS 1 rfl (u64s_at h0)).1 ?_
      refine WQ.ung rfl rfl rfl <| WQ.ix rfl rfl (i := 1) (1) el_45 rfl rfl (by omega) (by omega) (hS.rdS 1 rfl (u64s_at h1)).1 ?_
      refine WQ.ung rfl rfl rfl <| WQ.run 1 [.int .u64 p0] rfl (by exact (hS.rdS 1 rfl (u64s_at h0)).2 0 _ rfl) ?_
      refine WQ.ung rfl rfl rfl <| WQ.run 1 [.int .u64 p1] rfl (by exact (hS.rdS 1 rfl (u64s_at h1)).2 0 _ rfl) ?_
      refine WQ.ung rfl rfl rfl <| WQ.r 1 rfl <| WQ.ung rfl rfl rfl <| WQ.r 2 rfl <| WQ.nil ?_
      intro m1
      replace hS := hS.drewN m1; generalize hwm1 : World.drewN _ _ = w at *; clear hwm1
      exact ⟨decide (p0 = p1), rfl, hS, (decide_eq_false (okPs_ne hps h0 h1))⟩
    · refine WQ.reb 22 (.bool false) (congrArg Value.bool (decide_eq_false cg1)) <| WQ.skp rfl rfl rfl rfl <| WQ.skp rfl rfl rfl rfl <| WQ.skp rfl rfl rfl rfl <| WQ.skp rfl rfl rfl rfl <| WQ.skp rfl rfl rfl rfl <| WQ.skp rfl rfl rfl rfl <| WQ.skp rfl rfl rfl rfl <| WQ.ung rfl rfl rfl <| WQ.r 2 rfl <| WQ.nil ?_
      intro m1
      replace hS := hS.drewN m1; generalize hwm1 : World.drewN _ _ = w at *; clear hwm1
      exact ⟨false, rfl, hS, (rfl)⟩
  clear hS; rintro _ w j ⟨t31, rfl, hS, h31⟩
  refine WC.ifF rfl h31 <| WC.skip <| WC.seq <| WC.region <| WL.r 1 rfl <| WL.nil <| WC.seq <| WC.seq <| WC.region <| WL.r 3 rfl <| WL.nil <| WC.block ?_
  replace hS := hS.nil_ 3 1
  refine WC.loop [0, 1, 8, 32, 33, 34] (fun kM vs w => ∃ (k : Nat) (acc : List Int) (u : Option Addr) (d : Nat), vs = [.pointer (some ⟨s, 0, none⟩), .int .u32 root, .slice u (List.length (i64s acc)) d, .slice pa (List.length (u64s hs)) pc, .int .i64 (List.length (u64s hs) : Int), .int .i64 (k : Int)] ∧ St g (Own 3 1 (i64s acc) u d :: Vst s a V :: Sh 23 1 (u64s hs) pa pc :: L) w ∧ (k ≤ hs.length) ∧ (∀ y ∈ hs.take k, V.T.s.opn y = true) ∧ (acc.length = k) ∧ (hs.length - k) = kM) ((List.length hs) - 0) ⟨0, [], none, 0, rfl, hS, (Nat.zero_le _), (fun _ h => by cases h), (rfl), rfl⟩ ?_
  clear hS; rintro _ _ w j ⟨k, acc, u, d, rfl, hS, hk, hop, hal, rfl⟩
  refine WC.seq <| WC.region <| WL.r 1 rfl <| WL.nil ?_
  as_aux_lemma =>
  refine WC.seq <| WC.ifP rfl (fun cd1 => ?_) (fun cd1 => ?_)
  · refine WC.skip <| WC.seq <| WC.block <| WC.seq <| WC.region ?_
    have hlt : True := trivial; have hul2 := u64s_len hs; obtain ⟨z, hz⟩ : ∃ u, hs[k]? = some u := ⟨_, List.getElem?_eq_getElem (by omega)⟩; have hzr := hhs z (List.mem_of_getElem? hz); have hacl := i64s_len acc
    refine WL.ix rfl rfl (i := (k : Int)) (k) el_45 rfl rfl (by omega) (by omega) (hS.rdS 2 rfl (u64s_at hz)).1 ?_
    refine WL.run 2 [.int .u64 z] rfl (by exact (hS.rdS 2 rfl (u64s_at hz)).2 0 _ rfl) ?_
    refine WL.nil <| WC.seq <| WC.region <| WL.r 2 rfl <| WL.call rfl rfl (vs_num (s := s) (a := a) (V := V) (h := z) (hT := hV.t) (hh := hzr) (hS := (hS.sel 2 [1, 0] rfl))) rfl ?_
    clear hS; rintro _ w ⟨rfl, hS⟩
    replace hS := hS.n3 L rfl
    refine WL.r 5 rfl <| WL.nil <| WC.seq <| WC.seq <| WC.region <| WL.r 2 rfl <| WL.nil <| WC.ifF rfl (decide_eq_false ((by rw [if_pos (hall z (List.mem_of_getElem? hz))]; decide))) ?_
    refine WC.skip ?_
    as_aux_lemma =>
    refine WC.region <| WL.r 2 rfl <| WL.lit rfl rfl (i64s [if V.T.s.opn z = true then V.T.val z else 0]) el_56 hS (by exact ⟨rfl, rfl⟩) (i64s_ok _) rfl (Nat.le_of_ble_eq_true rfl) (fun b1 w hS => ?_)
    refine WL.app rfl rfl 2 (i64s (acc ++ [if V.T.s.opn z = true then V.T.val z else 0])) el_56 hS rfl (hS.srcO 0 rfl) (i64s_app _ _).symm (Rm.of (by first | omega | (simp <;> omega)) (by decide)) rfl rfl (fun a1 c1 w hS => ?_)
    replace hS := hS.n4 L (a0 := Own 3 1 (i64s [if V.T.s.opn z = true then V.T.val z else 0]) (some ⟨b1, 0, none⟩) (List.length (i64s [if V.T.s.opn z = true then V.T.val z else 0]))) (a2 := Own 3 1 (i64s (acc ++ [if V.T.s.opn z = true then V.T.val z else 0])) a1 c1) rfl
    refine WL.r 1 rfl <| WL.nil <| WC.region <| WL.r 1 rfl <| WL.nw 51 rfl (w64 (by omega)) ?_
    refine WL.r 1 rfl <| WL.nil ?_
    exact ⟨_, by omega, k + 1, acc ++ [if V.T.s.opn z = true then V.T.val z else 0], _, _, rfl, (hS.sel 3 [2, 1] rfl), (by omega), (vtake_all hop hz (hall z (List.mem_of_getElem? hz))), (by rw [List.length_append, hal]; rfl), rfl⟩
  · refine WC.exit <| WC.seq <| WC.seq <| WC.region ?_
    obtain ⟨ss, hK⟩ := keys_ex hV.g.ok.uniq
    refine WL.r 1 rfl <| WL.call rfl rfl (vs_room (s := s) (a := a) (V := V) (ss := ss) (hT := hV.t) (hG := hV.g) (hp := hK.perm) (hs := hK.le) (hS := (hS.sel 2 [1, 0] rfl))) rfl ?_
    clear hS; rintro _ w ⟨rfl, hS⟩
    replace hS := hS.n3 L rfl
    refine WL.r 1 rfl <| WL.nil <| WC.ifT rfl (decide_eq_true (hrm)) <| WC.seq <| WC.region <| WL.r 2 rfl <| WL.nil <| WC.ret ?_
    refine ⟨[.int .u64 0, .int .i64 2], ⟨rfl, rfl⟩, ?_⟩
    replace hS := (hS.sel 2 [0] rfl)
    exact ⟨rfl, hS⟩
set_option maxRecDepth 8192 in
theorem vs_snap_bad {g w : World} {L : List HP} (s a : Nat) (V : VM) (h : Int) (hT : TOk V.T) (hh : 0 ≤ h ∧ h ≤ 18446744073709551615) (hn : V.T.s.opn h = false) (hS : St g (Vst s a V :: L) w) :
    Sp Tryz.prog 54 [.pointer (some ⟨s, 0, none⟩), .int .u64 h] w (fun v w' => v = .tuple #[.int .u64 0, .int .i64 5] ∧ St g (Vst s a V :: L) w') := by
  refine Sp.enter Tryz.func54 rfl (by kernel_rfl) (by kernel_rfl) ?_
  refine WC.seq <| WC.region <| WL.r 2 rfl <| WL.nil <| WC.seq <| WC.region <| WL.r 2 rfl <| WL.call rfl rfl (vs_root_bad (s := s) (a := a) (V := V) (h := h) (hT := hT) (hh := hh) (hn := hn) (hS := hS)) rfl ?_
  clear hS; rintro _ w ⟨rfl, hS⟩
  replace hS := hS.n1 L rfl
  refine WL.r 5 rfl <| WL.nil <| WC.seq <| WC.seq <| WC.region <| WL.r 2 rfl <| WL.nil <| WC.ifT rfl (decide_eq_true ((by decide))) ?_
  refine WC.seq <| WC.region <| WL.r 3 rfl <| WL.nil <| WC.ret ?_
  refine ⟨[.int .u64 0, .int .i64 5], ⟨rfl, rfl⟩, ?_⟩
  exact ⟨rfl, hS⟩
set_option maxRecDepth 8192 in
theorem vs_snap_full {g w : World} {L : List HP} (s a : Nat) (V : VM) (A : AM) (R : List Int) (h : Int) (hV : VI V A R) (hh : 0 ≤ h ∧ h ≤ 18446744073709551615) (hn : V.T.s.opn h = true) (hrm : V.room = 0) (hS : St g (Vst s a V :: L) w) :
    Sp Tryz.prog 54 [.pointer (some ⟨s, 0, none⟩), .int .u64 h] w (fun v w' => v = .tuple #[.int .u64 0, .int .i64 2] ∧ St g (Vst s a V :: L) w') := by
  refine Sp.enter Tryz.func54 rfl (by kernel_rfl) (by kernel_rfl) ?_
  refine WC.seq <| WC.region <| WL.r 2 rfl <| WL.nil <| WC.seq <| WC.region <| WL.r 2 rfl <| WL.call rfl rfl (vs_root_ok (s := s) (a := a) (V := V) (A := A) (R := R) (h := h) (hV := hV) (hh := hh) (hn := hn) (hS := hS)) rfl ?_
  clear hS; rintro _ w ⟨rfl, hS⟩
  replace hS := hS.n1 L rfl
  refine WL.r 5 rfl <| WL.nil <| WC.seq <| WC.seq <| WC.region <| WL.r 2 rfl <| WL.nil <| WC.ifF rfl (decide_eq_false ((by decide))) ?_
  refine WC.skip <| WC.seq <| WC.region <| WL.r 3 rfl <| WL.lit rfl rfl (u64s [h]) el_45 hS (by exact ⟨rfl, rfl⟩) (u64s_ok _) rfl (Nat.le_of_ble_eq_true rfl) (fun b1 w hS => ?_)
  replace hS := (hS.at_ 0 rfl).share
  replace hS := hS.n2 L (a0 := Sh 23 1 (u64s [h]) (some ⟨b1, 0, none⟩) (List.length (u64s [h]))) rfl
  refine WL.call rfl rfl (vs_com_full (s := s) (a := a) (V := V) (A := A) (R := R) (root := V.rootOf (V.T.val h)) (hs := [h]) (pa := some ⟨b1, 0, none⟩) (pc := List.length (u64s [h])) (hV := hV) (hps := okPs_one h) (hhs := (fun x hx => by rw [List.mem_singleton.1 hx]; exact hh)) (hall := (fun x hx => by rw [List.mem_singleton.1 hx]; exact hn)) (hrm := hrm) (hS := (hS.sel 2 [1, 0] rfl))) rfl ?_
  clear hS; rintro _ w ⟨rfl, hS⟩
  replace hS := hS.n2 L rfl
  refine WL.r 4 rfl <| WL.nil ?_
  as_aux_lemma =>
  refine WC.ret ?_
  refine ⟨[.int .u64 0, .int .i64 2], ⟨rfl, rfl⟩, ?_⟩
  replace hS := (hS.sel 2 [0] rfl)
  exact ⟨rfl, hS⟩
set_option maxRecDepth 8192 in
theorem vs_rel_bad {g w : World} {L : List HP} (s a : Nat) (V : VM) (h : Int) (hT : TOk V.T) (hh : 0 ≤ h ∧ h ≤ 18446744073709551615) (hn : V.T.s.opn h = false) (hS : St g (Vst s a V :: L) w) :
    Sp Tryz.prog 17 [.pointer (some ⟨s, 0, none⟩), .int .u64 h] w (fun v w' => v = .tuple #[.int .i64 0, .int .i64 5] ∧ St g (Vst s a V :: L) w') := by
  refine Sp.enter Tryz.func17 rfl (by kernel_rfl) (by kernel_rfl) ?_
  refine WC.seq <| WC.region <| WL.r 2 rfl <| WL.nil <| WC.seq <| WC.region ?_
  obtain ⟨⟨vt, vp, vm, vr⟩, hS⟩ := St.exOpen (f := vstF s a V) hS
  replace hS : St g (cel s #[.pointer (some ⟨a, 0, none⟩), .pointer (some ⟨vt, 0, none⟩), .pointer (some ⟨vp, 0, none⟩), .map (some vr), .int .i64 V.cap] 144 :: Tbl vt V.T :: cel vp #[.int .i64 V.cap, .int .i64 V.last, .map (some vm)] 231 :: blk vm (.map (mE (List.map vK V.xs)) V.q) :: Shs vF V.xs :: blk vr (.map (mE (List.map rK V.rs)) V.q2) :: L) w := hS
  refine WL.run 5 [.pointer (some ⟨vt, 0, none⟩)] rfl (by exact hS.ld 0 rfl rfl) ?_
  refine WL.call rfl rfl (tb_close_bad (t := vt) (T := V.T) (h := h) (hT := hT) (hh := hh) (hn := hn) (hS := (hS.sel 2 [1, 0] rfl))) rfl ?_
  clear hS; rintro _ w ⟨rfl, hS⟩
  replace hS := hS.n6 L rfl
  refine WL.r 5 rfl <| WL.nil <| WC.seq <| WC.seq <| WC.region <| WL.r 2 rfl <| WL.nil <| WC.ifT rfl (decide_eq_true ((by decide))) ?_
  refine WC.seq <| WC.region <| WL.r 3 rfl <| WL.nil ?_
  as_aux_lemma =>
  refine WC.ret ?_
  replace hS := St.exClose (f := vstF s a V) (L := L) ⟨vt, vp, vm, vr⟩ ((hS.sel 2 [1, 0] rfl))
  replace hS : St g (Vst s a V :: L) w := hS
  refine ⟨[.int .i64 0, .int .i64 5], ⟨rfl, rfl⟩, ?_⟩
  exact ⟨rfl, hS⟩
end Go.Proofs.YtbeacjcmdijdmaaGreat
/-! ## Mr -/
namespace Go.V
open Go Go.RowKit
section
variable {P : Program} {T : Tab} [hT : TabOk P T] {n : Nat} {os l : List Oper} {K : Kt} {F : Fm} {w g : World} {L : List HP} {t kt et : TypeId} {d : TypeDesc} {z : Value} {b b2 c c2 : Nat} {es : Array MapEntry}
theorem WL.stP {o : Oper} {x y : Operand} {b off : Nat} {cs vs ds : Array Value} {t' : TypeId} (hg : o.guard = none) (hd : o.dst = none) (ho : o.op = .store t x y) (i : Nat) (hS : St g L w) (hi : L[i]? = some (cel b cs t')) (hx : ev F x = .pointer (some ⟨b, off, none⟩)) (hv : ev F y = .agg vs)
    (h1 : vs.toList.all (·.oneCell') = true) (hc : off + vs.size ≤ cs.size) (he : spl cs off vs.toList = ds) (ht : AggT P t vs.size) (hk : ∀ w', St g (L.set i (cel b ds t')) w' → WL P n os l K F w') : WL P n os (o :: l) K F w := by
  have hh := hS.heap i hi
  have hS' : St g (L.set i (cel b ds t')) (w.setRow b ds) := (St.setRow (hS.at_ i hi)).back i hi
  refine WL.unit hg hd (fun hok => ?_) (hk _ hS')
  have e1 := okX_at (F := F) hok (x := x) (by simp [ho, Op.operands])
  have e2 := okX_at (F := F) hok (x := y) (by simp [ho, Op.operands])
  have hst := run_storeVar (P := P) (t := t) (off := off) (v := .agg vs) ht.2.2 hh (fun u hu => List.all_eq_true.1 h1 u hu) hc
  rw [show (Value.agg vs).cells.toList = vs.toList from rfl, he] at hst
  simp only [execOp, ho, e1, e2, hx, hv, Instr.storeAt, Instr.sureAddr, Sem.run_bind, Sem.run_pure, Result.andThen_ok, hst]
end
end Go.V
/-! ## Qa -/
namespace Go.Proofs.YtbeacjcmdijdmaaGreat
open Go Go.V
theorem drop_1 {α : Type} {l : List α} {k : Nat} {x : α} (hk : 1 ≤ k) (h : l[k]? = some x) : (l.drop 1)[k - 1]? = some x := by
  rw [List.getElem?_drop, show 1 + (k - 1) = k by omega]; exact h
theorem ok_hi {S : SM} {i : Int} (h : S.cap < i) : S.ok i = false := by
  unfold SM.ok; rw [List.getElem?_eq_none (by have : S.cap = (S.used.length : Int) - 1 := rfl; omega)]; rfl
theorem ok_lo {S : SM} (hO : SOk S) : S.ok 0 = false := Bool.eq_false_iff.2 fun h => by
  have := S.ok_rng hO (Int.le_refl 0) h; omega
theorem gen_hi {S : SM} (hO : SOk S) {i : Int} (h : S.cap < i) : S.genOf i = 0 := by
  unfold SM.genOf; rw [List.getElem?_eq_none (by have : S.cap = (S.used.length : Int) - 1 := rfl; have := hO.gl; omega)]; rfl
set_option maxRecDepth 8192 in
theorem q_ok {g w : World} {L : List HP} (S : SM) (ra ga oa : Option Addr) (rc gc oc : Nat) (i : Int) (hO : SOk S) (hi : 0 ≤ i ∧ i ≤ 4294967295) (hS : St g (Sh 4 1 (bos (S.used.drop 1)) oa oc :: L) w) :
    Sp Tryz.prog 154 [.agg #[.int .i64 S.cap, .slice ra (List.length (u32s S.rel)) rc, .int .i64 (S.fresh + 1), .slice ga (List.length (u32s (S.gen.drop 1))) gc, .slice oa (List.length (bos (S.used.drop 1))) oc], .int .u32 i] w (fun v w' => v = .bool (S.ok i) ∧ St g (Sh 4 1 (bos (S.used.drop 1)) oa oc :: L) w') := by
  refine Sp.enter Tryz.func154 rfl (by kernel_rfl) (by kernel_rfl) ?_
  have _ := hi
  refine WC.seq <| WC.region ?_
  have hcp : S.cap = (S.used.length : Int) - 1 := rfl; have hle := hO.cap; have hu1 := bos_len (S.used.drop 1); have hdu : (S.used.drop 1).length = S.used.length - 1 := List.length_drop ..; have hw : IntKind.i64.wrap i = i := w64 (by omega)
  refine WL.box rfl rfl #[.int .i64 S.cap, .slice ra (List.length (u32s S.rel)) rc, .int .i64 (S.fresh + 1), .slice ga (List.length (u32s (S.gen.drop 1))) gc, .slice oa (List.length (bos (S.used.drop 1))) oc] hS rfl rfl (fun b1 w hS => ?_)
  refine WL.r 1 rfl <| WL.nil <| WC.seq <| WC.region <| WL.r 3 rfl ?_
  by_cases cg1 : 1 ≤ i
  · refine WL.reb 7 (.bool true) (congrArg Value.bool (decide_eq_true cg1)) <| WL.ung rfl rfl rfl <| WL.r 1 rfl <| WL.ung rfl rfl rfl <| WL.r 1 rfl <| WL.nw 9 rfl (w64 (by omega)) ?_
    refine WL.ung rfl rfl rfl <| WL.r 1 rfl <| WL.ung rfl rfl rfl <| WL.run 1 [.int .i64 S.cap] rfl (by exact hS.ld 0 rfl rfl) ?_
    refine WL.ung rfl rfl rfl <| WL.r 3 rfl ?_
    by_cases cg2 : i ≤ S.cap
    · refine WL.reb 14 (.bool true) (congrArg Value.bool (decide_eq_true cg2)) <| WL.ung rfl rfl rfl <| WL.r 1 rfl <| WL.ung rfl rfl rfl <| WL.run 1 [.slice oa (List.length (bos (S.used.drop 1))) oc] rfl (by exact hS.ld 0 rfl rfl) ?_
      refine WL.ung rfl rfl rfl <| WL.r 1 rfl <| WL.ung rfl rfl rfl <| WL.r 1 rfl <| WL.nw 18 rfl (wu32 (by omega)) ?_
      refine WL.ung rfl rfl rfl ?_
      obtain ⟨u, hu⟩ : ∃ u, S.used[i.toNat]? = some u := ⟨_, List.getElem?_eq_getElem (by omega)⟩
      refine WL.ix rfl rfl (i := i - 1) (i.toNat - 1) el_33 rfl rfl (by omega) (by omega) (hS.rdS 1 rfl (bos_at (drop_1 (by omega) hu))).1 ?_
      refine WL.ung rfl rfl rfl <| WL.run 3 [.bool u] rfl (by exact (hS.rdS 1 rfl (bos_at (drop_1 (by omega) hu))).2 0 _ rfl) ?_
      refine WL.nil ?_
      as_aux_lemma =>
      refine WC.ret ?_
      refine ⟨[.bool u], rfl, ?_⟩
      replace hS := (hS.sel 1 [] rfl)
      exact ⟨by unfold SM.ok; rw [hu]; rfl, hS⟩
    · refine WL.reb 14 (.bool false) (congrArg Value.bool (decide_eq_false cg2)) <| WL.skp rfl rfl rfl rfl <| WL.skp rfl rfl rfl rfl <| WL.skp rfl rfl rfl rfl <| WL.skp rfl rfl rfl rfl <| WL.skp rfl rfl rfl rfl <| WL.skp rfl rfl rfl rfl <| WL.r 2 rfl <| WL.nil ?_
      as_aux_lemma =>
      refine WC.ret ?_
      refine ⟨[.bool false], rfl, ?_⟩
      replace hS := (hS.sel 1 [] rfl)
      exact ⟨by rw [ok_hi (by omega)]; rfl, hS⟩
  · refine WL.reb 7 (.bool false) (congrArg Value.bool (decide_eq_false cg1)) <| WL.skp rfl rfl rfl rfl <| WL.skp rfl rfl rfl rfl <| WL.skp rfl rfl rfl rfl <| WL.skp rfl rfl rfl rfl <| WL.skp rfl rfl rfl rfl <| WL.r 2 rfl <| WL.skp rfl rfl rfl rfl <| WL.skp rfl rfl rfl rfl <| WL.skp rfl rfl rfl rfl <| WL.skp rfl rfl rfl rfl <| WL.skp rfl rfl rfl rfl ?_
    refine WL.skp rfl rfl rfl rfl <| WL.r 2 rfl <| WL.nil ?_
    as_aux_lemma =>
    refine WC.ret ?_
    refine ⟨[.bool false], rfl, ?_⟩
    replace hS := (hS.sel 1 [] rfl)
    have h0 : i = 0 := (by omega); subst h0; exact ⟨by rw [ok_lo hO]; rfl, hS⟩
set_option maxRecDepth 8192 in
theorem q_gen {g w : World} {L : List HP} (S : SM) (ra ga oa : Option Addr) (rc gc oc : Nat) (i : Int) (hO : SOk S) (hi : 0 ≤ i ∧ i ≤ 4294967295) (hi0 : i ≠ 0) (hS : St g (Sh 64 1 (u32s (S.gen.drop 1)) ga gc :: L) w) :
    Sp Tryz.prog 156 [.agg #[.int .i64 S.cap, .slice ra (List.length (u32s S.rel)) rc, .int .i64 (S.fresh + 1), .slice ga (List.length (u32s (S.gen.drop 1))) gc, .slice oa (List.length (bos (S.used.drop 1))) oc], .int .u32 i] w (fun v w' => v = .int .u32 (S.genOf i) ∧ St g (Sh 64 1 (u32s (S.gen.drop 1)) ga gc :: L) w') := by
  refine Sp.enter Tryz.func156 rfl (by kernel_rfl) (by kernel_rfl) ?_
  have _ := hi0
  have _ := hi
  refine WC.seq <| WC.region <| WL.box rfl rfl #[.int .i64 S.cap, .slice ra (List.length (u32s S.rel)) rc, .int .i64 (S.fresh + 1), .slice ga (List.length (u32s (S.gen.drop 1))) gc, .slice oa (List.length (bos (S.used.drop 1))) oc] hS rfl rfl (fun b1 w hS => ?_)
  refine WL.r 1 rfl <| WL.nil <| WC.seq <| WC.seq <| WC.region ?_
  have hcp : S.cap = (S.used.length : Int) - 1 := rfl; have hle := hO.cap; have hgl := hO.gl; have hg1 := u32s_len (S.gen.drop 1); have hdg : (S.gen.drop 1).length = S.gen.length - 1 := List.length_drop ..; have hw : IntKind.i64.wrap i = i := w64 (by omega)
  refine WL.r 2 rfl <| WL.runG 7 [.int .i64 S.cap] rfl (by exact (fun _ => hS.ld 0 rfl rfl)) (fun j => ?_)
  refine WL.prop 13 rfl (bor (dd _) (dd _)) <| WL.nil <| WC.ifP rfl (fun hb => ?_) (fun hb => ?_)
  · refine WC.seq <| WC.region <| WL.r 1 rfl <| WL.nil <| WC.ret ?_
    refine ⟨[.int .u32 0], rfl, ?_⟩
    replace hS := (hS.sel 1 [] rfl)
    exact ⟨by rw [gen_hi hO (by omega)]; rfl, hS⟩
  · refine WC.skip <| WC.seq <| WC.region <| WL.run 4 [.slice ga (List.length (u32s (S.gen.drop 1))) gc] rfl (by exact hS.ld 0 rfl rfl) ?_
    refine WL.nw 17 rfl (wu32 (by omega)) ?_
    obtain ⟨u, hu⟩ : ∃ u, S.gen[i.toNat]? = some u := ⟨_, List.getElem?_eq_getElem (by omega)⟩
    refine WL.ix rfl rfl (i := i - 1) (i.toNat - 1) el_32 rfl rfl (by omega) (by omega) (hS.rdS 1 rfl (u32s_at (drop_1 (by omega) hu))).1 ?_
    refine WL.run 2 [.int .u32 u] rfl (by exact (hS.rdS 1 rfl (u32s_at (drop_1 (by omega) hu))).2 0 _ rfl) ?_
    refine WL.nil <| WC.ret ?_
    refine ⟨[.int .u32 u], rfl, ?_⟩
    replace hS := (hS.sel 1 [] rfl)
    exact ⟨by unfold SM.genOf; rw [hu]; rfl, hS⟩
theorem rel_nl {S : SM} (h : ¬ 0 < (List.length (u32s S.rel) : Int)) : S.rel = [] := by
  rw [u32s_len] at h; exact List.length_eq_zero_iff.1 (by omega)
theorem set_drop1 {α : Type} (l : List α) {n : Nat} (hn : 1 ≤ n) (x : α) : (l.set n x).drop 1 = (l.drop 1).set (n - 1) x := by
  obtain ⟨m, rfl⟩ : ∃ m, n = m + 1 := ⟨n - 1, by omega⟩
  cases l <;> rfl
set_option maxRecDepth 8192 in
theorem q_alloc {g w : World} {L : List HP} (S : SM) (ra ga oa : Option Addr) (rc gc oc : Nat) (hO : SOk S) (hf : 0 < S.free) (hS : St g (Sh 64 1 (u32s S.rel) ra rc :: Sh 64 1 (u32s (S.gen.drop 1)) ga gc :: Sh 4 1 (bos (S.used.drop 1)) oa oc :: L) w) :
    Sp Tryz.prog 190 [.agg #[.int .i64 S.cap, .slice ra (List.length (u32s S.rel)) rc, .int .i64 (S.fresh + 1), .slice ga (List.length (u32s (S.gen.drop 1))) gc, .slice oa (List.length (bos (S.used.drop 1))) oc]] w (fun v w' => ∃ (ra2 ga2 oa2 : Option Addr) (rc2 gc2 oc2 : Nat), v = .tuple #[.agg #[.int .i64 S.alloc.cap, .slice ra2 (List.length (u32s S.alloc.rel)) rc2, .int .i64 (S.alloc.fresh + 1), .slice ga2 (List.length (u32s (S.alloc.gen.drop 1))) gc2, .slice oa2 (List.length (bos (S.alloc.used.drop 1))) oc2], .int .u32 S.next, .int .i64 0] ∧ St g (Sh 64 1 (u32s S.alloc.rel) ra2 rc2 :: Sh 64 1 (u32s (S.alloc.gen.drop 1)) ga2 gc2 :: Sh 4 1 (bos (S.alloc.used.drop 1)) oa2 oc2 :: L) w' ∧ (1 ≤ S.next ∧ S.next ≤ S.cap)) := by
  refine Sp.enter Tryz.func190 rfl (by kernel_rfl) (by kernel_rfl) ?_
  refine WC.seq <| WC.region <| WL.box rfl rfl #[.int .i64 S.cap, .slice ra (List.length (u32s S.rel)) rc, .int .i64 (S.fresh + 1), .slice ga (List.length (u32s (S.gen.drop 1))) gc, .slice oa (List.length (bos (S.used.drop 1))) oc] hS rfl rfl (fun b1 w hS => ?_)
  refine WL.new rfl rfl zv_35 hS (fun b2 w hS => ?_)
  refine WL.r 2 rfl <| WL.nil <| WC.seq <| WC.region <| WL.r 1 rfl <| WL.nil <| WC.seq <| WC.seq <| WC.region ?_
  have hrb := hO.rle; have hfr := hO.fr; have hcp : S.cap = (S.used.length : Int) - 1 := rfl; have hle := hO.cap; have hgl := hO.gl; have hfe : S.free = (S.rel.length : Int) + S.cap - S.fresh := rfl; have hnx := S.next_rng hO hf; have hrl := u32s_len S.rel; have hdg : (S.gen.drop 1).length = S.gen.length - 1 := List.length_drop ..; have hdu : (S.used.drop 1).length = S.used.length - 1 := List.length_drop ..; have hg1 := u32s_len (S.gen.drop 1); have hu1 := bos_len (S.used.drop 1)
  refine WL.run 4 [.slice ra (List.length (u32s S.rel)) rc] rfl (by exact hS.ld 1 rfl rfl) ?_
  refine WL.nil <| WC.seq <| WC.region <| WL.r 2 rfl <| WL.nil <| WC.ifP rfl (fun cd1 => ?_) (fun cd1 => ?_)
  · refine WC.seq <| WC.region <| WL.run 4 [.slice ra (List.length (u32s S.rel)) rc] rfl (by exact hS.ld 1 rfl rfl) ?_
    refine WL.nw 15 rfl (w64 (by omega)) ?_
    have hne : S.rel ≠ [] := (fun e => by have h9 := congrArg List.length e; rw [List.length_nil] at h9; omega); have hx : S.rel[S.rel.length - 1]? = some S.next := by rw [rel_split hne]; simp
    refine WL.ix rfl rfl (i := (List.length (u32s S.rel) : Int) - 1) (S.rel.length - 1) el_32 rfl rfl (by omega) (by omega) (hS.rdS 2 rfl (u32s_at hx)).1 ?_
    refine WL.run 2 [.int .u32 S.next] rfl (by exact (hS.rdS 2 rfl (u32s_at hx)).2 0 _ rfl) ?_
    refine WL.nw 18 rfl (w64 (by omega)) ?_
    refine WL.r 1 rfl <| WL.nil ?_
    as_aux_lemma =>
    refine WC.region <| WL.run 4 [.slice ra (List.length (u32s S.rel)) rc] rfl (by exact hS.ld 1 rfl rfl) ?_
    refine WL.nw 22 rfl (w64 (by omega)) ?_
    refine WL.slHi rfl rfl (v := (List.length (u32s S.rel) : Int) - 1) 2 (S.rel.length - 1) (u32s (S.rel.take (S.rel.length - 1))) el_32 hS rfl rfl rfl (by omega) (by omega) (u32s_take _ _) (fun a1 hS => ?_)
    replace hS := hS.n6 L (a0 := Sh 64 1 (u32s (S.rel.take ((List.length S.rel) - 1))) a1 rc) (a1 := cel b2 #[.int .i64 0, .slice none 0 0, .int .i64 0, .slice none 0 0, .slice none 0 0] 35) (a2 := cel b1 #[.int .i64 S.cap, .slice ra (List.length (u32s S.rel)) rc, .int .i64 (S.fresh + 1), .slice ga (List.length (u32s (S.gen.drop 1))) gc, .slice oa (List.length (bos (S.used.drop 1))) oc] 35) rfl
    replace hS := hS.nil_ 64 1
    refine WL.app rfl rfl 0 (u32s (S.rel.take ((List.length S.rel) - 1))) el_32 hS rfl (hS.srcS 1 rfl) (List.nil_append _) (Rm.of (by first | omega | (simp <;> omega)) (by decide)) rfl rfl (fun a2 c1 w hS => ?_)
    replace hS := hS.n7 L (a0 := Own 64 1 (u32s (S.rel.take ((List.length S.rel) - 1))) a2 c1) rfl
    refine WL.r 1 rfl <| WL.st rfl rfl rfl 3 hS rfl rfl rfl rfl rfl rfl (fun w hS => ?_)
    replace hS := hS.n7 L (a3 := cel b1 #[.int .i64 S.cap, .slice a2 (List.length (u32s (S.rel.take ((List.length S.rel) - 1)))) c1, .int .i64 (S.fresh + 1), .slice ga (List.length (u32s (S.gen.drop 1))) gc, .slice oa (List.length (bos (S.used.drop 1))) oc] 35) rfl
    refine WL.nil <| WC.seq <| WC.plan [([0, 3, 1, 4], some (2, [3, 4])), ([6], some (5, [6])), ([], some (7, [])), ([8], some (9, []))] (by kernel_rfl) (by kernel_rfl) ?_
    refine WQ.run 4 [.slice ga (List.length (u32s (S.gen.drop 1))) gc, .slice oa (List.length (bos (S.used.drop 1))) oc] rfl (by exact ⟨hS.ld 3 rfl rfl, hS.ld 3 rfl rfl⟩) ?_
    refine WQ.nil ?_
    intro m1
    replace hS := hS.drewN m1; generalize hwm1 : World.drewN _ _ = w at *; clear hwm1
    replace hS := hS.nil_ 64 1
    refine WL.app rfl rfl 0 (u32s (S.gen.drop 1)) el_32 hS rfl (hS.srcS 6 rfl) (List.nil_append _) (Rm.of (by first | omega | (simp <;> omega)) (by decide)) rfl rfl (fun a3 c2 w hS => ?_)
    replace hS := hS.n8 L (a0 := Own 64 1 (u32s (S.gen.drop 1)) a3 c2) rfl
    refine WL.nil ?_
    refine ⟨by exact ⟨RQ.pure rfl rfl rfl rfl, RQ.load rfl rfl rfl rfl (hS.ld 4 rfl rfl)⟩, ?_⟩
    refine WQ.r 1 rfl <| WQ.nil ?_
    intro m2
    replace hS := hS.drewN m2; generalize hwm2 : World.drewN _ _ = w at *; clear hwm2
    replace hS := hS.nil_ 4 1
    refine WL.app rfl rfl 0 (bos (S.used.drop 1)) el_33 hS rfl (hS.srcS 8 rfl) (List.nil_append _) (Rm.of (by first | omega | (simp <;> omega)) (by decide)) rfl rfl (fun a4 c3 w hS => ?_)
    replace hS := hS.n9 L (a0 := Own 4 1 (bos (S.used.drop 1)) a4 c3) rfl
    refine WL.nil ?_
    refine ⟨by exact RQ.pure rfl rfl rfl rfl, ?_⟩
    refine WQ.nil ?_
    intro m3
    replace hS := hS.drewN m3; generalize hwm3 : World.drewN _ _ = w at *; clear hwm3
    refine WL.st rfl rfl rfl 5 hS rfl rfl rfl rfl rfl rfl (fun w hS => ?_)
    replace hS := hS.n9 L (a5 := cel b1 #[.int .i64 S.cap, .slice a2 (List.length (u32s (S.rel.take ((List.length S.rel) - 1)))) c1, .int .i64 (S.fresh + 1), .slice a3 (List.length (u32s (S.gen.drop 1))) c2, .slice oa (List.length (bos (S.used.drop 1))) oc] 35) rfl
    refine WL.nil ?_
    refine ⟨by exact trivial, ?_⟩
    refine WQ.r 1 rfl <| WQ.nil ?_
    intro m4
    replace hS := hS.drewN m4; generalize hwm4 : World.drewN _ _ = w at *; clear hwm4
    refine WL.st rfl rfl rfl 5 hS rfl rfl rfl rfl rfl rfl (fun w hS => ?_)
    replace hS := hS.n9 L (a5 := cel b1 #[.int .i64 S.cap, .slice a2 (List.length (u32s (S.rel.take ((List.length S.rel) - 1)))) c1, .int .i64 (S.fresh + 1), .slice a3 (List.length (u32s (S.gen.drop 1))) c2, .slice a4 (List.length (bos (S.used.drop 1))) c3] 35) rfl
    refine WL.nil ?_
    refine ⟨by exact trivial, ?_⟩
    intro m5
    replace hS := hS.drewN m5; generalize hwm5 : World.drewN _ _ = w at *; clear hwm5
    as_aux_lemma =>
    refine WC.seq <| WC.region ?_
    obtain ⟨v, hv⟩ : ∃ v, S.gen[S.next.toNat]? = some v := ⟨_, List.getElem?_eq_getElem (by omega)⟩; obtain ⟨u, hu⟩ : ∃ u, S.used[S.next.toNat]? = some u := ⟨_, List.getElem?_eq_getElem (by omega)⟩
    refine WL.run 4 [.slice a3 (List.length (u32s (S.gen.drop 1))) c2] rfl (by exact hS.ld 5 rfl rfl) ?_
    refine WL.nw 49 rfl (w64 (by omega)) ?_
    refine WL.ix rfl rfl (i := S.next - 1) (S.next.toNat - 1) el_32 rfl rfl (by omega) (by omega) (hS.rdO 1 rfl (u32s_at (drop_1 (by omega) hv))).1 ?_
    refine WL.run 2 [.int .u32 v] rfl (by exact (hS.rdO 1 rfl (u32s_at (drop_1 (by omega) hv))).2 0 _ rfl) ?_
    refine WL.reb 52 (.int .u32 ((v + 1) % 4294967296)) (congrArg (Value.int .u32) (by rfl)) ?_
    refine WL.ix rfl rfl (i := S.next - 1) (S.next.toNat - 1) el_32 rfl rfl (by omega) (by omega) (hS.rdO 1 rfl (u32s_at (drop_1 (by omega) hv))).1 ?_
    refine WL.stE rfl rfl rfl 1 (S.next.toNat - 1) 0 [.int .u32 v] (u32s ((S.gen.drop 1).set (S.next.toNat - 1) ((v + 1) % 4294967296))) hS rfl (u32s_at (drop_1 (by omega) hv)) rfl rfl rfl rfl rfl (u32s_set _ _ _) (fun w hS => ?_)
    replace hS := hS.n9 L (a1 := Own 64 1 (u32s ((S.gen.drop 1).set (S.next.toNat - 1) ((v + 1) % 4294967296))) a3 c2) rfl
    refine WL.nil <| WC.seq <| WC.region <| WL.run 4 [.slice a4 (List.length (bos (S.used.drop 1))) c3] rfl (by exact hS.ld 5 rfl rfl) ?_
    refine WL.nw 57 rfl (w64 (by omega)) ?_
    refine WL.ix rfl rfl (i := S.next - 1) (S.next.toNat - 1) el_33 rfl rfl (by omega) (by omega) (hS.rdO 0 rfl (bos_at (drop_1 (by omega) hu))).1 ?_
    refine WL.stE rfl rfl rfl 0 (S.next.toNat - 1) 0 [.bool u] (bos ((S.used.drop 1).set (S.next.toNat - 1) true)) hS rfl (bos_at (drop_1 (by omega) hu)) rfl rfl rfl rfl rfl (bos_set _ _ _) (fun w hS => ?_)
    replace hS := hS.n9 L (a0 := Own 4 1 (bos ((S.used.drop 1).set (S.next.toNat - 1) true)) a4 c3) rfl
    refine WL.nil <| WC.seq <| WC.region ?_
    have hge : S.genOf S.next = v := (by unfold SM.genOf; rw [hv]; rfl); have e1 : S.alloc.gen.drop 1 = (S.gen.drop 1).set (S.next.toNat - 1) ((v + 1) % 4294967296) := (by rw [← hge]; exact set_drop1 _ (by omega) _); have e2 : S.alloc.used.drop 1 = (S.used.drop 1).set (S.next.toNat - 1) true := set_drop1 _ (by omega) _; have e3 : S.alloc.cap = S.cap := (by unfold SM.cap SM.alloc; simp)
    refine WL.ldF rfl rfl 5 hS rfl rfl ag_35 <| WL.r 2 rfl <| WL.nw 61 rfl (wu32 (by omega)) ?_
    refine WL.stF rfl rfl rfl 4 hS rfl rfl rfl rfl rfl ag_35 (fun w hS => ?_)
    replace hS := hS.n9 L (a4 := cel b2 #[.int .i64 S.cap, .slice a2 (List.length (u32s (S.rel.take ((List.length S.rel) - 1)))) c1, .int .i64 (S.fresh + 1), .slice a3 (List.length (u32s (S.gen.drop 1))) c2, .slice a4 (List.length (bos (S.used.drop 1))) c3] 35) rfl
    refine WL.r 2 rfl <| WL.nil ?_
    as_aux_lemma =>
    refine WC.ret ?_
    have l1 : (u32s (S.gen.drop 1)).length = (u32s (S.alloc.gen.drop 1)).length := (by rw [e1]; simp); have l2 : (bos (S.used.drop 1)).length = (bos (S.alloc.used.drop 1)).length := (by rw [e2]; simp); have q1 : S.rel.take (S.rel.length - 1) = S.alloc.rel := (List.dropLast_eq_take (l := S.rel)).symm; have q2 : S.fresh = S.alloc.fresh := (if_neg hne).symm; rw [l1, l2, q1, ← e1, ← e2, ← e3, q2] at hS; replace hS := (((hS.at_ 0 rfl).share.at_ 1 rfl).share.at_ 2 rfl).share.sel 9 [0, 0, 0, 1] rfl
    replace hS : St g (Sh 64 1 (u32s S.alloc.rel) a2 c1 :: Sh 64 1 (u32s (S.alloc.gen.drop 1)) a3 c2 :: Sh 4 1 (bos (S.alloc.used.drop 1)) a4 c3 :: cel b2 #[.int .i64 S.alloc.cap, .slice a2 (List.length (u32s S.alloc.rel)) c1, .int .i64 (S.alloc.fresh + 1), .slice a3 (List.length (u32s (S.alloc.gen.drop 1))) c2, .slice a4 (List.length (bos (S.alloc.used.drop 1))) c3] 35 :: L) w := hS
    refine ⟨[.agg #[.int .i64 S.alloc.cap, .slice a2 (List.length (u32s S.alloc.rel)) c1, .int .i64 (S.alloc.fresh + 1), .slice a3 (List.length (u32s (S.alloc.gen.drop 1))) c2, .slice a4 (List.length (bos (S.alloc.used.drop 1))) c3], .int .u32 S.next, .int .i64 0], ⟨⟨_, rfl, hS.lvF 3 rfl ag_35⟩, rfl, rfl⟩, ?_⟩
    replace hS := (hS.sel 4 [0, 0, 0] rfl)
    exact ⟨_, _, _, _, _, _, rfl, hS, ⟨hnx.1, hnx.2.1⟩⟩
  · refine WC.seq <| WC.region ?_
    have hnn := SM.next_nil (rel_nl cd1)
    refine WL.run 5 [.int .i64 (S.fresh + 1), .int .i64 S.cap] rfl (by exact ⟨hS.ld 1 rfl rfl, hS.ld 1 rfl rfl⟩) ?_
    refine WL.nil ?_
    as_aux_lemma =>
    refine WC.ifT rfl (decide_eq_true ((by have h9 : S.rel.length = 0 := (by omega); omega))) ?_
    refine WC.seq <| WC.region <| WL.run 3 [.int .i64 (S.fresh + 1)] rfl (by exact hS.ld 1 rfl rfl) ?_
    refine WL.nil <| WC.region <| WL.run 3 [.int .i64 (S.fresh + 1)] rfl (by exact hS.ld 1 rfl rfl) ?_
    refine WL.nw 35 rfl (w64 (by omega)) ?_
    refine WL.r 1 rfl <| WL.st rfl rfl rfl 1 hS rfl rfl rfl rfl rfl rfl (fun w hS => ?_)
    replace hS := hS.n5 L (a0 := cel b2 #[.int .i64 0, .slice none 0 0, .int .i64 0, .slice none 0 0, .slice none 0 0] 35) (a1 := cel b1 #[.int .i64 S.cap, .slice ra (List.length (u32s S.rel)) rc, .int .i64 ((S.fresh + 1) + 1), .slice ga (List.length (u32s (S.gen.drop 1))) gc, .slice oa (List.length (bos (S.used.drop 1))) oc] 35) rfl
    refine WL.nil <| WC.seq <| WC.plan [([0, 3, 1, 4], some (2, [3, 4])), ([6], some (5, [6])), ([], some (7, [])), ([8], some (9, []))] (by kernel_rfl) (by kernel_rfl) ?_
    refine WQ.run 4 [.slice ga (List.length (u32s (S.gen.drop 1))) gc, .slice oa (List.length (bos (S.used.drop 1))) oc] rfl (by exact ⟨hS.ld 1 rfl rfl, hS.ld 1 rfl rfl⟩) ?_
    refine WQ.nil ?_
    intro m1
    replace hS := hS.drewN m1; generalize hwm1 : World.drewN _ _ = w at *; clear hwm1
    replace hS := hS.nil_ 64 1
    refine WL.app rfl rfl 0 (u32s (S.gen.drop 1)) el_32 hS rfl (hS.srcS 4 rfl) (List.nil_append _) (Rm.of (by first | omega | (simp <;> omega)) (by decide)) rfl rfl (fun a1 c1 w hS => ?_)
    replace hS := hS.n6 L (a0 := Own 64 1 (u32s (S.gen.drop 1)) a1 c1) rfl
    refine WL.nil ?_
    refine ⟨by exact ⟨RQ.pure rfl rfl rfl rfl, RQ.load rfl rfl rfl rfl (hS.ld 2 rfl rfl)⟩, ?_⟩
    refine WQ.r 1 rfl <| WQ.nil ?_
    intro m2
    replace hS := hS.drewN m2; generalize hwm2 : World.drewN _ _ = w at *; clear hwm2
    replace hS := hS.nil_ 4 1
    refine WL.app rfl rfl 0 (bos (S.used.drop 1)) el_33 hS rfl (hS.srcS 6 rfl) (List.nil_append _) (Rm.of (by first | omega | (simp <;> omega)) (by decide)) rfl rfl (fun a2 c2 w hS => ?_)
    replace hS := hS.n7 L (a0 := Own 4 1 (bos (S.used.drop 1)) a2 c2) rfl
    refine WL.nil ?_
    refine ⟨by exact RQ.pure rfl rfl rfl rfl, ?_⟩
    refine WQ.nil ?_
    intro m3
    replace hS := hS.drewN m3; generalize hwm3 : World.drewN _ _ = w at *; clear hwm3
    refine WL.st rfl rfl rfl 3 hS rfl rfl rfl rfl rfl rfl (fun w hS => ?_)
    replace hS := hS.n7 L (a3 := cel b1 #[.int .i64 S.cap, .slice ra (List.length (u32s S.rel)) rc, .int .i64 ((S.fresh + 1) + 1), .slice a1 (List.length (u32s (S.gen.drop 1))) c1, .slice oa (List.length (bos (S.used.drop 1))) oc] 35) rfl
    refine WL.nil ?_
    refine ⟨by exact trivial, ?_⟩
    refine WQ.r 1 rfl <| WQ.nil ?_
    intro m4
    replace hS := hS.drewN m4; generalize hwm4 : World.drewN _ _ = w at *; clear hwm4
    refine WL.st rfl rfl rfl 3 hS rfl rfl rfl rfl rfl rfl (fun w hS => ?_)
    replace hS := hS.n7 L (a3 := cel b1 #[.int .i64 S.cap, .slice ra (List.length (u32s S.rel)) rc, .int .i64 ((S.fresh + 1) + 1), .slice a1 (List.length (u32s (S.gen.drop 1))) c1, .slice a2 (List.length (bos (S.used.drop 1))) c2] 35) rfl
    refine WL.nil ?_
    refine ⟨by exact trivial, ?_⟩
    intro m5
    replace hS := hS.drewN m5; generalize hwm5 : World.drewN _ _ = w at *; clear hwm5
    as_aux_lemma =>
    refine WC.seq <| WC.region ?_
    obtain ⟨v, hv⟩ : ∃ v, S.gen[S.next.toNat]? = some v := ⟨_, List.getElem?_eq_getElem (by omega)⟩; obtain ⟨u, hu⟩ : ∃ u, S.used[S.next.toNat]? = some u := ⟨_, List.getElem?_eq_getElem (by omega)⟩
    refine WL.run 4 [.slice a1 (List.length (u32s (S.gen.drop 1))) c1] rfl (by exact hS.ld 3 rfl rfl) ?_
    refine WL.nw 49 rfl (w64 (by omega)) ?_
    refine WL.ix rfl rfl (i := (S.fresh + 1) - 1) (S.next.toNat - 1) el_32 rfl rfl (by omega) (by omega) (hS.rdO 1 rfl (u32s_at (drop_1 (by omega) hv))).1 ?_
    refine WL.run 2 [.int .u32 v] rfl (by exact (hS.rdO 1 rfl (u32s_at (drop_1 (by omega) hv))).2 0 _ rfl) ?_
    refine WL.reb 52 (.int .u32 ((v + 1) % 4294967296)) (congrArg (Value.int .u32) (by rfl)) ?_
    refine WL.ix rfl rfl (i := (S.fresh + 1) - 1) (S.next.toNat - 1) el_32 rfl rfl (by omega) (by omega) (hS.rdO 1 rfl (u32s_at (drop_1 (by omega) hv))).1 ?_
    refine WL.stE rfl rfl rfl 1 (S.next.toNat - 1) 0 [.int .u32 v] (u32s ((S.gen.drop 1).set (S.next.toNat - 1) ((v + 1) % 4294967296))) hS rfl (u32s_at (drop_1 (by omega) hv)) rfl rfl rfl rfl rfl (u32s_set _ _ _) (fun w hS => ?_)
    replace hS := hS.n7 L (a1 := Own 64 1 (u32s ((S.gen.drop 1).set (S.next.toNat - 1) ((v + 1) % 4294967296))) a1 c1) rfl
    refine WL.nil <| WC.seq <| WC.region <| WL.run 4 [.slice a2 (List.length (bos (S.used.drop 1))) c2] rfl (by exact hS.ld 3 rfl rfl) ?_
    refine WL.nw 57 rfl (w64 (by omega)) ?_
    refine WL.ix rfl rfl (i := (S.fresh + 1) - 1) (S.next.toNat - 1) el_33 rfl rfl (by omega) (by omega) (hS.rdO 0 rfl (bos_at (drop_1 (by omega) hu))).1 ?_
    refine WL.stE rfl rfl rfl 0 (S.next.toNat - 1) 0 [.bool u] (bos ((S.used.drop 1).set (S.next.toNat - 1) true)) hS rfl (bos_at (drop_1 (by omega) hu)) rfl rfl rfl rfl rfl (bos_set _ _ _) (fun w hS => ?_)
    replace hS := hS.n7 L (a0 := Own 4 1 (bos ((S.used.drop 1).set (S.next.toNat - 1) true)) a2 c2) rfl
    refine WL.nil <| WC.seq <| WC.region ?_
    have hge : S.genOf S.next = v := (by unfold SM.genOf; rw [hv]; rfl); have e1 : S.alloc.gen.drop 1 = (S.gen.drop 1).set (S.next.toNat - 1) ((v + 1) % 4294967296) := (by rw [← hge]; exact set_drop1 _ (by omega) _); have e2 : S.alloc.used.drop 1 = (S.used.drop 1).set (S.next.toNat - 1) true := set_drop1 _ (by omega) _; have e3 : S.alloc.cap = S.cap := (by unfold SM.cap SM.alloc; simp)
    refine WL.ldF rfl rfl 3 hS rfl rfl ag_35 <| WL.r 2 rfl <| WL.nw 61 rfl (wu32 (by omega)) ?_
    refine WL.stF rfl rfl rfl 2 hS rfl rfl rfl rfl rfl ag_35 (fun w hS => ?_)
    replace hS := hS.n7 L (a2 := cel b2 #[.int .i64 S.cap, .slice ra (List.length (u32s S.rel)) rc, .int .i64 ((S.fresh + 1) + 1), .slice a1 (List.length (u32s (S.gen.drop 1))) c1, .slice a2 (List.length (bos (S.used.drop 1))) c2] 35) rfl
    refine WL.r 2 rfl <| WL.nil ?_
    as_aux_lemma =>
    refine WC.ret ?_
    have l1 : (u32s (S.gen.drop 1)).length = (u32s (S.alloc.gen.drop 1)).length := (by rw [e1]; simp); have l2 : (bos (S.used.drop 1)).length = (bos (S.alloc.used.drop 1)).length := (by rw [e2]; simp); have q1 : S.rel = S.alloc.rel := (by show S.rel = S.rel.dropLast; rw [rel_nl cd1]; rfl); have q2 : S.fresh + 1 = S.alloc.fresh := (if_pos (rel_nl cd1)).symm; rw [l1, l2, ← e1, ← e2, ← e3, q2] at hS; replace hS := ((hS.at_ 0 rfl).share.at_ 1 rfl).share.sel 7 [4, 0, 0, 0] rfl; rw [q1] at hS
    replace hS : St g (Sh 64 1 (u32s S.alloc.rel) ra rc :: Sh 64 1 (u32s (S.alloc.gen.drop 1)) a1 c1 :: Sh 4 1 (bos (S.alloc.used.drop 1)) a2 c2 :: cel b2 #[.int .i64 S.alloc.cap, .slice ra (List.length (u32s S.alloc.rel)) rc, .int .i64 (S.alloc.fresh + 1), .slice a1 (List.length (u32s (S.alloc.gen.drop 1))) c1, .slice a2 (List.length (bos (S.alloc.used.drop 1))) c2] 35 :: L) w := hS
    refine ⟨[.agg #[.int .i64 S.alloc.cap, .slice ra (List.length (u32s S.alloc.rel)) rc, .int .i64 (S.alloc.fresh + 1), .slice a1 (List.length (u32s (S.alloc.gen.drop 1))) c1, .slice a2 (List.length (bos (S.alloc.used.drop 1))) c2], .int .u32 (S.fresh + 1), .int .i64 0], ⟨⟨_, rfl, hS.lvF 3 rfl ag_35⟩, rfl, rfl⟩, ?_⟩
    replace hS := (hS.sel 4 [0, 0, 0] rfl)
    exact ⟨_, _, _, _, _, _, by rw [hnn]; rfl, hS, ⟨hnx.1, hnx.2.1⟩⟩
set_option maxRecDepth 8192 in
theorem q_rel {g w : World} {L : List HP} (S : SM) (ra ga oa : Option Addr) (rc gc oc : Nat) (i : Int) (hO : SOk S) (hi : 0 ≤ i ∧ i ≤ 4294967295) (hk : S.ok i = true) (hS : St g (Sh 64 1 (u32s S.rel) ra rc :: Sh 64 1 (u32s (S.gen.drop 1)) ga gc :: Sh 4 1 (bos (S.used.drop 1)) oa oc :: L) w) :
    Sp Tryz.prog 191 [.agg #[.int .i64 S.cap, .slice ra (List.length (u32s S.rel)) rc, .int .i64 (S.fresh + 1), .slice ga (List.length (u32s (S.gen.drop 1))) gc, .slice oa (List.length (bos (S.used.drop 1))) oc], .int .u32 i] w (fun v w' => ∃ (ra2 oa2 : Option Addr) (rc2 oc2 : Nat), v = .tuple #[.agg #[.int .i64 (S.release i).cap, .slice ra2 (List.length (u32s (S.release i).rel)) rc2, .int .i64 ((S.release i).fresh + 1), .slice ga (List.length (u32s ((S.release i).gen.drop 1))) gc, .slice oa2 (List.length (bos ((S.release i).used.drop 1))) oc2], .int .i64 0] ∧ St g (Sh 64 1 (u32s (S.release i).rel) ra2 rc2 :: Sh 64 1 (u32s ((S.release i).gen.drop 1)) ga gc :: Sh 4 1 (bos ((S.release i).used.drop 1)) oa2 oc2 :: L) w') := by
  refine Sp.enter Tryz.func191 rfl (by kernel_rfl) (by kernel_rfl) ?_
  refine WC.seq <| WC.region <| WL.box rfl rfl #[.int .i64 S.cap, .slice ra (List.length (u32s S.rel)) rc, .int .i64 (S.fresh + 1), .slice ga (List.length (u32s (S.gen.drop 1))) gc, .slice oa (List.length (bos (S.used.drop 1))) oc] hS rfl rfl (fun b1 w hS => ?_)
  refine WL.new rfl rfl zv_35 hS (fun b2 w hS => ?_)
  refine WL.r 1 rfl <| WL.nil <| WC.seq <| WC.seq <| WC.region ?_
  have hfr := hO.fr; have hcp : S.cap = (S.used.length : Int) - 1 := rfl; have hle := hO.cap; have hir := S.ok_rng hO hi.1 hk; have hrl := hO.rle; have hu1 := bos_len (S.used.drop 1); have hr1 := u32s_len S.rel; have hdu : (S.used.drop 1).length = S.used.length - 1 := List.length_drop ..
  refine WL.ldF rfl rfl 1 hS rfl rfl ag_35 <| WL.r 1 rfl <| WL.call rfl rfl (q_ok (S := S) (ra := ra) (ga := ga) (oa := oa) (rc := rc) (gc := gc) (oc := oc) (i := i) (hO := hO) (hi := hi) (hS := (hS.sel 5 [4, 0, 0, 0, 0] rfl))) rfl ?_
  clear hS; rintro _ w ⟨rfl, hS⟩
  replace hS := hS.n5 L (a1 := cel b2 #[.int .i64 0, .slice none 0 0, .int .i64 0, .slice none 0 0, .slice none 0 0] 35) (a2 := cel b1 #[.int .i64 S.cap, .slice ra (List.length (u32s S.rel)) rc, .int .i64 (S.fresh + 1), .slice ga (List.length (u32s (S.gen.drop 1))) gc, .slice oa (List.length (bos (S.used.drop 1))) oc] 35) rfl
  refine WL.r 1 rfl <| WL.nil <| WC.ifF rfl (by rw [hk]; decide) ?_
  refine WC.skip <| WC.seq <| WC.region ?_
  have hsn := u32s_snoc S.rel i
  refine WL.run 2 [.slice ra (List.length (u32s S.rel)) rc] rfl (by exact hS.ld 2 rfl rfl) ?_
  replace hS := hS.nil_ 64 1
  refine WL.app rfl rfl 0 (u32s S.rel) el_32 hS rfl (hS.srcS 4 rfl) (List.nil_append _) (Rm.of (by first | omega | (simp <;> omega)) (by decide)) rfl rfl (fun a1 c1 w hS => ?_)
  replace hS := hS.n6 L (a0 := Own 64 1 (u32s S.rel) a1 c1) rfl
  refine WL.r 1 rfl <| WL.lit rfl rfl (u32s [i]) el_32 hS (by exact ⟨rfl, rfl⟩) (u32s_ok _) rfl (Nat.le_of_ble_eq_true rfl) (fun b3 w hS => ?_)
  refine WL.app rfl rfl 1 (u32s (S.rel ++ [i])) el_32 hS rfl (hS.srcO 0 rfl) (u32s_app _ _).symm (Rm.of (by first | omega | (simp <;> omega)) (by decide)) rfl rfl (fun a2 c2 w hS => ?_)
  replace hS := hS.n7 L (a0 := Own 64 1 (u32s [i]) (some ⟨b3, 0, none⟩) (List.length (u32s [i]))) (a1 := Own 64 1 (u32s (S.rel ++ [i])) a2 c2) rfl
  refine WL.r 1 rfl <| WL.st rfl rfl rfl 4 hS rfl rfl rfl rfl rfl rfl (fun w hS => ?_)
  replace hS := hS.n7 L (a4 := cel b1 #[.int .i64 S.cap, .slice a2 (List.length (u32s (S.rel ++ [i]))) c2, .int .i64 (S.fresh + 1), .slice ga (List.length (u32s (S.gen.drop 1))) gc, .slice oa (List.length (bos (S.used.drop 1))) oc] 35) rfl
  refine WL.nil ?_
  as_aux_lemma =>
  refine WC.seq <| WC.region <| WL.run 2 [.slice oa (List.length (bos (S.used.drop 1))) oc] rfl (by exact hS.ld 4 rfl rfl) ?_
  replace hS := hS.nil_ 4 1
  refine WL.app rfl rfl 0 (bos (S.used.drop 1)) el_33 hS rfl (hS.srcS 3 rfl) (List.nil_append _) (Rm.of (by first | omega | (simp <;> omega)) (by decide)) rfl rfl (fun a3 c3 w hS => ?_)
  replace hS := hS.n8 L (a0 := Own 4 1 (bos (S.used.drop 1)) a3 c3) rfl
  refine WL.r 1 rfl <| WL.st rfl rfl rfl 5 hS rfl rfl rfl rfl rfl rfl (fun w hS => ?_)
  replace hS := hS.n8 L (a5 := cel b1 #[.int .i64 S.cap, .slice a2 (List.length (u32s (S.rel ++ [i]))) c2, .int .i64 (S.fresh + 1), .slice ga (List.length (u32s (S.gen.drop 1))) gc, .slice a3 (List.length (bos (S.used.drop 1))) c3] 35) rfl
  refine WL.nil <| WC.seq <| WC.region <| WL.run 4 [.slice a3 (List.length (bos (S.used.drop 1))) c3] rfl (by exact hS.ld 5 rfl rfl) ?_
  refine WL.nw 25 rfl (wu32 (by omega)) ?_
  obtain ⟨u, hu⟩ : ∃ u, S.used[i.toNat]? = some u := ⟨_, List.getElem?_eq_getElem (by omega)⟩
  refine WL.ix rfl rfl (i := i - 1) (i.toNat - 1) el_33 rfl rfl (by omega) (by omega) (hS.rdO 0 rfl (bos_at (drop_1 (by omega) hu))).1 ?_
  refine WL.stE rfl rfl rfl 0 (i.toNat - 1) 0 [.bool u] (bos ((S.used.drop 1).set (i.toNat - 1) false)) hS rfl (bos_at (drop_1 (by omega) hu)) rfl rfl rfl rfl rfl (bos_set _ _ _) (fun w hS => ?_)
  replace hS := hS.n8 L (a0 := Own 4 1 (bos ((S.used.drop 1).set (i.toNat - 1) false)) a3 c3) rfl
  refine WL.nil <| WC.seq <| WC.region <| WL.ldF rfl rfl 5 hS rfl rfl ag_35 <| WL.stF rfl rfl rfl 4 hS rfl rfl rfl rfl rfl ag_35 (fun w hS => ?_)
  replace hS := hS.n8 L (a4 := cel b2 #[.int .i64 S.cap, .slice a2 (List.length (u32s (S.rel ++ [i]))) c2, .int .i64 (S.fresh + 1), .slice ga (List.length (u32s (S.gen.drop 1))) gc, .slice a3 (List.length (bos (S.used.drop 1))) c3] 35) rfl
  refine WL.r 1 rfl <| WL.nil ?_
  as_aux_lemma =>
  refine WC.ret ?_
  have e2 : (S.release i).used.drop 1 = (S.used.drop 1).set (i.toNat - 1) false := set_drop1 _ (by omega) _; have e3 : (S.release i).cap = S.cap := (by unfold SM.cap SM.release; simp); have l2 : (bos (S.used.drop 1)).length = (bos ((S.release i).used.drop 1)).length := (by rw [e2]; simp); rw [l2, ← e2, ← e3] at hS; replace hS := ((hS.at_ 0 rfl).share.at_ 2 rfl).share.sel 8 [0, 6, 0, 2] rfl
  replace hS : St g (Sh 64 1 (u32s (S.release i).rel) a2 c2 :: Sh 64 1 (u32s ((S.release i).gen.drop 1)) ga gc :: Sh 4 1 (bos ((S.release i).used.drop 1)) a3 c3 :: cel b2 #[.int .i64 (S.release i).cap, .slice a2 (List.length (u32s (S.release i).rel)) c2, .int .i64 ((S.release i).fresh + 1), .slice ga (List.length (u32s ((S.release i).gen.drop 1))) gc, .slice a3 (List.length (bos ((S.release i).used.drop 1))) c3] 35 :: L) w := hS
  refine ⟨[.agg #[.int .i64 (S.release i).cap, .slice a2 (List.length (u32s (S.release i).rel)) c2, .int .i64 ((S.release i).fresh + 1), .slice ga (List.length (u32s ((S.release i).gen.drop 1))) gc, .slice a3 (List.length (bos ((S.release i).used.drop 1))) c3], .int .i64 0], ⟨⟨_, rfl, hS.lvF 3 rfl ag_35⟩, rfl⟩, ?_⟩
  replace hS := (hS.sel 4 [0, 0, 0] rfl)
  exact ⟨_, _, _, _, rfl, hS⟩
set_option maxRecDepth 8192 in
theorem q_pack {g w : World} {L : List HP} (i n : Int) (hi : 0 ≤ i ∧ i < 4294967296) (hn : 0 ≤ n ∧ n < 4294967296) (hS : St g (L) w) :
    Sp Tryz.prog 155 [.int .u32 i, .int .u32 n] w (fun v w' => v = .int .u64 (n * 4294967296 + i) ∧ St g (L) w') := by
  refine Sp.enter Tryz.func155 rfl (by kernel_rfl) (by kernel_rfl) ?_
  have _ := hn
  have _ := hi
  refine WC.seq <| WC.region <| WL.r 1 rfl <| WL.nil <| WC.seq <| WC.region <| WL.r 2 rfl <| WL.nw 6 rfl (wu64 (by omega)) ?_
  refine WL.r 1 rfl <| WL.nw 7 rfl (wu64 (by omega)) ?_
  refine WL.r 2 rfl <| WL.nw 9 rfl (wu64 (by omega)) ?_
  refine WL.r 1 rfl <| WL.nw 10 rfl (wu64 (by omega)) ?_
  refine WL.r 1 rfl <| WL.nil <| WC.ret ?_
  refine ⟨[.int .u64 ((n * 4294967296) + i)], rfl, ?_⟩
  exact ⟨rfl, hS⟩
set_option maxRecDepth 8192 in
theorem q_unpack {g w : World} {L : List HP} (h : Int) (hh : 0 ≤ h ∧ h ≤ 18446744073709551615) (hS : St g (L) w) :
    Sp Tryz.prog 220 [.int .u64 h] w (fun v w' => v = .tuple #[.int .u32 (h % 4294967296), .int .u32 (h / 4294967296)] ∧ St g (L) w') := by
  refine Sp.enter Tryz.func220 rfl (by kernel_rfl) (by kernel_rfl) ?_
  have _ := hh
  refine WC.seq <| WC.region <| WL.r 2 rfl <| WL.nil <| WC.seq <| WC.region <| WL.r 2 rfl <| WL.reb 5 (.int .u64 (h % 4294967296)) (congrArg (Value.int .u64) (Int.tmod_eq_emod_of_nonneg (a := h) (by omega))) ?_
  refine WL.r 1 rfl <| WL.nw 6 rfl (wu32 (by omega)) ?_
  refine WL.r 2 rfl <| WL.reb 8 (.int .u64 (h / 4294967296)) (congrArg (Value.int .u64) (quo_u64 (p := h) (q := 4294967296) (by omega))) ?_
  refine WL.r 1 rfl <| WL.nw 9 rfl (wu32 (by omega)) ?_
  refine WL.r 2 rfl <| WL.nil <| WC.ret ?_
  refine ⟨[.int .u32 (h % 4294967296), .int .u32 (h / 4294967296)], ⟨rfl, rfl⟩, ?_⟩
  exact ⟨rfl, hS⟩
theorem opn_no1 {S : SM} {h : Int} (h1 : (! S.ok (h % 4294967296)) = true) : S.opn h = false := by
  have h2 : S.ok (h % 4294967296) = false := by simpa using h1
  unfold SM.opn; rw [h2]; rfl
theorem opn_gen {S : SM} {h : Int} (h1 : ¬ (! S.ok (h % 4294967296)) = true) : S.opn h = decide (S.genOf (h % 4294967296) = h / 4294967296) := by
  have h2 : S.ok (h % 4294967296) = true := by simpa using h1
  unfold SM.opn SM.hd; rw [h2, Bool.true_and]
  exact decide_eq_decide.2 (by omega)
set_option maxRecDepth 8192 in
theorem q_entry {g w : World} {L : List HP} (T : TM) (ra ga oa va : Option Addr) (rc gc oc vc : Nat) (h : Int) (hT : TOk T) (hh : 0 ≤ h ∧ h ≤ 18446744073709551615) (hS : St g (Sh 64 1 (u32s T.s.rel) ra rc :: Sh 64 1 (u32s (T.s.gen.drop 1)) ga gc :: Sh 4 1 (bos (T.s.used.drop 1)) oa oc :: Sh 64 1 (u32s (T.vals.drop 1)) va vc :: L) w) :
    Sp Tryz.prog 188 [.agg #[.int .i64 T.s.cap, .slice ra (List.length (u32s T.s.rel)) rc, .int .i64 (T.s.fresh + 1), .slice ga (List.length (u32s (T.s.gen.drop 1))) gc, .slice oa (List.length (bos (T.s.used.drop 1))) oc, .slice va (List.length (u32s (T.vals.drop 1))) vc], .int .u64 h] w (fun v w' => v = .int .u32 (if T.s.opn h = true then h % 4294967296 else 0) ∧ St g (Sh 64 1 (u32s T.s.rel) ra rc :: Sh 64 1 (u32s (T.s.gen.drop 1)) ga gc :: Sh 4 1 (bos (T.s.used.drop 1)) oa oc :: Sh 64 1 (u32s (T.vals.drop 1)) va vc :: L) w') := by
  refine Sp.enter Tryz.func188 rfl (by kernel_rfl) (by kernel_rfl) ?_
  refine WC.seq <| WC.region <| WL.box rfl rfl #[.int .i64 T.s.cap, .slice ra (List.length (u32s T.s.rel)) rc, .int .i64 (T.s.fresh + 1), .slice ga (List.length (u32s (T.s.gen.drop 1))) gc, .slice oa (List.length (bos (T.s.used.drop 1))) oc, .slice va (List.length (u32s (T.vals.drop 1))) vc] hS rfl rfl (fun b1 w hS => ?_)
  refine WL.r 1 rfl <| WL.nil <| WC.seq <| WC.region <| WL.r 1 rfl <| WL.call rfl rfl (q_unpack (h := h) (hh := hh) (hS := hS)) rfl ?_
  clear hS; rintro _ w ⟨rfl, hS⟩
  replace hS := hS.n5 L (a0 := cel b1 #[.int .i64 T.s.cap, .slice ra (List.length (u32s T.s.rel)) rc, .int .i64 (T.s.fresh + 1), .slice ga (List.length (u32s (T.s.gen.drop 1))) gc, .slice oa (List.length (bos (T.s.used.drop 1))) oc, .slice va (List.length (u32s (T.vals.drop 1))) vc] 37) rfl
  refine WL.r 5 rfl <| WL.nil <| WC.seq <| WC.seq <| WC.region <| WL.r 1 rfl <| WL.ldC rfl rfl [.int .i64 T.s.cap, .slice ra (List.length (u32s T.s.rel)) rc, .int .i64 (T.s.fresh + 1), .slice ga (List.length (u32s (T.s.gen.drop 1))) gc, .slice oa (List.length (bos (T.s.used.drop 1))) oc] ag_35 rfl (hS.part 0 rfl rfl) <| WL.r 1 rfl <| WL.call rfl rfl (q_ok (S := T.s) (ra := ra) (ga := ga) (oa := oa) (rc := rc) (gc := gc) (oc := oc) (i := h % 4294967296) (hO := hT.s) (hi := (by omega)) (hS := (hS.sel 4 [3, 0, 0, 0] rfl))) rfl ?_
  clear hS; rintro _ w ⟨rfl, hS⟩
  replace hS := hS.n5 L rfl
  refine WL.r 1 rfl <| WL.r 1 rfl ?_
  by_cases cg1 : (! (T.s.ok (h % 4294967296))) = true
  · refine WL.reb 17 (.bool true) (congrArg Value.bool cg1) <| WL.skp rfl rfl rfl rfl <| WL.skp rfl rfl rfl rfl <| WL.skp rfl rfl rfl rfl <| WL.skp rfl rfl rfl rfl <| WL.skp rfl rfl rfl rfl <| WL.skp rfl rfl rfl rfl <| WL.r 1 rfl <| WL.nil ?_
    as_aux_lemma =>
    refine WC.ifT rfl rfl <| WC.seq <| WC.region <| WL.r 1 rfl <| WL.nil <| WC.ret ?_
    refine ⟨[.int .u32 0], rfl, ?_⟩
    replace hS := (hS.sel 4 [2, 2, 0] rfl)
    exact ⟨by rw [opn_no1 cg1]; rfl, hS⟩
  · refine WL.reb 17 (.bool false) (congrArg Value.bool (Bool.eq_false_iff.2 cg1)) <| WL.ung rfl rfl rfl <| WL.r 1 rfl <| WL.ung rfl rfl rfl <| WL.ldC rfl rfl [.int .i64 T.s.cap, .slice ra (List.length (u32s T.s.rel)) rc, .int .i64 (T.s.fresh + 1), .slice ga (List.length (u32s (T.s.gen.drop 1))) gc, .slice oa (List.length (bos (T.s.used.drop 1))) oc] ag_35 rfl (hS.part 1 rfl rfl) <| WL.ung rfl rfl rfl <| WL.r 1 rfl <| WL.ung rfl rfl rfl <| WL.call rfl rfl (q_gen (S := T.s) (ra := ra) (ga := ga) (oa := oa) (rc := rc) (gc := gc) (oc := oc) (i := h % 4294967296) (hO := hT.s) (hi := (by omega)) (hi0 := (fun e => cg1 (by rw [e, ok_lo hT.s]; rfl))) (hS := (hS.sel 4 [3, 0, 0, 0] rfl))) rfl ?_
    clear hS; rintro _ w ⟨rfl, hS⟩
    replace hS := hS.n5 L rfl
    refine WL.ung rfl rfl rfl <| WL.r 1 rfl <| WL.ung rfl rfl rfl <| WL.r 2 rfl <| WL.nil ?_
    as_aux_lemma =>
    refine WC.ifP rfl (fun cd1 => ?_) (fun cd1 => ?_)
    · refine WC.seq <| WC.region <| WL.r 1 rfl <| WL.nil <| WC.ret ?_
      refine ⟨[.int .u32 0], rfl, ?_⟩
      replace hS := (hS.sel 4 [3, 0, 0] rfl)
      exact ⟨by rw [opn_gen cg1, decide_eq_false cd1]; rfl, hS⟩
    · refine WC.skip <| WC.seq <| WC.region <| WL.r 2 rfl <| WL.nil <| WC.ret ?_
      refine ⟨[.int .u32 (h % 4294967296)], rfl, ?_⟩
      replace hS := (hS.sel 4 [3, 0, 0] rfl)
      exact ⟨by rw [opn_gen cg1, decide_eq_true (Classical.not_not.1 cd1)]; rfl, hS⟩
theorem opn_pos {T : TM} (hT : TOk T) {h : Int} (hh : 0 ≤ h) (ho : T.s.opn h = true) : 1 ≤ h % 4294967296 ∧ h % 4294967296 ≤ T.s.cap ∧ (h % 4294967296).toNat < T.s.used.length := by
  have _ := hh
  have := T.s.ok_rng hT.s (by omega) (SM.opn_ok ho).1
  exact ⟨this.1, this.2.2.1, this.2.2.2⟩
set_option maxRecDepth 8192 in
theorem q_look_bad {g w : World} {L : List HP} (T : TM) (ra ga oa va : Option Addr) (rc gc oc vc : Nat) (h : Int) (hT : TOk T) (hh : 0 ≤ h ∧ h ≤ 18446744073709551615) (hn : T.s.opn h = false) (hS : St g (Sh 64 1 (u32s T.s.rel) ra rc :: Sh 64 1 (u32s (T.s.gen.drop 1)) ga gc :: Sh 4 1 (bos (T.s.used.drop 1)) oa oc :: Sh 64 1 (u32s (T.vals.drop 1)) va vc :: L) w) :
    Sp Tryz.prog 131 [.agg #[.int .i64 T.s.cap, .slice ra (List.length (u32s T.s.rel)) rc, .int .i64 (T.s.fresh + 1), .slice ga (List.length (u32s (T.s.gen.drop 1))) gc, .slice oa (List.length (bos (T.s.used.drop 1))) oc, .slice va (List.length (u32s (T.vals.drop 1))) vc], .int .u64 h] w (fun v w' => v = .tuple #[.int .u32 0, .int .i64 5] ∧ St g (Sh 64 1 (u32s T.s.rel) ra rc :: Sh 64 1 (u32s (T.s.gen.drop 1)) ga gc :: Sh 4 1 (bos (T.s.used.drop 1)) oa oc :: Sh 64 1 (u32s (T.vals.drop 1)) va vc :: L) w') := by
  refine Sp.enter Tryz.func131 rfl (by kernel_rfl) (by kernel_rfl) ?_
  refine WC.seq <| WC.region <| WL.box rfl rfl #[.int .i64 T.s.cap, .slice ra (List.length (u32s T.s.rel)) rc, .int .i64 (T.s.fresh + 1), .slice ga (List.length (u32s (T.s.gen.drop 1))) gc, .slice oa (List.length (bos (T.s.used.drop 1))) oc, .slice va (List.length (u32s (T.vals.drop 1))) vc] hS rfl rfl (fun b1 w hS => ?_)
  refine WL.r 2 rfl <| WL.nil <| WC.seq <| WC.region <| WL.ldF rfl rfl 0 hS rfl rfl ag_37 <| WL.r 1 rfl <| WL.call rfl rfl (q_entry (T := T) (ra := ra) (ga := ga) (oa := oa) (va := va) (rc := rc) (gc := gc) (oc := oc) (vc := vc) (h := h) (hT := hT) (hh := hh) (hS := (hS.sel 5 [1, 1, 1, 1, 0] rfl))) rfl ?_
  clear hS; rintro _ w ⟨rfl, hS⟩
  replace hS := hS.n5 L (a4 := cel b1 #[.int .i64 T.s.cap, .slice ra (List.length (u32s T.s.rel)) rc, .int .i64 (T.s.fresh + 1), .slice ga (List.length (u32s (T.s.gen.drop 1))) gc, .slice oa (List.length (bos (T.s.used.drop 1))) oc, .slice va (List.length (u32s (T.vals.drop 1))) vc] 37) rfl
  refine WL.r 1 rfl <| WL.nil <| WC.seq <| WC.seq <| WC.region <| WL.r 2 rfl <| WL.nil <| WC.ifT rfl (decide_eq_true ((by rw [hn]; rfl))) ?_
  refine WC.seq <| WC.region <| WL.r 2 rfl <| WL.nil ?_
  as_aux_lemma =>
  refine WC.ret ?_
  refine ⟨[.int .u32 0, .int .i64 5], ⟨rfl, rfl⟩, ?_⟩
  replace hS := (hS.sel 5 [0, 0, 0, 0] rfl)
  exact ⟨rfl, hS⟩
set_option maxRecDepth 8192 in
theorem q_look_ok {g w : World} {L : List HP} (T : TM) (ra ga oa va : Option Addr) (rc gc oc vc : Nat) (h : Int) (hT : TOk T) (hh : 0 ≤ h ∧ h ≤ 18446744073709551615) (hn : T.s.opn h = true) (hS : St g (Sh 64 1 (u32s T.s.rel) ra rc :: Sh 64 1 (u32s (T.s.gen.drop 1)) ga gc :: Sh 4 1 (bos (T.s.used.drop 1)) oa oc :: Sh 64 1 (u32s (T.vals.drop 1)) va vc :: L) w) :
    Sp Tryz.prog 131 [.agg #[.int .i64 T.s.cap, .slice ra (List.length (u32s T.s.rel)) rc, .int .i64 (T.s.fresh + 1), .slice ga (List.length (u32s (T.s.gen.drop 1))) gc, .slice oa (List.length (bos (T.s.used.drop 1))) oc, .slice va (List.length (u32s (T.vals.drop 1))) vc], .int .u64 h] w (fun v w' => v = .tuple #[.int .u32 (T.val h), .int .i64 0] ∧ St g (Sh 64 1 (u32s T.s.rel) ra rc :: Sh 64 1 (u32s (T.s.gen.drop 1)) ga gc :: Sh 4 1 (bos (T.s.used.drop 1)) oa oc :: Sh 64 1 (u32s (T.vals.drop 1)) va vc :: L) w') := by
  refine Sp.enter Tryz.func131 rfl (by kernel_rfl) (by kernel_rfl) ?_
  refine WC.seq <| WC.region <| WL.box rfl rfl #[.int .i64 T.s.cap, .slice ra (List.length (u32s T.s.rel)) rc, .int .i64 (T.s.fresh + 1), .slice ga (List.length (u32s (T.s.gen.drop 1))) gc, .slice oa (List.length (bos (T.s.used.drop 1))) oc, .slice va (List.length (u32s (T.vals.drop 1))) vc] hS rfl rfl (fun b1 w hS => ?_)
  refine WL.r 2 rfl <| WL.nil <| WC.seq <| WC.region ?_
  have hp := opn_pos hT hh.1 hn; have hvl := hT.vl; have hv1 := u32s_len (T.vals.drop 1); have hdv : (T.vals.drop 1).length = T.vals.length - 1 := List.length_drop ..
  refine WL.ldF rfl rfl 0 hS rfl rfl ag_37 <| WL.r 1 rfl <| WL.call rfl rfl (q_entry (T := T) (ra := ra) (ga := ga) (oa := oa) (va := va) (rc := rc) (gc := gc) (oc := oc) (vc := vc) (h := h) (hT := hT) (hh := hh) (hS := (hS.sel 5 [1, 1, 1, 1, 0] rfl))) rfl ?_
  clear hS; rintro _ w ⟨rfl, hS⟩
  replace hS := hS.n5 L (a4 := cel b1 #[.int .i64 T.s.cap, .slice ra (List.length (u32s T.s.rel)) rc, .int .i64 (T.s.fresh + 1), .slice ga (List.length (u32s (T.s.gen.drop 1))) gc, .slice oa (List.length (bos (T.s.used.drop 1))) oc, .slice va (List.length (u32s (T.vals.drop 1))) vc] 37) rfl
  refine WL.r 1 rfl <| WL.nil <| WC.seq <| WC.seq <| WC.region <| WL.reb 6 (.int .u32 (h % 4294967296)) (congrArg (Value.int .u32) (if_pos hn)) <| WL.r 2 rfl <| WL.nil <| WC.ifF rfl (decide_eq_false ((by omega))) ?_
  refine WC.skip <| WC.seq <| WC.region <| WL.run 4 [.slice va (List.length (u32s (T.vals.drop 1))) vc] rfl (by exact hS.ld 4 rfl rfl) ?_
  refine WL.nw 15 rfl (wu32 (by omega)) ?_
  obtain ⟨v, hv⟩ : ∃ v, T.vals[(h % 4294967296).toNat]? = some v := ⟨_, List.getElem?_eq_getElem (by omega)⟩
  refine WL.ix rfl rfl (i := (h % 4294967296) - 1) ((h % 4294967296).toNat - 1) el_32 rfl rfl (by omega) (by omega) (hS.rdS 3 rfl (u32s_at (drop_1 (by omega) hv))).1 ?_
  refine WL.run 3 [.int .u32 v] rfl (by exact (hS.rdS 3 rfl (u32s_at (drop_1 (by omega) hv))).2 0 _ rfl) ?_
  refine WL.nil ?_
  as_aux_lemma =>
  refine WC.ret ?_
  refine ⟨[.int .u32 v, .int .i64 0], ⟨rfl, rfl⟩, ?_⟩
  replace hS := (hS.sel 5 [0, 0, 0, 0] rfl)
  exact ⟨by unfold TM.val; rw [hv]; rfl, hS⟩
set_option maxRecDepth 8192 in
theorem q_open {g w : World} {L : List HP} (T : TM) (ra ga oa va : Option Addr) (rc gc oc vc : Nat) (nv : Int) (hT : TOk T) (hf : 0 < T.s.free) (hv : 0 ≤ nv ∧ nv < 4294967296) (hS : St g (Sh 64 1 (u32s T.s.rel) ra rc :: Sh 64 1 (u32s (T.s.gen.drop 1)) ga gc :: Sh 4 1 (bos (T.s.used.drop 1)) oa oc :: Sh 64 1 (u32s (T.vals.drop 1)) va vc :: L) w) :
    Sp Tryz.prog 134 [.agg #[.int .i64 T.s.cap, .slice ra (List.length (u32s T.s.rel)) rc, .int .i64 (T.s.fresh + 1), .slice ga (List.length (u32s (T.s.gen.drop 1))) gc, .slice oa (List.length (bos (T.s.used.drop 1))) oc, .slice va (List.length (u32s (T.vals.drop 1))) vc], .int .u32 nv] w (fun v w' => ∃ (ra2 ga2 oa2 va2 : Option Addr) (rc2 gc2 oc2 vc2 : Nat), v = .tuple #[.agg #[.int .i64 (T.open nv).s.cap, .slice ra2 (List.length (u32s (T.open nv).s.rel)) rc2, .int .i64 ((T.open nv).s.fresh + 1), .slice ga2 (List.length (u32s ((T.open nv).s.gen.drop 1))) gc2, .slice oa2 (List.length (bos ((T.open nv).s.used.drop 1))) oc2, .slice va2 (List.length (u32s ((T.open nv).vals.drop 1))) vc2], .int .u64 T.newH, .int .i64 0] ∧ St g (Sh 64 1 (u32s (T.open nv).s.rel) ra2 rc2 :: Sh 64 1 (u32s ((T.open nv).s.gen.drop 1)) ga2 gc2 :: Sh 4 1 (bos ((T.open nv).s.used.drop 1)) oa2 oc2 :: Sh 64 1 (u32s ((T.open nv).vals.drop 1)) va2 vc2 :: L) w') := by
  refine Sp.enter Tryz.func134 rfl (by kernel_rfl) (by kernel_rfl) ?_
  have _ := hv
  refine WC.seq <| WC.region <| WL.box rfl rfl #[.int .i64 T.s.cap, .slice ra (List.length (u32s T.s.rel)) rc, .int .i64 (T.s.fresh + 1), .slice ga (List.length (u32s (T.s.gen.drop 1))) gc, .slice oa (List.length (bos (T.s.used.drop 1))) oc, .slice va (List.length (u32s (T.vals.drop 1))) vc] hS rfl rfl (fun b1 w hS => ?_)
  refine WL.new rfl rfl zv_37 hS (fun b2 w hS => ?_)
  refine WL.r 2 rfl <| WL.nil <| WC.seq <| WC.region ?_
  have hvl := hT.vl; have hv1 := u32s_len (T.vals.drop 1); have hdv : (T.vals.drop 1).length = T.vals.length - 1 := List.length_drop ..; have hle := hT.s.cap
  refine WL.r 1 rfl <| WL.ldC rfl rfl [.int .i64 T.s.cap, .slice ra (List.length (u32s T.s.rel)) rc, .int .i64 (T.s.fresh + 1), .slice ga (List.length (u32s (T.s.gen.drop 1))) gc, .slice oa (List.length (bos (T.s.used.drop 1))) oc] ag_35 rfl (hS.part 1 rfl rfl) <| WL.call rfl rfl (q_alloc (S := T.s) (ra := ra) (ga := ga) (oa := oa) (rc := rc) (gc := gc) (oc := oc) (hO := hT.s) (hf := hf) (hS := (hS.sel 5 [2, 2, 2, 0, 0] rfl))) rfl ?_
  clear hS; rintro _ w ⟨ra1, ga1, oa1, rc1, gc1, oc1, rfl, hS, f1⟩
  replace hS := hS.n6 L (a0 := Sh 64 1 (u32s T.s.alloc.rel) ra1 rc1) (a1 := Sh 64 1 (u32s (T.s.alloc.gen.drop 1)) ga1 gc1) (a2 := Sh 4 1 (bos (T.s.alloc.used.drop 1)) oa1 oc1) (a3 := cel b2 #[.int .i64 0, .slice none 0 0, .int .i64 0, .slice none 0 0, .slice none 0 0, .slice none 0 0] 37) (a4 := cel b1 #[.int .i64 T.s.cap, .slice ra (List.length (u32s T.s.rel)) rc, .int .i64 (T.s.fresh + 1), .slice ga (List.length (u32s (T.s.gen.drop 1))) gc, .slice oa (List.length (bos (T.s.used.drop 1))) oc, .slice va (List.length (u32s (T.vals.drop 1))) vc] 37) rfl
  refine WL.r 4 rfl <| WL.new rfl rfl zv_35 hS (fun b3 w hS => ?_)
  refine WL.stF rfl rfl rfl 0 hS rfl rfl rfl rfl rfl ag_35 (fun w hS => ?_)
  replace hS := hS.n7 L (a0 := cel b3 #[.int .i64 T.s.alloc.cap, .slice ra1 (List.length (u32s T.s.alloc.rel)) rc1, .int .i64 (T.s.alloc.fresh + 1), .slice ga1 (List.length (u32s (T.s.alloc.gen.drop 1))) gc1, .slice oa1 (List.length (bos (T.s.alloc.used.drop 1))) oc1] 35) rfl
  refine WL.r 2 rfl <| WL.nil <| WC.seq <| WC.seq <| WC.region <| WL.r 2 rfl <| WL.nil ?_
  as_aux_lemma =>
  refine WC.ifF rfl (decide_eq_false ((by decide))) ?_
  refine WC.skip <| WC.seq <| WC.plan [([0, 1, 2, 4], some (3, [0, 4])), ([], some (5, [])), ([6], some (7, []))] (by kernel_rfl) (by kernel_rfl) ?_
  refine WQ.ldF rfl rfl 0 hS rfl rfl ag_35 <| WQ.run 3 [.slice va (List.length (u32s (T.vals.drop 1))) vc] rfl (by exact hS.ld 5 rfl rfl) ?_
  refine WQ.nil ?_
  intro m1
  replace hS := hS.drewN m1; generalize hwm1 : World.drewN _ _ = w at *; clear hwm1
  replace hS := hS.nil_ 64 1
  refine WL.app rfl rfl 0 (u32s (T.vals.drop 1)) el_32 hS rfl (hS.srcS 7 rfl) (List.nil_append _) (Rm.of (by first | omega | (simp <;> omega)) (by decide)) rfl rfl (fun a1 c1 w hS => ?_)
  replace hS := hS.n8 L (a0 := Own 64 1 (u32s (T.vals.drop 1)) a1 c1) rfl
  refine WL.nil ?_
  refine ⟨by exact ⟨RQ.ldF rfl rfl 1 hS rfl rfl ag_35 rfl rfl, RQ.pure rfl rfl rfl rfl⟩, ?_⟩
  refine WQ.nil ?_
  intro m2
  replace hS := hS.drewN m2; generalize hwm2 : World.drewN _ _ = w at *; clear hwm2
  refine WL.stP (ds := #[.int .i64 T.s.alloc.cap, .slice ra1 (List.length (u32s T.s.alloc.rel)) rc1, .int .i64 (T.s.alloc.fresh + 1), .slice ga1 (List.length (u32s (T.s.alloc.gen.drop 1))) gc1, .slice oa1 (List.length (bos (T.s.alloc.used.drop 1))) oc1, .slice va (List.length (u32s (T.vals.drop 1))) vc]) rfl rfl rfl 6 hS rfl rfl rfl rfl (Nat.le_of_ble_eq_true rfl) rfl ag_35 (fun w hS => ?_)
  replace hS := hS.n8 L (a6 := cel b1 #[.int .i64 T.s.alloc.cap, .slice ra1 (List.length (u32s T.s.alloc.rel)) rc1, .int .i64 (T.s.alloc.fresh + 1), .slice ga1 (List.length (u32s (T.s.alloc.gen.drop 1))) gc1, .slice oa1 (List.length (bos (T.s.alloc.used.drop 1))) oc1, .slice va (List.length (u32s (T.vals.drop 1))) vc] 37) rfl
  refine WL.nil ?_
  refine ⟨by exact trivial, ?_⟩
  refine WQ.r 1 rfl <| WQ.nil ?_
  intro m3
  replace hS := hS.drewN m3; generalize hwm3 : World.drewN _ _ = w at *; clear hwm3
  refine WL.st rfl rfl rfl 6 hS rfl rfl rfl rfl rfl rfl (fun w hS => ?_)
  replace hS := hS.n8 L (a6 := cel b1 #[.int .i64 T.s.alloc.cap, .slice ra1 (List.length (u32s T.s.alloc.rel)) rc1, .int .i64 (T.s.alloc.fresh + 1), .slice ga1 (List.length (u32s (T.s.alloc.gen.drop 1))) gc1, .slice oa1 (List.length (bos (T.s.alloc.used.drop 1))) oc1, .slice a1 (List.length (u32s (T.vals.drop 1))) c1] 37) rfl
  refine WL.nil ?_
  refine ⟨by exact trivial, ?_⟩
  intro m4
  replace hS := hS.drewN m4; generalize hwm4 : World.drewN _ _ = w at *; clear hwm4
  as_aux_lemma =>
  refine WC.seq <| WC.region ?_
  have hso := SM.alloc_sok hT.s hf; have hnx := T.s.next_rng hT.s hf
  refine WL.run 4 [.slice a1 (List.length (u32s (T.vals.drop 1))) c1] rfl (by exact hS.ld 6 rfl rfl) ?_
  refine WL.nw 30 rfl (wu32 (by omega)) ?_
  refine WL.r 1 rfl ?_
  obtain ⟨y, hw⟩ : ∃ y, T.vals[T.s.next.toNat]? = some y := ⟨_, List.getElem?_eq_getElem (by omega)⟩
  refine WL.ix rfl rfl (i := T.s.next - 1) (T.s.next.toNat - 1) el_32 rfl rfl (by omega) (by omega) (hS.rdO 0 rfl (u32s_at (drop_1 (by omega) hw))).1 ?_
  refine WL.stE rfl rfl rfl 0 (T.s.next.toNat - 1) 0 [.int .u32 y] (u32s ((T.vals.drop 1).set (T.s.next.toNat - 1) nv)) hS rfl (u32s_at (drop_1 (by omega) hw)) rfl rfl rfl rfl rfl (u32s_set _ _ _) (fun w hS => ?_)
  replace hS := hS.n8 L (a0 := Own 64 1 (u32s ((T.vals.drop 1).set (T.s.next.toNat - 1) nv)) a1 c1) rfl
  refine WL.nil <| WC.seq <| WC.plan [([0, 1, 2, 3], some (4, [0, 1])), ([], some (5, [0])), ([], some (6, [])), ([7, 8], none)] (by kernel_rfl) (by kernel_rfl) ?_
  refine WQ.ldF rfl rfl 6 hS rfl rfl ag_37 <| WQ.r 1 rfl <| WQ.ldF rfl rfl 1 hS rfl rfl ag_35 <| WQ.r 1 rfl <| WQ.nil ?_
  intro m5
  replace hS := hS.drewN m5; generalize hwm5 : World.drewN _ _ = w at *; clear hwm5
  refine WL.call rfl rfl (q_gen (S := T.s.alloc) (ra := ra1) (ga := ga1) (oa := oa1) (rc := rc1) (gc := gc1) (oc := oc1) (i := T.s.next) (hO := hso) (hi := (by omega)) (hi0 := (by omega)) (hS := (hS.sel 4 [3, 0, 0, 0] rfl))) rfl ?_
  clear hS; rintro _ w ⟨rfl, hS⟩
  replace hS := hS.n8 L rfl
  refine WL.nil ?_
  refine ⟨by exact ⟨RQ.ldF rfl rfl 6 hS rfl rfl ag_37 rfl rfl, RQ.pure rfl rfl rfl rfl⟩, ?_⟩
  refine WQ.nil ?_
  intro m6
  replace hS := hS.drewN m6; generalize hwm6 : World.drewN _ _ = w at *; clear hwm6
  refine WL.call rfl rfl (q_pack (i := T.s.next) (n := T.s.alloc.genOf T.s.next) (hi := (by omega)) (hn := hso.gen_rng _) (hS := hS)) rfl ?_
  clear hS; rintro _ w ⟨rfl, hS⟩
  replace hS := hS.n8 L rfl
  refine WL.nil ?_
  refine ⟨by exact RQ.ldF rfl rfl 6 hS rfl rfl ag_37 rfl rfl, ?_⟩
  refine WQ.nil ?_
  intro m7
  replace hS := hS.drewN m7; generalize hwm7 : World.drewN _ _ = w at *; clear hwm7
  refine WL.stF rfl rfl rfl 5 hS rfl rfl rfl rfl rfl ag_37 (fun w hS => ?_)
  replace hS := hS.n8 L (a5 := cel b2 #[.int .i64 T.s.alloc.cap, .slice ra1 (List.length (u32s T.s.alloc.rel)) rc1, .int .i64 (T.s.alloc.fresh + 1), .slice ga1 (List.length (u32s (T.s.alloc.gen.drop 1))) gc1, .slice oa1 (List.length (bos (T.s.alloc.used.drop 1))) oc1, .slice a1 (List.length (u32s (T.vals.drop 1))) c1] 37) rfl
  refine WL.nil ?_
  refine ⟨by exact trivial, ?_⟩
  refine WQ.r 2 rfl <| WQ.nil ?_
  intro m8
  replace hS := hS.drewN m8; generalize hwm8 : World.drewN _ _ = w at *; clear hwm8
  as_aux_lemma =>
  refine WC.ret ?_
  have e5 : (T.open nv).vals.drop 1 = (T.vals.drop 1).set (T.s.next.toNat - 1) nv := set_drop1 _ (by omega) _; have l5 : (u32s (T.vals.drop 1)).length = (u32s ((T.open nv).vals.drop 1)).length := (by rw [e5]; simp); rw [l5, ← e5] at hS; replace hS := (hS.at_ 1 rfl).share.sel 8 [3, 1, 2, 0, 1] rfl
  replace hS : St g (Sh 64 1 (u32s (T.open nv).s.rel) ra1 rc1 :: Sh 64 1 (u32s ((T.open nv).s.gen.drop 1)) ga1 gc1 :: Sh 4 1 (bos ((T.open nv).s.used.drop 1)) oa1 oc1 :: Sh 64 1 (u32s ((T.open nv).vals.drop 1)) a1 c1 :: cel b2 #[.int .i64 (T.open nv).s.cap, .slice ra1 (List.length (u32s (T.open nv).s.rel)) rc1, .int .i64 ((T.open nv).s.fresh + 1), .slice ga1 (List.length (u32s ((T.open nv).s.gen.drop 1))) gc1, .slice oa1 (List.length (bos ((T.open nv).s.used.drop 1))) oc1, .slice a1 (List.length (u32s ((T.open nv).vals.drop 1))) c1] 37 :: L) w := hS
  refine ⟨[.agg #[.int .i64 (T.open nv).s.cap, .slice ra1 (List.length (u32s (T.open nv).s.rel)) rc1, .int .i64 ((T.open nv).s.fresh + 1), .slice ga1 (List.length (u32s ((T.open nv).s.gen.drop 1))) gc1, .slice oa1 (List.length (bos ((T.open nv).s.used.drop 1))) oc1, .slice a1 (List.length (u32s ((T.open nv).vals.drop 1))) c1], .int .u64 ((T.s.alloc.genOf T.s.next) * 4294967296 + T.s.next), .int .i64 0], ⟨⟨_, rfl, hS.lvF 4 rfl ag_37⟩, rfl, rfl⟩, ?_⟩
  replace hS := (hS.sel 5 [0, 0, 0, 0] rfl)
  exact ⟨_, _, _, _, _, _, _, _, rfl, hS⟩
set_option maxRecDepth 8192 in
theorem q_close_bad {g w : World} {L : List HP} (T : TM) (ra ga oa va : Option Addr) (rc gc oc vc : Nat) (h : Int) (hT : TOk T) (hh : 0 ≤ h ∧ h ≤ 18446744073709551615) (hn : T.s.opn h = false) (hS : St g (Sh 64 1 (u32s T.s.rel) ra rc :: Sh 64 1 (u32s (T.s.gen.drop 1)) ga gc :: Sh 4 1 (bos (T.s.used.drop 1)) oa oc :: Sh 64 1 (u32s (T.vals.drop 1)) va vc :: L) w) :
    Sp Tryz.prog 135 [.agg #[.int .i64 T.s.cap, .slice ra (List.length (u32s T.s.rel)) rc, .int .i64 (T.s.fresh + 1), .slice ga (List.length (u32s (T.s.gen.drop 1))) gc, .slice oa (List.length (bos (T.s.used.drop 1))) oc, .slice va (List.length (u32s (T.vals.drop 1))) vc], .int .u64 h] w (fun v w' => v = .tuple #[.agg #[.int .i64 T.s.cap, .slice ra (List.length (u32s T.s.rel)) rc, .int .i64 (T.s.fresh + 1), .slice ga (List.length (u32s (T.s.gen.drop 1))) gc, .slice oa (List.length (bos (T.s.used.drop 1))) oc, .slice va (List.length (u32s (T.vals.drop 1))) vc], .int .u32 0, .int .i64 5] ∧ St g (Sh 64 1 (u32s T.s.rel) ra rc :: Sh 64 1 (u32s (T.s.gen.drop 1)) ga gc :: Sh 4 1 (bos (T.s.used.drop 1)) oa oc :: Sh 64 1 (u32s (T.vals.drop 1)) va vc :: L) w') := by
  refine Sp.enter Tryz.func135 rfl (by kernel_rfl) (by kernel_rfl) ?_
  refine WC.seq <| WC.region <| WL.box rfl rfl #[.int .i64 T.s.cap, .slice ra (List.length (u32s T.s.rel)) rc, .int .i64 (T.s.fresh + 1), .slice ga (List.length (u32s (T.s.gen.drop 1))) gc, .slice oa (List.length (bos (T.s.used.drop 1))) oc, .slice va (List.length (u32s (T.vals.drop 1))) vc] hS rfl rfl (fun b1 w hS => ?_)
  refine WL.new rfl rfl zv_37 hS (fun b2 w hS => ?_)
  refine WL.r 2 rfl <| WL.nil <| WC.seq <| WC.region <| WL.ldF rfl rfl 1 hS rfl rfl ag_37 <| WL.r 1 rfl <| WL.call rfl rfl (q_entry (T := T) (ra := ra) (ga := ga) (oa := oa) (va := va) (rc := rc) (gc := gc) (oc := oc) (vc := vc) (h := h) (hT := hT) (hh := hh) (hS := (hS.sel 6 [2, 2, 2, 2, 0, 0] rfl))) rfl ?_
  clear hS; rintro _ w ⟨rfl, hS⟩
  replace hS := hS.n6 L (a4 := cel b2 #[.int .i64 0, .slice none 0 0, .int .i64 0, .slice none 0 0, .slice none 0 0, .slice none 0 0] 37) (a5 := cel b1 #[.int .i64 T.s.cap, .slice ra (List.length (u32s T.s.rel)) rc, .int .i64 (T.s.fresh + 1), .slice ga (List.length (u32s (T.s.gen.drop 1))) gc, .slice oa (List.length (bos (T.s.used.drop 1))) oc, .slice va (List.length (u32s (T.vals.drop 1))) vc] 37) rfl
  refine WL.r 1 rfl <| WL.nil <| WC.seq <| WC.seq <| WC.region <| WL.r 2 rfl <| WL.nil <| WC.ifT rfl (decide_eq_true ((by rw [hn]; rfl))) ?_
  refine WC.seq <| WC.region <| WL.ldF rfl rfl 5 hS rfl rfl ag_37 <| WL.stF rfl rfl rfl 4 hS rfl rfl rfl rfl rfl ag_37 (fun w hS => ?_)
  replace hS := hS.n6 L (a4 := cel b2 #[.int .i64 T.s.cap, .slice ra (List.length (u32s T.s.rel)) rc, .int .i64 (T.s.fresh + 1), .slice ga (List.length (u32s (T.s.gen.drop 1))) gc, .slice oa (List.length (bos (T.s.used.drop 1))) oc, .slice va (List.length (u32s (T.vals.drop 1))) vc] 37) rfl
  refine WL.r 2 rfl <| WL.nil ?_
  as_aux_lemma =>
  refine WC.ret ?_
  refine ⟨[.agg #[.int .i64 T.s.cap, .slice ra (List.length (u32s T.s.rel)) rc, .int .i64 (T.s.fresh + 1), .slice ga (List.length (u32s (T.s.gen.drop 1))) gc, .slice oa (List.length (bos (T.s.used.drop 1))) oc, .slice va (List.length (u32s (T.vals.drop 1))) vc], .int .u32 0, .int .i64 5], ⟨⟨_, rfl, hS.lvF 4 rfl ag_37⟩, rfl, rfl⟩, ?_⟩
  replace hS := (hS.sel 6 [0, 0, 0, 0] rfl)
  exact ⟨rfl, hS⟩
set_option maxRecDepth 8192 in
theorem q_close {g w : World} {L : List HP} (T : TM) (ra ga oa va : Option Addr) (rc gc oc vc : Nat) (h : Int) (hT : TOk T) (hh : 0 ≤ h ∧ h ≤ 18446744073709551615) (hn : T.s.opn h = true) (hS : St g (Sh 64 1 (u32s T.s.rel) ra rc :: Sh 64 1 (u32s (T.s.gen.drop 1)) ga gc :: Sh 4 1 (bos (T.s.used.drop 1)) oa oc :: Sh 64 1 (u32s (T.vals.drop 1)) va vc :: L) w) :
    Sp Tryz.prog 135 [.agg #[.int .i64 T.s.cap, .slice ra (List.length (u32s T.s.rel)) rc, .int .i64 (T.s.fresh + 1), .slice ga (List.length (u32s (T.s.gen.drop 1))) gc, .slice oa (List.length (bos (T.s.used.drop 1))) oc, .slice va (List.length (u32s (T.vals.drop 1))) vc], .int .u64 h] w (fun v w' => ∃ (ra2 oa2 : Option Addr) (rc2 oc2 : Nat), v = .tuple #[.agg #[.int .i64 (T.close h).s.cap, .slice ra2 (List.length (u32s (T.close h).s.rel)) rc2, .int .i64 ((T.close h).s.fresh + 1), .slice ga (List.length (u32s ((T.close h).s.gen.drop 1))) gc, .slice oa2 (List.length (bos ((T.close h).s.used.drop 1))) oc2, .slice va (List.length (u32s ((T.close h).vals.drop 1))) vc], .int .u32 (T.val h), .int .i64 0] ∧ St g (Sh 64 1 (u32s (T.close h).s.rel) ra2 rc2 :: Sh 64 1 (u32s ((T.close h).s.gen.drop 1)) ga gc :: Sh 4 1 (bos ((T.close h).s.used.drop 1)) oa2 oc2 :: Sh 64 1 (u32s ((T.close h).vals.drop 1)) va vc :: L) w') := by
  refine Sp.enter Tryz.func135 rfl (by kernel_rfl) (by kernel_rfl) ?_
  refine WC.seq <| WC.region <| WL.box rfl rfl #[.int .i64 T.s.cap, .slice ra (List.length (u32s T.s.rel)) rc, .int .i64 (T.s.fresh + 1), .slice ga (List.length (u32s (T.s.gen.drop 1))) gc, .slice oa (List.length (bos (T.s.used.drop 1))) oc, .slice va (List.length (u32s (T.vals.drop 1))) vc] hS rfl rfl (fun b1 w hS => ?_)
  refine WL.new rfl rfl zv_37 hS (fun b2 w hS => ?_)
  refine WL.r 2 rfl <| WL.nil <| WC.seq <| WC.region ?_
  have hp := opn_pos hT hh.1 hn; have hvl := hT.vl; have hv1 := u32s_len (T.vals.drop 1); have hdv : (T.vals.drop 1).length = T.vals.length - 1 := List.length_drop ..
  refine WL.ldF rfl rfl 1 hS rfl rfl ag_37 <| WL.r 1 rfl <| WL.call rfl rfl (q_entry (T := T) (ra := ra) (ga := ga) (oa := oa) (va := va) (rc := rc) (gc := gc) (oc := oc) (vc := vc) (h := h) (hT := hT) (hh := hh) (hS := (hS.sel 6 [2, 2, 2, 2, 0, 0] rfl))) rfl ?_
  clear hS; rintro _ w ⟨rfl, hS⟩
  replace hS := hS.n6 L (a4 := cel b2 #[.int .i64 0, .slice none 0 0, .int .i64 0, .slice none 0 0, .slice none 0 0, .slice none 0 0] 37) (a5 := cel b1 #[.int .i64 T.s.cap, .slice ra (List.length (u32s T.s.rel)) rc, .int .i64 (T.s.fresh + 1), .slice ga (List.length (u32s (T.s.gen.drop 1))) gc, .slice oa (List.length (bos (T.s.used.drop 1))) oc, .slice va (List.length (u32s (T.vals.drop 1))) vc] 37) rfl
  refine WL.r 1 rfl <| WL.nil <| WC.seq <| WC.seq <| WC.region <| WL.reb 7 (.int .u32 (h % 4294967296)) (congrArg (Value.int .u32) (if_pos hn)) <| WL.r 2 rfl <| WL.nil <| WC.ifF rfl (decide_eq_false ((by omega))) ?_
  refine WC.skip ?_
  as_aux_lemma =>
  refine WC.seq <| WC.region <| WL.r 1 rfl <| WL.ldC rfl rfl [.int .i64 T.s.cap, .slice ra (List.length (u32s T.s.rel)) rc, .int .i64 (T.s.fresh + 1), .slice ga (List.length (u32s (T.s.gen.drop 1))) gc, .slice oa (List.length (bos (T.s.used.drop 1))) oc] ag_35 rfl (hS.part 5 rfl rfl) <| WL.r 1 rfl <| WL.call rfl rfl (q_rel (S := T.s) (ra := ra) (ga := ga) (oa := oa) (rc := rc) (gc := gc) (oc := oc) (i := h % 4294967296) (hO := hT.s) (hi := (by omega)) (hk := (SM.opn_ok hn).1) (hS := hS)) rfl ?_
  clear hS; rintro _ w ⟨ra1, oa1, rc1, oc1, rfl, hS⟩
  replace hS := hS.n6 L (a0 := Sh 64 1 (u32s (T.s.release (h % 4294967296)).rel) ra1 rc1) (a1 := Sh 64 1 (u32s ((T.s.release (h % 4294967296)).gen.drop 1)) ga gc) (a2 := Sh 4 1 (bos ((T.s.release (h % 4294967296)).used.drop 1)) oa1 oc1) rfl
  refine WL.r 3 rfl <| WL.new rfl rfl zv_35 hS (fun b3 w hS => ?_)
  refine WL.stF rfl rfl rfl 0 hS rfl rfl rfl rfl rfl ag_35 (fun w hS => ?_)
  replace hS := hS.n7 L (a0 := cel b3 #[.int .i64 (T.s.release (h % 4294967296)).cap, .slice ra1 (List.length (u32s (T.s.release (h % 4294967296)).rel)) rc1, .int .i64 ((T.s.release (h % 4294967296)).fresh + 1), .slice ga (List.length (u32s ((T.s.release (h % 4294967296)).gen.drop 1))) gc, .slice oa1 (List.length (bos ((T.s.release (h % 4294967296)).used.drop 1))) oc1] 35) rfl
  refine WL.r 1 rfl <| WL.nil <| WC.seq <| WC.region <| WL.ldF rfl rfl 0 hS rfl rfl ag_35 <| WL.r 1 rfl <| WL.stP (ds := #[.int .i64 (T.s.release (h % 4294967296)).cap, .slice ra1 (List.length (u32s (T.s.release (h % 4294967296)).rel)) rc1, .int .i64 ((T.s.release (h % 4294967296)).fresh + 1), .slice ga (List.length (u32s ((T.s.release (h % 4294967296)).gen.drop 1))) gc, .slice oa1 (List.length (bos ((T.s.release (h % 4294967296)).used.drop 1))) oc1, .slice va (List.length (u32s (T.vals.drop 1))) vc]) rfl rfl rfl 6 hS rfl rfl rfl rfl (Nat.le_of_ble_eq_true rfl) rfl ag_35 (fun w hS => ?_)
  replace hS := hS.n7 L (a6 := cel b1 #[.int .i64 (T.s.release (h % 4294967296)).cap, .slice ra1 (List.length (u32s (T.s.release (h % 4294967296)).rel)) rc1, .int .i64 ((T.s.release (h % 4294967296)).fresh + 1), .slice ga (List.length (u32s ((T.s.release (h % 4294967296)).gen.drop 1))) gc, .slice oa1 (List.length (bos ((T.s.release (h % 4294967296)).used.drop 1))) oc1, .slice va (List.length (u32s (T.vals.drop 1))) vc] 37) rfl
  refine WL.nil <| WC.seq <| WC.plan [([0, 1, 3, 2, 4, 5, 6], some (7, [1, 2, 3, 4, 5, 6])), ([8, 9], none)] (by kernel_rfl) (by kernel_rfl) ?_
  refine WQ.ldF rfl rfl 6 hS rfl rfl ag_37 <| WQ.run 4 [.slice va (List.length (u32s (T.vals.drop 1))) vc] rfl (by exact hS.ld 6 rfl rfl) ?_
  refine WQ.nw 29 rfl (wu32 (by omega)) ?_
  obtain ⟨v, hv⟩ : ∃ v, T.vals[(h % 4294967296).toNat]? = some v := ⟨_, List.getElem?_eq_getElem (by omega)⟩; have hve : T.val h = v := (by unfold TM.val; rw [hv]; rfl)
  refine WQ.ix rfl rfl (i := (h % 4294967296) - 1) ((h % 4294967296).toNat - 1) el_32 rfl rfl (by omega) (by omega) (hS.rdS 4 rfl (u32s_at (drop_1 (by omega) hv))).1 ?_
  refine WQ.run 1 [.int .u32 v] rfl (by exact (hS.rdS 4 rfl (u32s_at (drop_1 (by omega) hv))).2 0 _ rfl) ?_
  refine WQ.nil ?_
  intro m1
  replace hS := hS.drewN m1; generalize hwm1 : World.drewN _ _ = w at *; clear hwm1
  refine WL.stF rfl rfl rfl 5 hS rfl rfl rfl rfl rfl ag_37 (fun w hS => ?_)
  replace hS := hS.n7 L (a5 := cel b2 #[.int .i64 (T.s.release (h % 4294967296)).cap, .slice ra1 (List.length (u32s (T.s.release (h % 4294967296)).rel)) rc1, .int .i64 ((T.s.release (h % 4294967296)).fresh + 1), .slice ga (List.length (u32s ((T.s.release (h % 4294967296)).gen.drop 1))) gc, .slice oa1 (List.length (bos ((T.s.release (h % 4294967296)).used.drop 1))) oc1, .slice va (List.length (u32s (T.vals.drop 1))) vc] 37) rfl
  refine WL.nil ?_
  refine ⟨by exact ⟨RQ.pure rfl rfl rfl rfl, RQ.load rfl rfl rfl rfl (hS.ld 6 rfl rfl), RQ.pure rfl rfl rfl rfl, RQ.pure rfl rfl rfl (congrArg (Value.int .u32) (Eq.symm (wu32 (by omega)))), RQ.ix rfl rfl (i := (h % 4294967296) - 1) ((h % 4294967296).toNat - 1) el_32 rfl rfl (by omega) (by omega) (hS.rdS 4 rfl (u32s_at (drop_1 (by omega) hv))).1 rfl rfl, RQ.load rfl rfl rfl rfl ((hS.rdS 4 rfl (u32s_at (drop_1 (by omega) hv))).2 0 _ rfl)⟩, ?_⟩
  refine WQ.r 2 rfl <| WQ.nil ?_
  intro m2
  replace hS := hS.drewN m2; generalize hwm2 : World.drewN _ _ = w at *; clear hwm2
  as_aux_lemma =>
  refine WC.ret ?_
  refine ⟨[.agg #[.int .i64 (T.s.release (h % 4294967296)).cap, .slice ra1 (List.length (u32s (T.s.release (h % 4294967296)).rel)) rc1, .int .i64 ((T.s.release (h % 4294967296)).fresh + 1), .slice ga (List.length (u32s ((T.s.release (h % 4294967296)).gen.drop 1))) gc, .slice oa1 (List.length (bos ((T.s.release (h % 4294967296)).used.drop 1))) oc1, .slice va (List.length (u32s (T.vals.drop 1))) vc], .int .u32 v, .int .i64 0], ⟨⟨_, rfl, hS.lvF 5 rfl ag_37⟩, rfl, rfl⟩, ?_⟩
  replace hS := (hS.sel 7 [1, 1, 1, 1] rfl)
  exact ⟨_, _, _, _, by rw [hve]; rfl, hS⟩
end Go.Proofs.YtbeacjcmdijdmaaGreat
/-! ## D1 -/
namespace Go.Proofs.YtbeacjcmdijdmaaGreat
open Go Go.V
def ordU (S : SM) (k : Nat) : List Int := (List.range k).map fun i : Nat => S.fresh + 1 + (i : Int)
def SM.order (S : SM) : List Int := S.rel.reverse ++ ordU S (S.cap - S.fresh).toNat
theorem rev_next {l : List Int} {k : Nat} {x : Int} (h : l[k]? = some x) : (l.drop k).reverse = (l.drop (k + 1)).reverse ++ [x] := by
  obtain ⟨hl, rfl⟩ := List.getElem?_eq_some_iff.1 h
  rw [List.drop_eq_getElem_cons hl, List.reverse_cons]
theorem ordU_next (S : SM) (k : Nat) : ordU S (k + 1) = ordU S k ++ [S.fresh + 1 + (k : Int)] := by
  unfold ordU; rw [List.range_succ, List.map_append]; rfl
set_option maxRecDepth 8192 in
theorem sl_order {g w : World} {L : List HP} (s : Nat) (S : SM) (hO : SOk S) (hS : St g (Slt s S :: L) w) :
    Sp Tryz.prog 79 [.pointer (some ⟨s, 0, none⟩)] w (fun v w' => ∃ (a2 : Option Addr) (c2 : Nat), v = .slice a2 (List.length (u32s (SM.order S))) c2 ∧ St g (Own 64 1 (u32s (SM.order S)) a2 c2 :: Slt s S :: L) w') := by
  refine Sp.enter Tryz.func79 rfl (by kernel_rfl) (by kernel_rfl) ?_
  refine WC.seq <| WC.region ?_
  obtain ⟨⟨ua, uc, ga, gc, ra, rc⟩, hS⟩ := St.exOpen (f := sltF s S) hS
  replace hS : St g (cel s #[.slice ua (List.length (bos S.used)) uc, .slice ga (List.length (u32s S.gen)) gc, .slice ra (List.length (u32s S.rel)) rc, .int .u32 S.fresh] 243 :: Own 4 1 (bos S.used) ua uc :: Own 64 1 (u32s S.gen) ga gc :: Own 64 1 (u32s S.rel) ra rc :: L) w := hS
  have hfr := hO.fr; have hcp : S.cap = (S.used.length : Int) - 1 := rfl; have hle := hO.le; have hrl := hO.rle; have hfd : S.free = (S.rel.length : Int) + S.cap - S.fresh := rfl; have hru := u32s_len S.rel; have hbu := bos_len S.used
  refine WL.r 1 rfl <| WL.nil <| WC.seq <| WC.region <| WL.r 1 rfl <| WL.call rfl rfl (sl_free0 (s := s) (ua := ua) (ga := ga) (ra := ra) (n := List.length (bos S.used)) (ng := List.length (u32s S.gen)) (nr := List.length (u32s S.rel)) (uc := uc) (gc := gc) (rc := rc) (fr := S.fresh) (hn := (by omega)) (hS := hS)) rfl ?_
  clear hS; rintro _ w ⟨rfl, hS⟩
  replace hS := hS.n4 L rfl
  refine WL.make rfl rfl (v := 0) (v' := (List.length (u32s S.rel)) + ((List.length (bos S.used)) - 1) - S.fresh) (0) (S.free.toNat) el_32 hS rfl (by omega) rfl (by omega) (by omega) (Rm.of (by omega) (by decide)) (fun b1 w hS => ?_)
  replace hS := hS.n5 L (a0 := Own 64 1 [] (some ⟨b1, 0, none⟩) S.free.toNat) rfl
  refine WL.r 1 rfl <| WL.nil <| WC.seq <| WC.seq <| WC.region <| WL.run 6 [.slice ra (List.length (u32s S.rel)) rc] rfl (by exact hS.ld 1 rfl rfl) ?_
  refine WL.nw 14 rfl (w64 (by omega)) ?_
  refine WL.r 1 rfl <| WL.nil ?_
  as_aux_lemma =>
  refine WC.block <| WC.loop [0, 2, 3, 4] (fun kM vs w => ∃ (j : Int) (out : List Int) (ub : Option Addr) (ud : Nat), vs = [.pointer (some ⟨s, 0, none⟩), .slice none 0 0, .slice ub (List.length (u32s out)) ud, .int .i64 j] ∧ St g (Own 64 1 (u32s out) ub ud :: cel s #[.slice ua (List.length (bos S.used)) uc, .slice ga (List.length (u32s S.gen)) gc, .slice ra (List.length (u32s S.rel)) rc, .int .u32 S.fresh] 243 :: Own 4 1 (bos S.used) ua uc :: Own 64 1 (u32s S.gen) ga gc :: Own 64 1 (u32s S.rel) ra rc :: L) w ∧ (-1 ≤ j ∧ j < S.rel.length) ∧ (out = (S.rel.drop (j + 1).toNat).reverse) ∧ ((j + 1).toNat) = kM) ((((List.length (u32s S.rel) : Int) - 1) + 1).toNat) ⟨((u32s S.rel).length : Int) - 1, [], (some ⟨b1, 0, none⟩), S.free.toNat, rfl, hS, (by omega), (by rw [List.drop_eq_nil_of_le (by omega)]; rfl), rfl⟩ ?_
  clear hS; rintro _ _ w j ⟨j, out, ub, ud, rfl, hS, hj, ho, rfl⟩
  refine WC.seq <| WC.seq <| WC.region <| WL.r 2 rfl <| WL.nil <| WC.ifP rfl (fun cd1 => ?_) (fun cd1 => ?_)
  · refine WC.skip <| WC.seq <| WC.block <| WC.region <| WL.run 6 [.slice ra (List.length (u32s S.rel)) rc] rfl (by exact hS.ld 1 rfl rfl) ?_
    obtain ⟨x, hx⟩ : ∃ x, S.rel[j.toNat]? = some x := ⟨_, List.getElem?_eq_getElem (by omega)⟩; have hol : out.length ≤ S.rel.length := (by rw [ho, List.length_reverse, List.length_drop]; omega); have hoe := u32s_len out
    refine WL.ix rfl rfl (i := j) (j.toNat) el_32 rfl rfl (by omega) (by omega) (hS.rdO 4 rfl (u32s_at hx)).1 ?_
    refine WL.run 1 [.int .u32 x] rfl (by exact (hS.rdO 4 rfl (u32s_at hx)).2 0 _ rfl) ?_
    refine WL.lit rfl rfl (u32s [x]) el_32 hS (by exact ⟨rfl, rfl⟩) (u32s_ok _) rfl (Nat.le_of_ble_eq_true rfl) (fun b2 w hS => ?_)
    refine WL.app rfl rfl 1 (u32s (out ++ [x])) el_32 hS rfl (hS.srcO 0 rfl) (u32s_app _ _).symm (Rm.of (by first | omega | (simp <;> omega)) (by decide)) rfl rfl (fun a1 c1 w hS => ?_)
    replace hS := hS.n6 L (a0 := Own 64 1 (u32s [x]) (some ⟨b2, 0, none⟩) (List.length (u32s [x]))) (a1 := Own 64 1 (u32s (out ++ [x])) a1 c1) rfl
    refine WL.r 1 rfl <| WL.nil <| WC.region <| WL.r 2 rfl <| WL.nw 18 rfl (w64 (by omega)) ?_
    refine WL.r 1 rfl <| WL.nil ?_
    exact ⟨_, by omega, j - 1, out ++ [x], a1, c1, rfl, (hS.sel 1 [] rfl), (by omega), (by rw [ho, show (j + 1).toNat = j.toNat + 1 by omega, show (j - 1 + 1).toNat = j.toNat by omega]; exact (rev_next hx).symm), rfl⟩
  · refine WC.exit <| WC.seq <| WC.seq <| WC.region ?_
    have hor : out = S.rel.reverse := (by rw [ho, show (j + 1).toNat = 0 by omega]; rfl)
    refine WL.run 5 [.int .u32 S.fresh] rfl (by exact hS.ld 1 rfl rfl) ?_
    refine WL.nw 33 rfl (w64 (by omega)) ?_
    refine WL.r 1 rfl <| WL.nw 34 rfl (w64 (by omega)) ?_
    refine WL.r 1 rfl <| WL.nil <| WC.block <| WC.loop [0, 2, 3, 5] (fun kM vs w => ∃ (k : Nat) (j2 : Int) (acc : List Int) (uf : Option Addr) (ud2 : Nat), vs = [.pointer (some ⟨s, 0, none⟩), .slice none 0 0, .slice uf (List.length (u32s acc)) ud2, .int .i64 j2] ∧ St g (Own 64 1 (u32s acc) uf ud2 :: cel s #[.slice ua (List.length (bos S.used)) uc, .slice ga (List.length (u32s S.gen)) gc, .slice ra (List.length (u32s S.rel)) rc, .int .u32 S.fresh] 243 :: Own 4 1 (bos S.used) ua uc :: Own 64 1 (u32s S.gen) ga gc :: Own 64 1 (u32s S.rel) ra rc :: L) w ∧ ((k : Int) ≤ S.cap - S.fresh) ∧ (j2 = S.fresh + 1 + (k : Int)) ∧ (acc = S.rel.reverse ++ ordU S k) ∧ ((S.cap - S.fresh).toNat - k) = kM) ((S.cap - S.fresh).toNat - 0) ⟨0, S.fresh + 1, out, ub, ud, rfl, hS, (by omega), (by omega), (by rw [hor]; simp [ordU]), rfl⟩ ?_
    clear hS; rintro _ _ w j ⟨k, j2, acc, uf, ud2, rfl, hS, hk, hj2, ha, rfl⟩
    refine WC.seq <| WC.seq <| WC.region <| WL.r 2 rfl <| WL.call rfl rfl (sl_cap0 (s := s) (ua := ua) (ga := ga) (ra := ra) (n := List.length (bos S.used)) (ng := List.length (u32s S.gen)) (nr := List.length (u32s S.rel)) (uc := uc) (gc := gc) (rc := rc) (fr := S.fresh) (hn := (by omega)) (hS := (hS.sel 2 [1, 0] rfl))) rfl ?_
    clear hS; rintro _ w ⟨rfl, hS⟩
    replace hS := hS.n5 L rfl
    refine WL.r 1 rfl <| WL.nil ?_
    as_aux_lemma =>
    refine WC.ifP rfl (fun cd2 => ?_) (fun cd2 => ?_)
    · refine WC.skip <| WC.seq <| WC.block <| WC.region ?_
      have hal : acc.length ≤ 140000 := (by rw [ha, List.length_append, List.length_reverse]; unfold ordU; simp; omega); have hac := u32s_len acc
      refine WL.r 3 rfl <| WL.nw 43 rfl (wu32 (by omega)) ?_
      refine WL.lit rfl rfl (u32s [j2]) el_32 hS (by exact ⟨rfl, rfl⟩) (u32s_ok _) rfl (Nat.le_of_ble_eq_true rfl) (fun b2 w hS => ?_)
      refine WL.app rfl rfl 2 (u32s (acc ++ [j2])) el_32 hS rfl (hS.srcO 0 rfl) (u32s_app _ _).symm (Rm.of (by first | omega | (simp <;> omega)) (by decide)) rfl rfl (fun a1 c1 w hS => ?_)
      replace hS := hS.n6 L (a0 := Own 64 1 (u32s [j2]) (some ⟨b2, 0, none⟩) (List.length (u32s [j2]))) (a2 := Own 64 1 (u32s (acc ++ [j2])) a1 c1) rfl
      refine WL.r 1 rfl <| WL.nil <| WC.region <| WL.r 2 rfl <| WL.nw 40 rfl (w64 (by omega)) ?_
      refine WL.r 1 rfl <| WL.nil ?_
      exact ⟨_, by omega, k + 1, j2 + 1, acc ++ [j2], a1, c1, rfl, (hS.sel 3 [2, 1] rfl), (by omega), (by omega), (by rw [hj2, ha, ordU_next, List.append_assoc]), rfl⟩
    · refine WC.exit <| WC.seq <| WC.region <| WL.r 2 rfl <| WL.nil <| WC.ret ?_
      replace hS := St.exClose (f := sltF s S) (L := Own 64 1 (u32s acc) uf ud2 :: L) ⟨ua, uc, ga, gc, ra, rc⟩ ((hS.sel 5 [0, 1, 1, 1, 0] rfl))
      replace hS := hS.n2 L (a0 := Slt s S) rfl
      refine ⟨[.slice uf (List.length (u32s acc)) ud2], rfl, ?_⟩
      replace hS := (hS.sel 2 [1, 0] rfl)
      have hke : k = (S.cap - S.fresh).toNat := (by omega); subst hke; rw [show acc = SM.order S from ha] at hS ⊢; exact ⟨_, _, rfl, hS⟩
theorem order_n {S : SM} (hO : SOk S) : ((SM.order S).length : Int) = S.free := by
  have hfr := hO.fr
  unfold SM.order ordU SM.free
  simp only [List.length_append, List.length_reverse, List.length_map, List.length_range]; omega
theorem newl_1 {n : Nat} : (SM.new n).cap = (n : Int) := by
  show ((List.replicate (n + 1) false).length : Int) - 1 = n
  rw [List.length_replicate]; omega
theorem newl_2 {n : Nat} : (u32s ((SM.new n).gen.drop 1)).length = n := by
  rw [u32s_len]; show ((List.replicate (n + 1) (0 : Int)).drop 1).length = n; simp
theorem newl_3 {n : Nat} : (bos ((SM.new n).used.drop 1)).length = n := by
  rw [bos_len]; show ((List.replicate (n + 1) false).drop 1).length = n; simp
theorem newl_4 {n : Nat} : (u32s ((TM.new n).vals.drop 1)).length = n := by
  rw [u32s_len]; show ((List.replicate (n + 1) (0 : Int)).drop 1).length = n; simp
end Go.Proofs.YtbeacjcmdijdmaaGreat
/-! ## Qb -/
namespace Go.Proofs.YtbeacjcmdijdmaaGreat
open Go Go.V
set_option maxRecDepth 8192 in
theorem q_order {g w : World} {L : List HP} (S : SM) (ra ga oa : Option Addr) (rc gc oc : Nat) (hO : SOk S) (hS : St g (Sh 64 1 (u32s S.rel) ra rc :: Sh 64 1 (u32s (S.gen.drop 1)) ga gc :: Sh 4 1 (bos (S.used.drop 1)) oa oc :: L) w) :
    Sp Tryz.prog 160 [.agg #[.int .i64 S.cap, .slice ra (List.length (u32s S.rel)) rc, .int .i64 (S.fresh + 1), .slice ga (List.length (u32s (S.gen.drop 1))) gc, .slice oa (List.length (bos (S.used.drop 1))) oc]] w (fun v w' => ∃ (a2 : Option Addr) (c2 : Nat), v = .slice a2 (List.length (u32s (SM.order S))) c2 ∧ St g (Own 64 1 (u32s (SM.order S)) a2 c2 :: Sh 64 1 (u32s S.rel) ra rc :: Sh 64 1 (u32s (S.gen.drop 1)) ga gc :: Sh 4 1 (bos (S.used.drop 1)) oa oc :: L) w') := by
  refine Sp.enter Tryz.func160 rfl (by kernel_rfl) (by kernel_rfl) ?_
  refine WC.seq <| WC.region <| WL.box rfl rfl #[.int .i64 S.cap, .slice ra (List.length (u32s S.rel)) rc, .int .i64 (S.fresh + 1), .slice ga (List.length (u32s (S.gen.drop 1))) gc, .slice oa (List.length (bos (S.used.drop 1))) oc] hS rfl rfl (fun b1 w hS => ?_)
  refine WL.r 1 rfl <| WL.nil <| WC.seq <| WC.region ?_
  have hfr := hO.fr; have hcp : S.cap = (S.used.length : Int) - 1 := rfl; have hle := hO.le; have hrl := hO.rle; have hru := u32s_len S.rel
  refine WL.r 1 rfl <| WL.nil <| WC.seq <| WC.seq <| WC.region <| WL.run 4 [.slice ra (List.length (u32s S.rel)) rc] rfl (by exact hS.ld 0 rfl rfl) ?_
  refine WL.nw 9 rfl (w64 (by omega)) ?_
  refine WL.r 1 rfl <| WL.nil <| WC.block ?_
  replace hS := hS.nil_ 64 1
  refine WC.loop [1, 2, 3, 4] (fun kM vs w => ∃ (j : Int) (out : List Int) (ub : Option Addr) (ud : Nat), vs = [.pointer (some ⟨b1, 0, none⟩), .slice none 0 0, .slice ub (List.length (u32s out)) ud, .int .i64 j] ∧ St g (Own 64 1 (u32s out) ub ud :: cel b1 #[.int .i64 S.cap, .slice ra (List.length (u32s S.rel)) rc, .int .i64 (S.fresh + 1), .slice ga (List.length (u32s (S.gen.drop 1))) gc, .slice oa (List.length (bos (S.used.drop 1))) oc] 35 :: Sh 64 1 (u32s S.rel) ra rc :: Sh 64 1 (u32s (S.gen.drop 1)) ga gc :: Sh 4 1 (bos (S.used.drop 1)) oa oc :: L) w ∧ (-1 ≤ j ∧ j < S.rel.length) ∧ (out = (S.rel.drop (j + 1).toNat).reverse) ∧ ((j + 1).toNat) = kM) ((((List.length (u32s S.rel) : Int) - 1) + 1).toNat) ⟨((u32s S.rel).length : Int) - 1, [], none, 0, rfl, hS, (by omega), (by rw [List.drop_eq_nil_of_le (by omega)]; rfl), rfl⟩ ?_
  clear hS; rintro _ _ w j ⟨j, out, ub, ud, rfl, hS, hj, ho, rfl⟩
  refine WC.seq <| WC.seq <| WC.region <| WL.r 2 rfl <| WL.nil ?_
  as_aux_lemma =>
  refine WC.ifP rfl (fun cd1 => ?_) (fun cd1 => ?_)
  · refine WC.skip <| WC.seq <| WC.block <| WC.region <| WL.run 4 [.slice ra (List.length (u32s S.rel)) rc] rfl (by exact hS.ld 1 rfl rfl) ?_
    obtain ⟨x, hx⟩ : ∃ x, S.rel[j.toNat]? = some x := ⟨_, List.getElem?_eq_getElem (by omega)⟩; have hol : out.length ≤ S.rel.length := (by rw [ho, List.length_reverse, List.length_drop]; omega); have hoe := u32s_len out
    refine WL.ix rfl rfl (i := j) (j.toNat) el_32 rfl rfl (by omega) (by omega) (hS.rdS 2 rfl (u32s_at hx)).1 ?_
    refine WL.run 1 [.int .u32 x] rfl (by exact (hS.rdS 2 rfl (u32s_at hx)).2 0 _ rfl) ?_
    refine WL.lit rfl rfl (u32s [x]) el_32 hS (by exact ⟨rfl, rfl⟩) (u32s_ok _) rfl (Nat.le_of_ble_eq_true rfl) (fun b2 w hS => ?_)
    refine WL.app rfl rfl 1 (u32s (out ++ [x])) el_32 hS rfl (hS.srcO 0 rfl) (u32s_app _ _).symm (Rm.of (by first | omega | (simp <;> omega)) (by decide)) rfl rfl (fun a1 c1 w hS => ?_)
    replace hS := hS.n6 L (a0 := Own 64 1 (u32s [x]) (some ⟨b2, 0, none⟩) (List.length (u32s [x]))) (a1 := Own 64 1 (u32s (out ++ [x])) a1 c1) rfl
    refine WL.r 1 rfl <| WL.nil <| WC.region <| WL.r 2 rfl <| WL.nw 13 rfl (w64 (by omega)) ?_
    refine WL.r 1 rfl <| WL.nil ?_
    exact ⟨_, by omega, j - 1, out ++ [x], _, _, rfl, (hS.sel 1 [] rfl), (by omega), (by rw [ho, show (j + 1).toNat = j.toNat + 1 by omega, show (j - 1 + 1).toNat = j.toNat by omega]; exact (rev_next hx).symm), rfl⟩
  · refine WC.exit <| WC.seq <| WC.seq <| WC.region ?_
    have hor : out = S.rel.reverse := (by rw [ho, show (j + 1).toNat = 0 by omega]; rfl)
    refine WL.run 3 [.int .i64 (S.fresh + 1)] rfl (by exact hS.ld 1 rfl rfl) ?_
    refine WL.nil <| WC.block <| WC.loop [1, 2, 3, 5] (fun kM vs w => ∃ (k : Nat) (j2 : Int) (acc : List Int) (uf : Option Addr) (ud2 : Nat), vs = [.pointer (some ⟨b1, 0, none⟩), .slice none 0 0, .slice uf (List.length (u32s acc)) ud2, .int .i64 j2] ∧ St g (Own 64 1 (u32s acc) uf ud2 :: cel b1 #[.int .i64 S.cap, .slice ra (List.length (u32s S.rel)) rc, .int .i64 (S.fresh + 1), .slice ga (List.length (u32s (S.gen.drop 1))) gc, .slice oa (List.length (bos (S.used.drop 1))) oc] 35 :: Sh 64 1 (u32s S.rel) ra rc :: Sh 64 1 (u32s (S.gen.drop 1)) ga gc :: Sh 4 1 (bos (S.used.drop 1)) oa oc :: L) w ∧ ((k : Int) ≤ S.cap - S.fresh) ∧ (j2 = S.fresh + 1 + (k : Int)) ∧ (acc = S.rel.reverse ++ ordU S k) ∧ ((S.cap - S.fresh).toNat - k) = kM) ((S.cap - S.fresh).toNat - 0) ⟨0, S.fresh + 1, out, ub, ud, rfl, hS, (by omega), (by omega), (by rw [hor]; simp [ordU]), rfl⟩ ?_
    clear hS; rintro _ _ w j ⟨k, j2, acc, uf, ud2, rfl, hS, hk, hj2, ha, rfl⟩
    refine WC.seq <| WC.seq <| WC.region <| WL.run 4 [.int .i64 S.cap] rfl (by exact hS.ld 1 rfl rfl) ?_
    refine WL.nil <| WC.ifP rfl (fun cd2 => ?_) (fun cd2 => ?_)
    · refine WC.skip <| WC.seq <| WC.block <| WC.region ?_
      have hal : acc.length ≤ 140000 := (by rw [ha, List.length_append, List.length_reverse]; unfold ordU; simp; omega); have hac := u32s_len acc
      refine WL.r 3 rfl <| WL.nw 32 rfl (wu32 (by omega)) ?_
      refine WL.lit rfl rfl (u32s [j2]) el_32 hS (by exact ⟨rfl, rfl⟩) (u32s_ok _) rfl (Nat.le_of_ble_eq_true rfl) (fun b2 w hS => ?_)
      refine WL.app rfl rfl 1 (u32s (acc ++ [j2])) el_32 hS rfl (hS.srcO 0 rfl) (u32s_app _ _).symm (Rm.of (by first | omega | (simp <;> omega)) (by decide)) rfl rfl (fun a1 c1 w hS => ?_)
      replace hS := hS.n6 L (a0 := Own 64 1 (u32s [j2]) (some ⟨b2, 0, none⟩) (List.length (u32s [j2]))) (a1 := Own 64 1 (u32s (acc ++ [j2])) a1 c1) rfl
      refine WL.r 1 rfl <| WL.nil ?_
      as_aux_lemma =>
      refine WC.region <| WL.r 2 rfl <| WL.nw 29 rfl (w64 (by omega)) ?_
      refine WL.r 1 rfl <| WL.nil ?_
      exact ⟨_, by omega, k + 1, j2 + 1, acc ++ [j2], _, _, rfl, (hS.sel 1 [] rfl), (by omega), (by omega), (by rw [hj2, ha, ordU_next, List.append_assoc]), rfl⟩
    · refine WC.exit <| WC.seq <| WC.region <| WL.r 2 rfl <| WL.nil <| WC.ret ?_
      refine ⟨[.slice uf (List.length (u32s acc)) ud2], rfl, ?_⟩
      replace hS := (hS.sel 2 [0] rfl)
      have hke : k = (S.cap - S.fresh).toNat := (by omega); subst hke; rw [show acc = SM.order S from ha] at hS ⊢; exact ⟨_, _, rfl, hS⟩
set_option maxRecDepth 8192 in
theorem q_new3 {g w : World} {L : List HP} (n : Nat) (hn : 1 ≤ n ∧ n ≤ 4096) (hS : St g (L) w) :
    Sp Tryz.prog 130 [.int .i64 (n : Int)] w (fun v w' => ∃ (ga oa : Option Addr) (gc oc : Nat), v = .agg #[.int .i64 (SM.new n).cap, .slice none (List.length (u32s (SM.new n).rel)) 0, .int .i64 ((SM.new n).fresh + 1), .slice ga (List.length (u32s ((SM.new n).gen.drop 1))) gc, .slice oa (List.length (bos ((SM.new n).used.drop 1))) oc] ∧ St g (Sh 64 1 (u32s (SM.new n).rel) none 0 :: Sh 64 1 (u32s ((SM.new n).gen.drop 1)) ga gc :: Sh 4 1 (bos ((SM.new n).used.drop 1)) oa oc :: L) w') := by
  refine Sp.enter Tryz.func130 rfl (by kernel_rfl) (by kernel_rfl) ?_
  have _ := hn
  refine WC.seq <| WC.region <| WL.new rfl rfl zv_35 hS (fun b1 w hS => ?_)
  refine WL.nil <| WC.seq <| WC.tree (.two [0, 1, 3] 2 [0, 3] (.one [] 4 [0, 1] (.one [5] 6 [] .nil)) 4 [0, 1] (.one [] 2 [0, 3] (.one [5] 6 [] .nil))) (by kernel_rfl) (by kernel_rfl) ?_
  refine WQ.r 3 rfl <| WQ.nil ?_
  intro m1
  replace hS := hS.drewN m1; generalize hwm1 : World.drewN _ _ = w at *; clear hwm1
  refine ⟨?_, ?_⟩
  · refine WL.make rfl rfl (v := (n : Int)) (v' := (n : Int)) (n) (n) el_32 hS rfl (by omega) rfl (by omega) (by omega) (Rm.of (by omega) (by decide)) (fun b2 w hS => ?_)
    replace hS : St g (Own 64 1 (List.replicate n [.int .u32 0]) (some ⟨b2, 0, none⟩) n :: cel b1 #[.int .i64 0, .slice none 0 0, .int .i64 0, .slice none 0 0, .slice none 0 0] 35 :: L) w := hS
    refine WL.nil ?_
    refine ⟨by exact ⟨RQ.pure rfl rfl rfl rfl, RQ.pure rfl rfl rfl rfl⟩, ?_⟩
    refine WQ.nil ?_
    intro m2
    replace hS := hS.drewN m2; generalize hwm2 : World.drewN _ _ = w at *; clear hwm2
    refine WL.make rfl rfl (v := (n : Int)) (v' := (n : Int)) (n) (n) el_33 hS rfl (by omega) rfl (by omega) (by omega) (Rm.of (by omega) (by decide)) (fun b3 w hS => ?_)
    replace hS := hS.n3 L (a0 := Own 4 1 (List.replicate n [.bool false]) (some ⟨b3, 0, none⟩) n) rfl
    refine WL.nil ?_
    refine ⟨by exact ⟨RQ.pure rfl rfl rfl rfl, RQ.pure rfl rfl rfl rfl⟩, ?_⟩
    refine WQ.build rfl rfl (cs := [.int .i64 (n : Int), .slice none 0 0, .int .i64 1, .slice (some ⟨b2, 0, none⟩) n n, .slice (some ⟨b3, 0, none⟩) n n]) zv_35 rfl rfl <| WQ.nil ?_
    intro m3
    replace hS := hS.drewN m3; generalize hwm3 : World.drewN _ _ = w at *; clear hwm3
    refine WL.stF rfl rfl rfl 2 hS rfl rfl rfl rfl rfl ag_35 (fun w hS => ?_)
    replace hS := hS.n3 L (a2 := cel b1 #[.int .i64 (n : Int), .slice none 0 0, .int .i64 1, .slice (some ⟨b2, 0, none⟩) n n, .slice (some ⟨b3, 0, none⟩) n n] 35) rfl
    refine WL.nil ?_
    refine ⟨by exact trivial, ?_⟩
    intro m4
    replace hS := hS.drewN m4; generalize hwm4 : World.drewN _ _ = w at *; clear hwm4
    as_aux_lemma =>
    refine WC.ret ?_
    rw [bos_rep, u32s_rep] at hS; replace hS := ((hS.at_ 0 rfl).share.at_ 1 rfl).share.nilS 64 1
    replace hS := hS.n4 L (a0 := Sh 64 1 (u32s (SM.new n).rel) none 0) (a1 := Sh 64 1 (u32s ((SM.new n).gen.drop 1)) (some ⟨b2, 0, none⟩) n) (a2 := Sh 4 1 (bos ((SM.new n).used.drop 1)) (some ⟨b3, 0, none⟩) n) rfl
    refine ⟨[.agg #[.int .i64 (n : Int), .slice none 0 0, .int .i64 1, .slice (some ⟨b2, 0, none⟩) n n, .slice (some ⟨b3, 0, none⟩) n n]], ⟨⟨_, rfl, hS.lvF 3 rfl ag_35⟩, trivial⟩, ?_⟩
    replace hS := (hS.sel 4 [0, 0, 0] rfl)
    first | exact ⟨some ⟨b2, 0, none⟩, some ⟨b3, 0, none⟩, n, n, by rw [newl_1, newl_2, newl_3]; rfl, hS⟩ | exact ⟨some ⟨b3, 0, none⟩, some ⟨b2, 0, none⟩, n, n, by rw [newl_1, newl_2, newl_3]; rfl, hS⟩
  · refine WL.make rfl rfl (v := (n : Int)) (v' := (n : Int)) (n) (n) el_33 hS rfl (by omega) rfl (by omega) (by omega) (Rm.of (by omega) (by decide)) (fun b2 w hS => ?_)
    replace hS : St g (Own 4 1 (List.replicate n [.bool false]) (some ⟨b2, 0, none⟩) n :: cel b1 #[.int .i64 0, .slice none 0 0, .int .i64 0, .slice none 0 0, .slice none 0 0] 35 :: L) w := hS
    refine WL.nil ?_
    refine ⟨by exact ⟨RQ.pure rfl rfl rfl rfl, RQ.pure rfl rfl rfl rfl⟩, ?_⟩
    refine WQ.nil ?_
    intro m2
    replace hS := hS.drewN m2; generalize hwm2 : World.drewN _ _ = w at *; clear hwm2
    refine WL.make rfl rfl (v := (n : Int)) (v' := (n : Int)) (n) (n) el_32 hS rfl (by omega) rfl (by omega) (by omega) (Rm.of (by omega) (by decide)) (fun b3 w hS => ?_)
    replace hS := hS.n3 L (a0 := Own 64 1 (List.replicate n [.int .u32 0]) (some ⟨b3, 0, none⟩) n) rfl
    refine WL.nil ?_
    refine ⟨by exact ⟨RQ.pure rfl rfl rfl rfl, RQ.pure rfl rfl rfl rfl⟩, ?_⟩
    refine WQ.build rfl rfl (cs := [.int .i64 (n : Int), .slice none 0 0, .int .i64 1, .slice (some ⟨b3, 0, none⟩) n n, .slice (some ⟨b2, 0, none⟩) n n]) zv_35 rfl rfl <| WQ.nil ?_
    intro m3
    replace hS := hS.drewN m3; generalize hwm3 : World.drewN _ _ = w at *; clear hwm3
    refine WL.stF rfl rfl rfl 2 hS rfl rfl rfl rfl rfl ag_35 (fun w hS => ?_)
    replace hS := hS.n3 L (a2 := cel b1 #[.int .i64 (n : Int), .slice none 0 0, .int .i64 1, .slice (some ⟨b3, 0, none⟩) n n, .slice (some ⟨b2, 0, none⟩) n n] 35) rfl
    refine WL.nil ?_
    refine ⟨by exact trivial, ?_⟩
    intro m4
    replace hS := hS.drewN m4; generalize hwm4 : World.drewN _ _ = w at *; clear hwm4
    as_aux_lemma =>
    refine WC.ret ?_
    rw [bos_rep, u32s_rep] at hS; replace hS := ((hS.at_ 1 rfl).share.at_ 1 rfl).share.nilS 64 1
    replace hS := hS.n4 L (a0 := Sh 64 1 (u32s (SM.new n).rel) none 0) (a1 := Sh 64 1 (u32s ((SM.new n).gen.drop 1)) (some ⟨b3, 0, none⟩) n) (a2 := Sh 4 1 (bos ((SM.new n).used.drop 1)) (some ⟨b2, 0, none⟩) n) rfl
    refine ⟨[.agg #[.int .i64 (n : Int), .slice none 0 0, .int .i64 1, .slice (some ⟨b3, 0, none⟩) n n, .slice (some ⟨b2, 0, none⟩) n n]], ⟨⟨_, rfl, hS.lvF 3 rfl ag_35⟩, trivial⟩, ?_⟩
    replace hS := (hS.sel 4 [0, 0, 0] rfl)
    first | exact ⟨some ⟨b2, 0, none⟩, some ⟨b3, 0, none⟩, n, n, by rw [newl_1, newl_2, newl_3]; rfl, hS⟩ | exact ⟨some ⟨b3, 0, none⟩, some ⟨b2, 0, none⟩, n, n, by rw [newl_1, newl_2, newl_3]; rfl, hS⟩
set_option maxRecDepth 8192 in
theorem q_new4 {g w : World} {L : List HP} (n : Nat) (hn : 1 ≤ n ∧ n ≤ 4096) (hS : St g (L) w) :
    Sp Tryz.prog 60 [.int .i64 (n : Int)] w (fun v w' => ∃ (ga oa va : Option Addr) (gc oc vc : Nat), v = .agg #[.int .i64 (TM.new n).s.cap, .slice none (List.length (u32s (TM.new n).s.rel)) 0, .int .i64 ((TM.new n).s.fresh + 1), .slice ga (List.length (u32s ((TM.new n).s.gen.drop 1))) gc, .slice oa (List.length (bos ((TM.new n).s.used.drop 1))) oc, .slice va (List.length (u32s ((TM.new n).vals.drop 1))) vc] ∧ St g (Sh 64 1 (u32s (TM.new n).s.rel) none 0 :: Sh 64 1 (u32s ((TM.new n).s.gen.drop 1)) ga gc :: Sh 4 1 (bos ((TM.new n).s.used.drop 1)) oa oc :: Sh 64 1 (u32s ((TM.new n).vals.drop 1)) va vc :: L) w') := by
  refine Sp.enter Tryz.func60 rfl (by kernel_rfl) (by kernel_rfl) ?_
  refine WC.seq <| WC.region <| WL.new rfl rfl zv_37 hS (fun b1 w hS => ?_)
  refine WL.nil <| WC.seq <| WC.tree (.two [0, 2] 1 [2] (.one [] 3 [0] (.one [4] 5 [] .nil)) 3 [0] (.one [] 1 [2] (.one [4] 5 [] .nil))) (by kernel_rfl) (by kernel_rfl) ?_
  refine WQ.r 2 rfl <| WQ.nil ?_
  intro m1
  replace hS := hS.drewN m1; generalize hwm1 : World.drewN _ _ = w at *; clear hwm1
  refine ⟨?_, ?_⟩
  · refine WL.call rfl rfl (q_new3 (n := n) (hn := hn) (hS := hS)) rfl ?_
    clear hS; rintro _ w ⟨ga1, oa1, gc1, oc1, rfl, hS⟩
    replace hS : St g (Sh 64 1 (u32s (SM.new n).rel) none 0 :: Sh 64 1 (u32s ((SM.new n).gen.drop 1)) ga1 gc1 :: Sh 4 1 (bos ((SM.new n).used.drop 1)) oa1 oc1 :: cel b1 #[.int .i64 0, .slice none 0 0, .int .i64 0, .slice none 0 0, .slice none 0 0, .slice none 0 0] 37 :: L) w := hS
    refine WL.nil ?_
    refine ⟨by exact RQ.pure rfl rfl rfl rfl, ?_⟩
    refine WQ.nil ?_
    intro m2
    replace hS := hS.drewN m2; generalize hwm2 : World.drewN _ _ = w at *; clear hwm2
    refine WL.make rfl rfl (v := (n : Int)) (v' := (n : Int)) (n) (n) el_32 hS rfl (by omega) rfl (by omega) (by omega) (Rm.of (by omega) (by decide)) (fun b2 w hS => ?_)
    replace hS := hS.n5 L (a0 := Own 64 1 (List.replicate n [.int .u32 0]) (some ⟨b2, 0, none⟩) n) rfl
    refine WL.nil ?_
    refine ⟨by exact RQ.pure rfl rfl rfl rfl, ?_⟩
    refine WQ.build rfl rfl (cs := [.int .i64 (SM.new n).cap, .slice none (List.length (u32s (SM.new n).rel)) 0, .int .i64 ((SM.new n).fresh + 1), .slice ga1 (List.length (u32s ((SM.new n).gen.drop 1))) gc1, .slice oa1 (List.length (bos ((SM.new n).used.drop 1))) oc1, .slice (some ⟨b2, 0, none⟩) n n]) zv_37 rfl rfl <| WQ.nil ?_
    intro m3
    replace hS := hS.drewN m3; generalize hwm3 : World.drewN _ _ = w at *; clear hwm3
    refine WL.stF rfl rfl rfl 4 hS rfl rfl rfl rfl rfl ag_37 (fun w hS => ?_)
    replace hS := hS.n5 L (a4 := cel b1 #[.int .i64 (SM.new n).cap, .slice none (List.length (u32s (SM.new n).rel)) 0, .int .i64 ((SM.new n).fresh + 1), .slice ga1 (List.length (u32s ((SM.new n).gen.drop 1))) gc1, .slice oa1 (List.length (bos ((SM.new n).used.drop 1))) oc1, .slice (some ⟨b2, 0, none⟩) n n] 37) rfl
    refine WL.nil ?_
    refine ⟨by exact trivial, ?_⟩
    intro m4
    replace hS := hS.drewN m4; generalize hwm4 : World.drewN _ _ = w at *; clear hwm4
    as_aux_lemma =>
    refine WC.ret ?_
    rw [u32s_rep] at hS; replace hS := (hS.at_ 0 rfl).share.sel 5 [1, 1, 1, 0, 0] rfl
    replace hS := hS.n5 L (a0 := Sh 64 1 (u32s (TM.new n).s.rel) none 0) (a1 := Sh 64 1 (u32s ((TM.new n).s.gen.drop 1)) ga1 gc1) (a2 := Sh 4 1 (bos ((TM.new n).s.used.drop 1)) oa1 oc1) (a3 := Sh 64 1 (u32s ((TM.new n).vals.drop 1)) (some ⟨b2, 0, none⟩) n) rfl
    refine ⟨[.agg #[.int .i64 (SM.new n).cap, .slice none (List.length (u32s (SM.new n).rel)) 0, .int .i64 ((SM.new n).fresh + 1), .slice ga1 (List.length (u32s ((SM.new n).gen.drop 1))) gc1, .slice oa1 (List.length (bos ((SM.new n).used.drop 1))) oc1, .slice (some ⟨b2, 0, none⟩) n n]], ⟨⟨_, rfl, hS.lvF 4 rfl ag_37⟩, trivial⟩, ?_⟩
    replace hS := (hS.sel 5 [0, 0, 0, 0] rfl)
    exact ⟨ga1, oa1, some ⟨b2, 0, none⟩, gc1, oc1, n, by rw [newl_4]; rfl, hS⟩
  · refine WL.make rfl rfl (v := (n : Int)) (v' := (n : Int)) (n) (n) el_32 hS rfl (by omega) rfl (by omega) (by omega) (Rm.of (by omega) (by decide)) (fun b2 w hS => ?_)
    replace hS : St g (Own 64 1 (List.replicate n [.int .u32 0]) (some ⟨b2, 0, none⟩) n :: cel b1 #[.int .i64 0, .slice none 0 0, .int .i64 0, .slice none 0 0, .slice none 0 0, .slice none 0 0] 37 :: L) w := hS
    refine WL.nil ?_
    refine ⟨by exact RQ.pure rfl rfl rfl rfl, ?_⟩
    refine WQ.nil ?_
    intro m2
    replace hS := hS.drewN m2; generalize hwm2 : World.drewN _ _ = w at *; clear hwm2
    refine WL.call rfl rfl (q_new3 (n := n) (hn := hn) (hS := hS)) rfl ?_
    clear hS; rintro _ w ⟨ga1, oa1, gc1, oc1, rfl, hS⟩
    replace hS := hS.n5 L (a0 := Sh 64 1 (u32s (SM.new n).rel) none 0) (a1 := Sh 64 1 (u32s ((SM.new n).gen.drop 1)) ga1 gc1) (a2 := Sh 4 1 (bos ((SM.new n).used.drop 1)) oa1 oc1) rfl
    refine WL.nil ?_
    refine ⟨by exact RQ.pure rfl rfl rfl rfl, ?_⟩
    refine WQ.build rfl rfl (cs := [.int .i64 (SM.new n).cap, .slice none (List.length (u32s (SM.new n).rel)) 0, .int .i64 ((SM.new n).fresh + 1), .slice ga1 (List.length (u32s ((SM.new n).gen.drop 1))) gc1, .slice oa1 (List.length (bos ((SM.new n).used.drop 1))) oc1, .slice (some ⟨b2, 0, none⟩) n n]) zv_37 rfl rfl <| WQ.nil ?_
    intro m3
    replace hS := hS.drewN m3; generalize hwm3 : World.drewN _ _ = w at *; clear hwm3
    refine WL.stF rfl rfl rfl 4 hS rfl rfl rfl rfl rfl ag_37 (fun w hS => ?_)
    replace hS := hS.n5 L (a4 := cel b1 #[.int .i64 (SM.new n).cap, .slice none (List.length (u32s (SM.new n).rel)) 0, .int .i64 ((SM.new n).fresh + 1), .slice ga1 (List.length (u32s ((SM.new n).gen.drop 1))) gc1, .slice oa1 (List.length (bos ((SM.new n).used.drop 1))) oc1, .slice (some ⟨b2, 0, none⟩) n n] 37) rfl
    refine WL.nil ?_
    refine ⟨by exact trivial, ?_⟩
    intro m4
    replace hS := hS.drewN m4; generalize hwm4 : World.drewN _ _ = w at *; clear hwm4
    as_aux_lemma =>
    refine WC.ret ?_
    rw [u32s_rep] at hS; replace hS := (hS.at_ 3 rfl).share.sel 5 [1, 1, 1, 0, 0] rfl
    replace hS := hS.n5 L (a0 := Sh 64 1 (u32s (TM.new n).s.rel) none 0) (a1 := Sh 64 1 (u32s ((TM.new n).s.gen.drop 1)) ga1 gc1) (a2 := Sh 4 1 (bos ((TM.new n).s.used.drop 1)) oa1 oc1) (a3 := Sh 64 1 (u32s ((TM.new n).vals.drop 1)) (some ⟨b2, 0, none⟩) n) rfl
    refine ⟨[.agg #[.int .i64 (SM.new n).cap, .slice none (List.length (u32s (SM.new n).rel)) 0, .int .i64 ((SM.new n).fresh + 1), .slice ga1 (List.length (u32s ((SM.new n).gen.drop 1))) gc1, .slice oa1 (List.length (bos ((SM.new n).used.drop 1))) oc1, .slice (some ⟨b2, 0, none⟩) n n]], ⟨⟨_, rfl, hS.lvF 4 rfl ag_37⟩, trivial⟩, ?_⟩
    replace hS := (hS.sel 5 [0, 0, 0, 0] rfl)
    exact ⟨ga1, oa1, some ⟨b2, 0, none⟩, gc1, oc1, n, by rw [newl_4]; rfl, hS⟩
end Go.Proofs.YtbeacjcmdijdmaaGreat
/-! ## Hr -/
namespace Go.V
open Go Go.RowKit
structure PR where
  ps : List Int
  a : Option Addr
  c : Nat
def prC (r : PR) : List Value := [.slice r.a (i64s r.ps).length r.c]
def enP (l : List PR) : List (List Value) := l.map prC
@[simp] theorem enP_len (l : List PR) : (enP l).length = l.length := by simp [enP]
theorem enP_at {l : List PR} {k : Nat} {r : PR} (h : l[k]? = some r) : (enP l)[k]? = some [.slice r.a (i64s r.ps).length r.c] := by simp [enP, h, prC]
theorem enP_app (l m : List PR) : enP (l ++ m) = enP l ++ enP m := by simp [enP]
theorem enP_ok (l : List PR) : OkE 1 (enP l) := fun x hx => by
  obtain ⟨y, _, rfl⟩ := List.mem_map.1 hx
  exact ⟨rfl, fun u hu => by simp [prC] at hu; subst hu; rfl⟩
def prF (r : PR) : List HP := [Sh 3 1 (i64s r.ps) r.a r.c]
theorem prF_sh (r : PR) : ∀ A ∈ prF r, Sht A := fun A hA => by
  simp only [prF, List.mem_singleton] at hA; subst hA; exact Sht.sh
inductive Rch (P : List PR) (n : Int) : Int → Prop
  | refl : 1 ≤ n → n ≤ P.length → Rch P n n
  | step {i : Nat} {r : PR} {u : Int} : Rch P n ((i : Int) + 1) → P[i]? = some r → u ∈ r.ps → Rch P n u
def PRk (P : List PR) : Prop := ∀ (i : Nat) (r : PR), P[i]? = some r → r.ps.length ≤ 2 ∧ ∀ u ∈ r.ps, 1 ≤ u ∧ u ≤ (i : Int)
theorem PRk.nil : PRk [] := fun i r h => by simp at h
theorem Rch.rng {P : List PR} {n u : Int} (hP : PRk P) (h : Rch P n u) : 1 ≤ u ∧ u ≤ n ∧ 1 ≤ n ∧ n ≤ P.length := by
  induction h with
  | refl h1 h2 => exact ⟨h1, Int.le_refl _, h1, h2⟩
  | step _ hr hu ih => have := (hP _ _ hr).2 _ hu; omega
theorem Rch.trans {P : List PR} {n m u : Int} (h : Rch P n m) (k : Rch P m u) : Rch P n u := by
  induction k with
  | refl _ _ => exact h
  | step _ hr hu ih => exact .step ih hr hu
theorem Rch.head {P : List PR} {n u : Int} (hP : PRk P) (h : Rch P n u) : u = n ∨ ∃ (i : Nat) (r : PR) (p : Int), n = (i : Int) + 1 ∧ P[i]? = some r ∧ p ∈ r.ps ∧ Rch P p u := by
  induction h with
  | refl _ _ => exact .inl rfl
  | @step i r u h1 hr hu ih =>
    have h2 := (hP _ _ hr).2 _ hu
    have h3 := (List.getElem?_eq_some_iff.1 hr).1
    rcases ih with e | ⟨i', r', p, e, hr', hp, hk⟩
    · exact .inr ⟨i, r, u, e.symm, hr, hu, .refl h2.1 (by omega)⟩
    · exact .inr ⟨i', r', p, e, hr', hp, .step hk hr hu⟩
theorem Rch.mono {P : List PR} {r : PR} {n u : Int} (h : Rch P n u) : Rch (P ++ [r]) n u := by
  induction h with
  | refl h1 h2 => exact .refl h1 (by simp; omega)
  | step _ hr hu ih => exact .step ih (by rw [List.getElem?_append_left (List.getElem?_eq_some_iff.1 hr).1]; exact hr) hu
theorem PRk.snoc {P : List PR} {r : PR} (hP : PRk P) (hl : r.ps.length ≤ 2) (h : ∀ u ∈ r.ps, 1 ≤ u ∧ u ≤ (P.length : Int)) : PRk (P ++ [r]) := fun i x hx => by
  by_cases hi : i < P.length
  · rw [List.getElem?_append_left hi] at hx; exact hP i x hx
  · have h1 := (List.getElem?_eq_some_iff.1 hx).1
    have h2 : i = P.length := by simp at h1; omega
    subst h2
    simp at hx; subst hx; exact ⟨hl, h⟩
theorem Rch.old {P : List PR} {r : PR} {n u : Int} (hP : PRk (P ++ [r])) (hn : n ≤ P.length) (h : Rch (P ++ [r]) n u) : Rch P n u := by
  induction h with
  | refl h1 h2 => exact .refl h1 hn
  | @step i r' u h1 hr hu ih =>
    have h2 := (h1.rng hP).2.1
    rw [List.getElem?_append_left (by omega)] at hr
    exact .step ih hr hu
theorem rch_new {P : List PR} {r : PR} {u : Int} (hP : PRk (P ++ [r])) : Rch (P ++ [r]) ((P.length : Int) + 1) u ↔ u = (P.length : Int) + 1 ∨ ∃ p ∈ r.ps, Rch P p u := by
  have hlast : (P ++ [r])[P.length]? = some r := by simp
  constructor
  · intro h
    rcases h.head hP with e | ⟨i, r', p, e, hr, hp, hk⟩
    · exact .inl e
    · have : i = P.length := by omega
      subst this
      rw [hlast] at hr; cases hr
      exact .inr ⟨p, hp, hk.old hP ((hP _ _ hlast).2 p hp).2⟩
  · have h0 : Rch (P ++ [r]) ((P.length : Int) + 1) ((P.length : Int) + 1) := .refl (by omega) (by simp)
    rintro (rfl | ⟨p, hp, hk⟩)
    · exact h0
    · exact (Rch.step h0 hlast hp).trans hk.mono
theorem bools_eq {l m : List Bool} (hl : l.length = m.length) (h : ∀ (j : Nat) (x y : Bool), l[j]? = some x → m[j]? = some y → (x = true ↔ y = true)) : l = m := by
  refine List.ext_getElem? fun j => ?_
  cases h1 : l[j]? with
  | none => rw [List.getElem?_eq_none_iff] at h1; rw [List.getElem?_eq_none (by omega)]
  | some x =>
    have h2 := (List.getElem?_eq_some_iff.1 h1).1
    have h3 := List.getElem?_eq_getElem (l := m) (i := j) (by omega)
    rw [h3]
    have h4 := h j x _ h1 h3
    cases x <;> cases h5 : m[j] <;> simp_all
def numL (bs : List Bool) : List Int := bs.zipIdx.filterMap fun p => if p.1 = true then some ((p.2 : Int) + 1) else none
theorem numL_snoc {bs : List Bool} {k : Nat} {x : Bool} (h : bs[k]? = some x) : numL (bs.take (k + 1)) = numL (bs.take k) ++ (if x = true then [(k : Int) + 1] else []) := by
  have hl := (List.getElem?_eq_some_iff.1 h).1
  unfold numL
  rw [List.take_add_one, h]
  simp only [Option.toList_some, List.zipIdx_append, List.filterMap_append]
  have : (bs.take k).length = k := by rw [List.length_take]; omega
  rw [this]
  cases x <;> simp
theorem numL_take (bs : List Bool) : ∀ k, k ≤ bs.length → Asc (numL (bs.take k)) ∧ (numL (bs.take k)).length ≤ k ∧ ∀ z, z ∈ numL (bs.take k) ↔ ∃ j : Nat, j < k ∧ bs[j]? = some true ∧ z = (j : Int) + 1
  | 0, _ => ⟨by simp [numL, Asc], by simp [numL], fun z => ⟨fun h => by simp [numL] at h, fun ⟨j, hj, _⟩ => by omega⟩⟩
  | k + 1, hk => by
    obtain ⟨h1, h0, h2⟩ := numL_take bs k (by omega)
    obtain ⟨x, hx⟩ : ∃ x, bs[k]? = some x := ⟨_, List.getElem?_eq_getElem (by omega)⟩
    rw [numL_snoc hx]
    cases x with
    | false =>
      refine ⟨by simpa using h1, by simp; omega, fun z => ?_⟩
      rw [if_neg (by decide), List.append_nil, h2]
      constructor
      · rintro ⟨j, hj, he, e⟩; exact ⟨j, by omega, he, e⟩
      · rintro ⟨j, hj, he, e⟩
        refine ⟨j, ?_, he, e⟩
        rcases Nat.lt_or_ge j k with h | h
        · exact h
        · have : j = k := by omega
          subst this; rw [hx] at he; cases he
    | true =>
      rw [if_pos rfl]
      refine ⟨List.pairwise_append.2 ⟨h1, List.pairwise_singleton _ _, fun a ha b hb => ?_⟩, by simp; omega, fun z => ?_⟩
      · obtain ⟨j, hj, _, e⟩ := (h2 a).1 ha
        rw [List.mem_singleton.1 hb]; omega
      · rw [List.mem_append, List.mem_singleton, h2]
        constructor
        · rintro (⟨j, hj, he, e⟩ | rfl)
          · exact ⟨j, by omega, he, e⟩
          · exact ⟨k, by omega, hx, rfl⟩
        · rintro ⟨j, hj, he, e⟩
          rcases Nat.lt_or_ge j k with h | h
          · exact .inl ⟨j, h, he, e⟩
          · have : j = k := by omega
            subst this; exact .inr e
theorem numL_all (bs : List Bool) : Asc (numL bs) ∧ (numL bs).length ≤ bs.length ∧ ∀ z, z ∈ numL bs ↔ ∃ j : Nat, bs[j]? = some true ∧ z = (j : Int) + 1 := by
  have h := numL_take bs bs.length (Nat.le_refl _)
  rw [List.take_length] at h
  refine ⟨h.1, h.2.1, fun z => ?_⟩
  rw [h.2.2]
  exact ⟨fun ⟨j, _, h1, h2⟩ => ⟨j, h1, h2⟩, fun ⟨j, h1, h2⟩ => ⟨j, (List.getElem?_eq_some_iff.1 h1).1, h1, h2⟩⟩
open Classical in
noncomputable def up (P : List PR) (n : Int) : List Bool := (List.range P.length).map fun i : Nat => decide (Rch P n ((i : Int) + 1))
@[simp] theorem up_len (P : List PR) (n : Int) : (up P n).length = P.length := by simp [up]
open Classical in
theorem up_at {P : List PR} {n : Int} {j : Nat} {x : Bool} (h : (up P n)[j]? = some x) : x = true ↔ Rch P n ((j : Int) + 1) := by
  unfold up at h
  rw [List.getElem?_map] at h
  cases hj : (List.range P.length)[j]? with
  | none => rw [hj] at h; cases h
  | some i =>
    rw [hj] at h
    have hl := (List.getElem?_eq_some_iff.1 hj).2
    rw [List.getElem_range] at hl
    subst hl
    simp at h
    rw [← h, decide_eq_true_eq]
theorem up_eq {P : List PR} {n : Int} {bs : List Bool} (hl : bs.length = P.length) (h : ∀ (j : Nat) (x : Bool), bs[j]? = some x → (x = true ↔ Rch P n ((j : Int) + 1))) : bs = up P n :=
  bools_eq (by simpa using hl) fun j x y hx hy => (h j x hx).trans (up_at hy).symm
theorem up_num {P : List PR} (hP : PRk P) (n z : Int) : z ∈ numL (up P n) ↔ Rch P n z := by
  rw [(numL_all _).2.2]
  constructor
  · rintro ⟨j, hj, rfl⟩; exact (up_at hj).1 rfl
  · intro h
    have h1 := h.rng hP
    obtain ⟨x, hx⟩ : ∃ x, (up P n)[(z - 1).toNat]? = some x := ⟨_, List.getElem?_eq_getElem (by rw [up_len]; omega)⟩
    have hz : (((z - 1).toNat : Nat) : Int) + 1 = z := by omega
    have h2 := (up_at hx).2 (by rw [hz]; exact h)
    subst h2
    exact ⟨_, hx, hz.symm⟩
def Abv (P : List PR) (n i : Int) (T : List Int) (bs : List Bool) : Prop := bs.length = P.length ∧ ∀ (j : Nat) (x : Bool), bs[j]? = some x → (x = true ↔ ((j : Int) + 1 = n ∨ ∃ (i' : Nat) (r : PR), i < i' ∧ P[i']? = some r ∧ Rch P n ((i' : Int) + 1) ∧ (j : Int) + 1 ∈ r.ps) ∨ (Rch P n (i + 1) ∧ (j : Int) + 1 ∈ T))
theorem abv_0 {P : List PR} {n : Int} (hn : ¬ (1 ≤ n ∧ n ≤ P.length)) : Abv P n (P.length - 1) [] (List.replicate P.length false) := by
  refine ⟨by simp, fun j x hx => ?_⟩
  have h1 := (List.getElem?_eq_some_iff.1 hx).1
  have h2 := List.eq_of_mem_replicate (List.mem_of_getElem? hx)
  rw [List.length_replicate] at h1
  subst h2
  refine ⟨fun h => (by cases h), fun h => ?_⟩
  rcases h with (h | ⟨i', r, h3, h4, _⟩) | ⟨_, h⟩
  · omega
  · have := (List.getElem?_eq_some_iff.1 h4).1; omega
  · cases h
theorem abv_1 {P : List PR} {n : Int} (hn : 1 ≤ n ∧ n ≤ P.length) : Abv P n (P.length - 1) [] ((List.replicate P.length false).set (n - 1).toNat true) := by
  refine ⟨by simp, fun j x hx => ?_⟩
  have h1 := (List.getElem?_eq_some_iff.1 hx).1
  rw [List.length_set, List.length_replicate] at h1
  have hno : ¬ ∃ (i' : Nat) (r : PR), (P.length : Int) - 1 < i' ∧ P[i']? = some r ∧ Rch P n ((i' : Int) + 1) ∧ (j : Int) + 1 ∈ r.ps := fun ⟨i', r, h3, h4, _⟩ => by
    have := (List.getElem?_eq_some_iff.1 h4).1; omega
  rw [List.getElem?_set] at hx
  split at hx
  · rename_i he
    rw [if_pos (by rw [List.length_replicate]; omega)] at hx
    cases hx
    exact ⟨fun _ => .inl (.inl (by omega)), fun _ => rfl⟩
  · rename_i he
    have h2 := List.eq_of_mem_replicate (List.mem_of_getElem? hx)
    subst h2
    refine ⟨fun h => (by cases h), fun h => ?_⟩
    rcases h with (h | h) | ⟨_, h⟩
    · omega
    · exact absurd h hno
    · cases h
theorem abv_i {P : List PR} {n : Int} {i : Nat} {T : List Int} {bs : List Bool} {x : Bool} {r : PR} (hP : PRk P) (h : Abv P n i T bs) (hr : P[i]? = some r) (hx : bs[i]? = some x) : x = true ↔ Rch P n ((i : Int) + 1) := by
  have hl := (List.getElem?_eq_some_iff.1 hr).1
  rw [h.2 i x hx]
  constructor
  · rintro ((e | ⟨i', r', h1, h2, h3, h4⟩) | ⟨h3, h4⟩)
    · rw [e]; exact .refl (by omega) (by omega)
    · exact .step h3 h2 h4
    · exact h3
  · intro hk
    cases hk with
    | refl h1 h2 => exact .inl (.inl rfl)
    | @step i' r' u h1 h2 h3 =>
      have h4 := (hP _ _ h2).2 _ h3
      exact .inl (.inr ⟨i', r', by omega, h2, h1, h3⟩)
theorem abv_set {P : List PR} {n : Int} {i k : Nat} {bs : List Bool} {r : PR} {u : Int} (hP : PRk P) (h : Abv P n i (r.ps.take k) bs) (hr : P[i]? = some r) (hi : Rch P n ((i : Int) + 1)) (hu : r.ps[k]? = some u) : Abv P n i (r.ps.take (k + 1)) (bs.set (u - 1).toNat true) := by
  refine ⟨by rw [List.length_set]; exact h.1, fun j x hx => ?_⟩
  have hub := (hP _ _ hr).2 u (List.mem_of_getElem? hu)
  have hl := (List.getElem?_eq_some_iff.1 hr).1
  rw [List.getElem?_set] at hx
  rw [List.take_add_one, hu]
  split at hx
  · rename_i he
    have e2 : (j : Int) + 1 = u := by omega
    split at hx
    · cases hx
      exact ⟨fun _ => .inr ⟨hi, by rw [e2]; simp⟩, fun _ => rfl⟩
    · cases hx
  · rename_i he
    rw [h.2 j x hx]
    have e2 : (j : Int) + 1 ≠ u := by omega
    constructor
    · rintro (h1 | ⟨h1, h2⟩)
      · exact .inl h1
      · exact .inr ⟨h1, List.mem_append_left _ h2⟩
    · rintro (h1 | ⟨h1, h2⟩)
      · exact .inl h1
      · rcases List.mem_append.1 h2 with h2 | h2
        · exact .inr ⟨h1, h2⟩
        · simp at h2; exact absurd h2 e2
theorem abv_next {P : List PR} {n : Int} {i : Nat} {T : List Int} {bs : List Bool} {r : PR} (h : Abv P n i T bs) (hr : P[i]? = some r) (hT : T = r.ps ∨ ¬ Rch P n ((i : Int) + 1)) : Abv P n ((i : Int) - 1) [] bs := by
  refine ⟨h.1, fun j x hx => ?_⟩
  rw [h.2 j x hx]
  constructor
  · rintro ((e | ⟨i', r', h1, h2, h3, h4⟩) | ⟨h3, h4⟩)
    · exact .inl (.inl e)
    · exact .inl (.inr ⟨i', r', by omega, h2, h3, h4⟩)
    · rcases hT with rfl | hT
      · exact .inl (.inr ⟨i, r, by omega, hr, h3, h4⟩)
      · exact absurd h3 hT
  · rintro ((e | ⟨i', r', h1, h2, h3, h4⟩) | ⟨h3, h4⟩)
    · exact .inl (.inl e)
    · by_cases he : i' = i
      · subst he
        rw [hr] at h2; cases h2
        rcases hT with rfl | hT
        · exact .inr ⟨h3, h4⟩
        · exact absurd h3 hT
      · exact .inl (.inr ⟨i', r', by omega, h2, h3, h4⟩)
    · cases h4
theorem abv_i' {P : List PR} {n i : Int} {k : Nat} {T : List Int} {bs : List Bool} {x : Bool} {r : PR} (hk : i = k) (hP : PRk P) (h : Abv P n i T bs) (hr : P[k]? = some r) (hx : bs[k]? = some x) : x = true ↔ Rch P n (i + 1) := by
  subst hk; exact abv_i hP h hr hx
theorem abv_set' {P : List PR} {n i : Int} {k m : Nat} {bs : List Bool} {r : PR} {u : Int} (hk : i = k) (hP : PRk P) (h : Abv P n i (r.ps.take m) bs) (hr : P[k]? = some r) (hi : Rch P n (i + 1)) (hu : r.ps[m]? = some u) : Abv P n i (r.ps.take (m + 1)) (bs.set (u - 1).toNat true) := by
  subst hk; exact abv_set hP h hr hi hu
theorem abv_next' {P : List PR} {n i : Int} {k : Nat} {T : List Int} {bs : List Bool} {r : PR} (hk : i = k) (h : Abv P n i T bs) (hr : P[k]? = some r) (hT : T = r.ps ∨ ¬ Rch P n (i + 1)) : Abv P n (i - 1) [] bs := by
  subst hk; exact abv_next h hr hT
theorem abv_end {P : List PR} {n : Int} {bs : List Bool} {i : Int} (hi : i < 0) (h : Abv P n i [] bs) : bs = up P n := up_eq h.1 fun j x hx => by
  have hl := (List.getElem?_eq_some_iff.1 hx).1
  have hl2 := h.1
  rw [h.2 j x hx]
  constructor
  · rintro ((e | ⟨i', r', h1, h2, h3, h4⟩) | ⟨h3, h4⟩)
    · rw [e]; exact .refl (by omega) (by omega)
    · exact .step h3 h2 h4
    · cases h4
  · intro hk
    generalize hz : (j : Int) + 1 = z at hk
    cases hk with
    | refl h1 h2 => exact .inl (.inl rfl)
    | @step i' r' u h1 h2 h3 => exact .inl (.inr ⟨i', r', by omega, h2, h1, h3⟩)
noncomputable def comR (P : List PR) (x y : Int) : Int := gcm (numL (up P x)) (numL (up P y))
theorem com_at {P : List PR} {x y : Int} {i : Nat} (h1 : (up P x)[i]? = some true) (h2 : (up P y)[i]? = some true) (h : ∀ j : Nat, i < j → (up P x)[j]? = some true → (up P y)[j]? = some true → False) : comR P x y = (i : Int) + 1 := by
  refine gcm_is (numL_all _).1 ((numL_all _).2.2 _ |>.2 ⟨i, h1, rfl⟩) ((numL_all _).2.2 _ |>.2 ⟨i, h2, rfl⟩) fun z hz hz2 => ?_
  obtain ⟨j, hj, rfl⟩ := ((numL_all _).2.2 z).1 hz
  obtain ⟨j', hj', e⟩ := ((numL_all _).2.2 _).1 hz2
  have : j' = j := by omega
  subst this
  rcases Nat.lt_or_ge i j' with hl | hl
  · exact absurd (h j' hl hj hj') id
  · omega
theorem com_no {P : List PR} {x y : Int} (h : ∀ j : Nat, (up P x)[j]? = some true → (up P y)[j]? = some true → False) : comR P x y = 0 := by
  refine gcm_no fun z hz hz2 => ?_
  obtain ⟨j, hj, rfl⟩ := ((numL_all _).2.2 z).1 hz
  obtain ⟨j', hj', e⟩ := ((numL_all _).2.2 _).1 hz2
  have : j' = j := by omega
  subst this
  exact h j' hj hj'
theorem com_cases {P : List PR} (hP : PRk P) (x y : Int) : (comR P x y = 0 ∧ ∀ z, Rch P x z → ¬ Rch P y z) ∨ (Rch P x (comR P x y) ∧ Rch P y (comR P x y) ∧ ∀ z, Rch P x z → Rch P y z → z ≤ comR P x y) := by
  rcases gcm_cases (l := numL (up P x)) (m := numL (up P y)) (numL_all _).1 with ⟨h1, h2⟩ | ⟨h1, h2, h3⟩
  · exact .inl ⟨h1, fun z hz hz2 => h2 z ((up_num hP x z).2 hz) ((up_num hP y z).2 hz2)⟩
  · exact .inr ⟨(up_num hP x _).1 h1, (up_num hP y _).1 h2, fun z hz hz2 => h3 z ((up_num hP x z).2 hz) ((up_num hP y z).2 hz2)⟩
theorem com_rng {P : List PR} (hP : PRk P) (x y : Int) : 0 ≤ comR P x y ∧ comR P x y ≤ P.length := by
  rcases com_cases hP x y with ⟨h, _⟩ | ⟨h, _, _⟩
  · omega
  · have := h.rng hP; omega
def liveR (L : List Bool) (n : Int) : Bool := decide (1 ≤ n) && (L[(n - 1).toNat]?).getD false
theorem liveR_at {L : List Bool} {n : Int} {k : Nat} {x : Bool} (hn : n = (k : Int) + 1) (h : L[k]? = some x) : liveR L n = x := by
  subst hn
  unfold liveR
  rw [show ((k : Int) + 1 - 1).toNat = k by omega, h, decide_eq_true (by omega)]; rfl
theorem liveR_no {L : List Bool} {n : Int} (h : ¬ (1 ≤ n ∧ n ≤ L.length)) : liveR L n = false := by
  unfold liveR
  by_cases h1 : 1 ≤ n
  · rw [List.getElem?_eq_none (by omega), Option.getD_none, Bool.and_false]
  · rw [decide_eq_false h1]; rfl
theorem liveR_rng {L : List Bool} {n : Int} (h : liveR L n = true) : 1 ≤ n ∧ n ≤ L.length := by
  refine Decidable.by_contra fun hn => ?_
  rw [liveR_no hn] at h; cases h
def Prs (P : List PR) (L : List Bool) (x y : Int) (bs : List Bool) : Prop := bs.length = P.length ∧ ∀ (j : Nat) (b : Bool), bs[j]? = some b → (b = true ↔ ∃ u v, liveR L u = true ∧ liveR L v = true ∧ u ≤ v ∧ (u < x ∨ u = x ∧ v < y) ∧ comR P u v = (j : Int) + 1)
theorem prs_0 {P : List PR} {L : List Bool} : Prs P L 1 1 (List.replicate P.length false) := by
  refine ⟨by simp, fun j b hb => ?_⟩
  have h2 := List.eq_of_mem_replicate (List.mem_of_getElem? hb)
  subst h2
  refine ⟨fun h => (by cases h), fun ⟨u, v, h1, h2, h3, h4, _⟩ => ?_⟩
  have := liveR_rng h1
  omega
theorem prs_set {P : List PR} {L : List Bool} {x y : Int} {bs : List Bool} (hP : PRk P) (h : Prs P L x y bs) (hx : liveR L x = true) (hy : liveR L y = true) (hxy : x ≤ y) (hc : 0 < comR P x y) : Prs P L x (y + 1) (bs.set (comR P x y - 1).toNat true) := by
  refine ⟨by rw [List.length_set]; exact h.1, fun j b hb => ?_⟩
  have hcr := com_rng hP x y
  have hl := h.1
  rw [List.getElem?_set] at hb
  split at hb
  · rename_i he
    split at hb
    · cases hb
      exact ⟨fun _ => ⟨x, y, hx, hy, hxy, by omega, by omega⟩, fun _ => rfl⟩
    · cases hb
  · rename_i he
    rw [h.2 j b hb]
    constructor
    · rintro ⟨u, v, h1, h2, h3, h4, h5⟩; exact ⟨u, v, h1, h2, h3, by omega, h5⟩
    · rintro ⟨u, v, h1, h2, h3, h4, h5⟩
      by_cases hq : u = x ∧ v = y
      · obtain ⟨rfl, rfl⟩ := hq; omega
      · exact ⟨u, v, h1, h2, h3, by omega, h5⟩
theorem prs_skip {P : List PR} {L : List Bool} {x y : Int} {bs : List Bool} (h : Prs P L x y bs) (hn : liveR L y = false ∨ ¬ 0 < comR P x y) : Prs P L x (y + 1) bs := by
  refine ⟨h.1, fun j b hb => ?_⟩
  rw [h.2 j b hb]
  constructor
  · rintro ⟨u, v, h1, h2, h3, h4, h5⟩; exact ⟨u, v, h1, h2, h3, by omega, h5⟩
  · rintro ⟨u, v, h1, h2, h3, h4, h5⟩
    by_cases hq : u = x ∧ v = y
    · obtain ⟨rfl, rfl⟩ := hq
      rcases hn with hn | hn
      · rw [hn] at h2; cases h2
      · omega
    · exact ⟨u, v, h1, h2, h3, by omega, h5⟩
theorem prs_next {P : List PR} {L : List Bool} {x y : Int} {bs : List Bool} (h : Prs P L x y bs) (hn : (L.length : Int) < y ∨ liveR L x = false) : Prs P L (x + 1) (x + 1) bs := by
  refine ⟨h.1, fun j b hb => ?_⟩
  rw [h.2 j b hb]
  constructor
  · rintro ⟨u, v, h1, h2, h3, h4, h5⟩; exact ⟨u, v, h1, h2, h3, by omega, h5⟩
  · rintro ⟨u, v, h1, h2, h3, h4, h5⟩
    refine ⟨u, v, h1, h2, h3, ?_, h5⟩
    have hv := liveR_rng h2
    by_cases hu : u = x
    · subst hu
      rcases hn with hn | hn
      · omega
      · rw [hn] at h1; cases h1
    · omega
open Classical in
noncomputable def pres (P : List PR) (L : List Bool) : List Bool := (List.range P.length).map fun i : Nat => decide (∃ u v, liveR L u = true ∧ liveR L v = true ∧ u ≤ v ∧ comR P u v = (i : Int) + 1)
@[simp] theorem pres_len (P : List PR) (L : List Bool) : (pres P L).length = P.length := by simp [pres]
open Classical in
theorem pres_at {P : List PR} {L : List Bool} {j : Nat} {x : Bool} (h : (pres P L)[j]? = some x) : x = true ↔ ∃ u v, liveR L u = true ∧ liveR L v = true ∧ u ≤ v ∧ comR P u v = (j : Int) + 1 := by
  unfold pres at h
  rw [List.getElem?_map] at h
  cases hj : (List.range P.length)[j]? with
  | none => rw [hj] at h; cases h
  | some i =>
    rw [hj] at h
    have hl := (List.getElem?_eq_some_iff.1 hj).2
    rw [List.getElem_range] at hl
    subst hl
    simp only [Option.map_some, Option.some.injEq] at h
    rw [← h]; exact decide_eq_true_iff
theorem prs_end {P : List PR} {L : List Bool} {x y : Int} {bs : List Bool} (h : Prs P L x y bs) (hx : (L.length : Int) < x) : bs = pres P L := by
  refine bools_eq (by rw [pres_len]; exact h.1) fun j b b' hb hb' => ?_
  rw [h.2 j b hb, pres_at hb']
  constructor
  · rintro ⟨u, v, h1, h2, h3, h4, h5⟩; exact ⟨u, v, h1, h2, h3, h5⟩
  · rintro ⟨u, v, h1, h2, h3, h5⟩
    have := liveR_rng h1
    exact ⟨u, v, h1, h2, h3, by omega, h5⟩
theorem pres_iff {P : List PR} (hP : PRk P) (L : List Bool) (z : Int) : liveR (pres P L) z = true ↔ 0 < z ∧ ∃ u v, liveR L u = true ∧ liveR L v = true ∧ u ≤ v ∧ comR P u v = z := by
  constructor
  · intro h
    have h1 := liveR_rng h
    obtain ⟨x, hx⟩ : ∃ x, (pres P L)[(z - 1).toNat]? = some x := ⟨_, List.getElem?_eq_getElem (by omega)⟩
    have hz : z = (((z - 1).toNat : Nat) : Int) + 1 := by omega
    rw [liveR_at hz hx] at h
    obtain ⟨u, v, h2, h3, h4, h5⟩ := (pres_at hx).1 h
    exact ⟨by omega, u, v, h2, h3, h4, by omega⟩
  · rintro ⟨h0, u, v, h2, h3, h4, h5⟩
    have hc := com_rng hP u v
    obtain ⟨x, hx⟩ : ∃ x, (pres P L)[(z - 1).toNat]? = some x := ⟨_, List.getElem?_eq_getElem (by rw [pres_len]; omega)⟩
    have hz : z = (((z - 1).toNat : Nat) : Int) + 1 := by omega
    rw [liveR_at hz hx]
    exact (pres_at hx).2 ⟨u, v, h2, h3, h4, by omega⟩
theorem numL_live (bs : List Bool) (z : Int) : z ∈ numL bs ↔ liveR bs z = true := by
  rw [(numL_all bs).2.2]
  constructor
  · rintro ⟨j, hj, rfl⟩; exact liveR_at rfl hj
  · intro h
    have h1 := liveR_rng h
    obtain ⟨x, hx⟩ : ∃ x, bs[(z - 1).toNat]? = some x := ⟨_, List.getElem?_eq_getElem (by omega)⟩
    have hz : z = (((z - 1).toNat : Nat) : Int) + 1 := by omega
    rw [liveR_at hz hx] at h
    subst h
    exact ⟨_, hx, hz⟩
end Go.V
/-! ## Hw -/
namespace Go.Proofs.YtbeacjcmdijdmaaGreat
open Go Go.V
set_option maxRecDepth 8192 in
theorem rlive_spec {g w : World} {L : List HP} (cap : Int) (P : List PR) (a : Option Addr) (c : Nat) (B : List Bool) (b : Option Addr) (d : Nat) (n : Int) (hB : B.length ≤ 1000) (hS : St g (Sh 4 1 (bos B) b d :: L) w) :
    Sp Tryz.prog 149 [.agg #[.int .i64 cap, .slice a (List.length (enP P)) c, .slice b (List.length (bos B)) d], .int .i64 n] w (fun v w' => v = .bool (liveR B n) ∧ St g (Sh 4 1 (bos B) b d :: L) w') := by
  refine Sp.enter Tryz.func149 rfl (by kernel_rfl) (by kernel_rfl) ?_
  have _ := hB
  refine WC.seq <| WC.region ?_
  have hbl := bos_len B
  refine WL.box rfl rfl #[.int .i64 cap, .slice a (List.length (enP P)) c, .slice b (List.length (bos B)) d] hS rfl rfl (fun b1 w hS => ?_)
  refine WL.r 1 rfl <| WL.nil <| WC.seq <| WC.region <| WL.r 3 rfl ?_
  by_cases cg1 : 1 ≤ n
  · refine WL.reb 7 (.bool true) (congrArg Value.bool (decide_eq_true cg1)) <| WL.ung rfl rfl rfl <| WL.r 1 rfl <| WL.ung rfl rfl rfl <| WL.r 1 rfl <| WL.ung rfl rfl rfl <| WL.run 1 [.slice b (List.length (bos B)) d] rfl (by exact hS.ld 0 rfl rfl) ?_
    refine WL.ung rfl rfl rfl <| WL.r 1 rfl <| WL.ung rfl rfl rfl <| WL.r 3 rfl ?_
    by_cases cg2 : n ≤ (List.length (bos B) : Int)
    · refine WL.reb 14 (.bool true) (congrArg Value.bool (decide_eq_true cg2)) <| WL.ung rfl rfl rfl <| WL.r 1 rfl <| WL.ung rfl rfl rfl <| WL.run 1 [.slice b (List.length (bos B)) d] rfl (by exact hS.ld 0 rfl rfl) ?_
      refine WL.ung rfl rfl rfl <| WL.r 1 rfl <| WL.ung rfl rfl rfl <| WL.r 1 rfl <| WL.nw 18 rfl (w64 (by omega)) ?_
      refine WL.ung rfl rfl rfl ?_
      obtain ⟨x, hx⟩ : ∃ x, B[(n - 1).toNat]? = some x := ⟨_, List.getElem?_eq_getElem (by omega)⟩
      refine WL.ix rfl rfl (i := n - 1) ((n - 1).toNat) el_33 rfl rfl (by omega) (by omega) (hS.rdS 1 rfl (bos_at hx)).1 ?_
      refine WL.ung rfl rfl rfl <| WL.run 3 [.bool x] rfl (by exact (hS.rdS 1 rfl (bos_at hx)).2 0 _ rfl) ?_
      refine WL.nil ?_
      as_aux_lemma =>
      refine WC.ret ?_
      refine ⟨[.bool x], rfl, ?_⟩
      replace hS := (hS.sel 1 [] rfl)
      first | exact ⟨congrArg Value.bool (liveR_at (by omega) hx).symm, hS⟩ | exact ⟨congrArg Value.bool (liveR_no (by omega)).symm, hS⟩
    · refine WL.reb 14 (.bool false) (congrArg Value.bool (decide_eq_false cg2)) <| WL.skp rfl rfl rfl rfl <| WL.skp rfl rfl rfl rfl <| WL.skp rfl rfl rfl rfl <| WL.skp rfl rfl rfl rfl <| WL.skp rfl rfl rfl rfl <| WL.skp rfl rfl rfl rfl <| WL.r 2 rfl <| WL.nil ?_
      as_aux_lemma =>
      refine WC.ret ?_
      refine ⟨[.bool false], rfl, ?_⟩
      replace hS := (hS.sel 1 [] rfl)
      first | exact ⟨congrArg Value.bool (liveR_at (by omega) hx).symm, hS⟩ | exact ⟨congrArg Value.bool (liveR_no (by omega)).symm, hS⟩
  · refine WL.reb 7 (.bool false) (congrArg Value.bool (decide_eq_false cg1)) <| WL.skp rfl rfl rfl rfl <| WL.skp rfl rfl rfl rfl <| WL.skp rfl rfl rfl rfl <| WL.skp rfl rfl rfl rfl <| WL.skp rfl rfl rfl rfl <| WL.r 2 rfl <| WL.skp rfl rfl rfl rfl <| WL.skp rfl rfl rfl rfl <| WL.skp rfl rfl rfl rfl <| WL.skp rfl rfl rfl rfl <| WL.skp rfl rfl rfl rfl ?_
    refine WL.skp rfl rfl rfl rfl <| WL.r 2 rfl <| WL.nil ?_
    as_aux_lemma =>
    refine WC.ret ?_
    refine ⟨[.bool false], rfl, ?_⟩
    replace hS := (hS.sel 1 [] rfl)
    first | exact ⟨congrArg Value.bool (liveR_at (by omega) hx).symm, hS⟩ | exact ⟨congrArg Value.bool (liveR_no (by omega)).symm, hS⟩
set_option maxRecDepth 8192 in
theorem above_spec {g w : World} {L : List HP} (cap : Int) (P : List PR) (a : Option Addr) (c : Nat) (B : List Bool) (b : Option Addr) (d : Nat) (n : Int) (hP : PRk P) (hl : P.length ≤ 1000) (hS : St g (Sh 56 1 (enP P) a c :: Shs prF P :: L) w) :
    Sp Tryz.prog 199 [.agg #[.int .i64 cap, .slice a (List.length (enP P)) c, .slice b (List.length (bos B)) d], .int .i64 n] w (fun v w' => ∃ (a2 : Option Addr) (c2 : Nat), v = .slice a2 (List.length (bos (up P n))) c2 ∧ St g (Own 4 1 (bos (up P n)) a2 c2 :: Sh 56 1 (enP P) a c :: Shs prF P :: L) w') := by
  refine Sp.enter Tryz.func199 rfl (by kernel_rfl) (by kernel_rfl) ?_
  have _ := hl
  refine WC.seq <| WC.region <| WL.box rfl rfl #[.int .i64 cap, .slice a (List.length (enP P)) c, .slice b (List.length (bos B)) d] hS rfl rfl (fun b1 w hS => ?_)
  refine WL.r 1 rfl <| WL.nil <| WC.seq <| WC.region ?_
  have hel := enP_len P
  refine WL.run 3 [.slice a (List.length (enP P)) c] rfl (by exact hS.ld 0 rfl rfl) ?_
  refine WL.make rfl rfl (v := (List.length (enP P) : Int)) (v' := (List.length (enP P) : Int)) (P.length) (P.length) el_33 hS rfl (by omega) rfl (by omega) (by omega) (Rm.of (by omega) (by decide)) (fun b2 w hS => ?_)
  replace hS := hS.n4 L (a0 := Own 4 1 (List.replicate (List.length P) [.bool false]) (some ⟨b2, 0, none⟩) (List.length P)) (a1 := cel b1 #[.int .i64 cap, .slice a (List.length (enP P)) c, .slice b (List.length (bos B)) d] 40) rfl
  refine WL.r 1 rfl <| WL.nil <| WC.seq <| WC.seq <| WC.region ?_
  rw [bos_rep] at hS
  replace hS := hS.n4 L (a0 := Own 4 1 (bos (List.replicate (List.length P) false)) (some ⟨b2, 0, none⟩) (List.length P)) rfl
  refine WL.r 2 rfl <| WL.rG 6 rfl (fun j => ?_)
  refine WL.prop 19 rfl (band (dd _) (dd _)) <| WL.nil <| WC.cut [2, 4, 5] (fun vs w => ∃ (bs : List Bool), vs = [.pointer (some ⟨b1, 0, none⟩), .slice none 0 0, .slice (some ⟨b2, 0, none⟩) (List.length P) (List.length P)] ∧ St g (Own 4 1 (bos bs) (some ⟨b2, 0, none⟩) (List.length P) :: cel b1 #[.int .i64 cap, .slice a (List.length (enP P)) c, .slice b (List.length (bos B)) d] 40 :: Sh 56 1 (enP P) a c :: Shs prF P :: L) w ∧ (Abv P n (P.length - 1) [] bs)) ?_ ?_
  · refine WC.ifP rfl (fun cd1 => ?_) (fun cd1 => ?_)
    · refine WC.region <| WL.r 3 rfl <| WL.nw 22 rfl (w64 (by omega)) ?_
      have h0 : (List.replicate P.length false)[(n - 1).toNat]? = some false := by rw [List.getElem?_replicate, if_pos (by omega)]
      refine WL.ix rfl rfl (i := n - 1) ((n - 1).toNat) el_33 rfl rfl (by omega) (by omega) (hS.rdO 0 rfl (bos_at h0)).1 ?_
      refine WL.stE rfl rfl rfl 0 ((n - 1).toNat) 0 [.bool false] (bos ((List.replicate P.length false).set (n - 1).toNat true)) hS rfl (bos_at h0) rfl rfl rfl rfl rfl (bos_set _ _ _) (fun w hS => ?_)
      replace hS := hS.n4 L (a0 := Own 4 1 (bos ((List.replicate (List.length P) false).set (n - 1).toNat true)) (some ⟨b2, 0, none⟩) (List.length P)) rfl
      refine WL.nil ?_
      exact ⟨(List.replicate P.length false).set (n - 1).toNat true, rfl, hS, (abv_1 cd1)⟩
    · refine WC.skip ?_
      exact ⟨List.replicate P.length false, rfl, hS, (abv_0 cd1)⟩
  clear hS; rintro _ w j ⟨bs, rfl, hS, hA⟩
  as_aux_lemma =>
  refine WC.seq <| WC.seq <| WC.region <| WL.r 3 rfl <| WL.nw 26 rfl (w64 (by omega)) ?_
  refine WL.r 1 rfl <| WL.nil <| WC.block <| WC.loop [2, 4, 5, 6] (fun kM vs w => ∃ (i : Int) (bs : List Bool), vs = [.pointer (some ⟨b1, 0, none⟩), .slice none 0 0, .slice (some ⟨b2, 0, none⟩) (List.length P) (List.length P), .int .i64 i] ∧ St g (Own 4 1 (bos bs) (some ⟨b2, 0, none⟩) (List.length P) :: cel b1 #[.int .i64 cap, .slice a (List.length (enP P)) c, .slice b (List.length (bos B)) d] 40 :: Sh 56 1 (enP P) a c :: Shs prF P :: L) w ∧ (-1 ≤ i ∧ i < P.length) ∧ (Abv P n i [] bs) ∧ ((i + 1).toNat) = kM) ((((List.length P : Int) - 1) + 1).toNat) ⟨(P.length : Int) - 1, bs, rfl, hS, (by omega), (hA), rfl⟩ ?_
  clear hS; rintro _ _ w j ⟨i, bs, rfl, hS, hi, hA, rfl⟩
  refine WC.seq <| WC.seq <| WC.region <| WL.r 2 rfl <| WL.nil <| WC.ifP rfl (fun cd1 => ?_) (fun cd1 => ?_)
  · refine WC.skip <| WC.seq <| WC.cut [2, 4, 5, 6, 27, 28] (fun vs w => ∃ (bt : List Bool), vs = [.pointer (some ⟨b1, 0, none⟩), .slice none 0 0, .slice (some ⟨b2, 0, none⟩) (List.length P) (List.length P), .int .i64 i, .int .i64 i, .bool (decide (0 ≤ i))] ∧ St g (Own 4 1 (bos bt) (some ⟨b2, 0, none⟩) (List.length P) :: cel b1 #[.int .i64 cap, .slice a (List.length (enP P)) c, .slice b (List.length (bos B)) d] 40 :: Sh 56 1 (enP P) a c :: Shs prF P :: L) w ∧ (Abv P n (i - 1) [] bt)) ?_ ?_
    · refine WC.block <| WC.seq <| WC.region ?_
      obtain ⟨k, hk⟩ : ∃ k : Nat, i = (k : Int) := ⟨i.toNat, by omega⟩; obtain ⟨r, hr⟩ : ∃ r, P[k]? = some r := ⟨_, List.getElem?_eq_getElem (by omega)⟩; have hrl := (hP k r hr).1; have hru := (hP k r hr).2; have hrp := i64s_len r.ps
      refine WL.r 1 rfl <| WL.nil ?_
      as_aux_lemma =>
      refine WC.block <| WC.loop [2, 4, 5, 6, 7, 27, 28] (fun kM vs w => ∃ (m : Nat) (bt : List Bool), vs = [.pointer (some ⟨b1, 0, none⟩), .slice none 0 0, .slice (some ⟨b2, 0, none⟩) (List.length P) (List.length P), .int .i64 i, .int .i64 (m : Int), .int .i64 i, .bool (decide (0 ≤ i))] ∧ St g (Own 4 1 (bos bt) (some ⟨b2, 0, none⟩) (List.length P) :: cel b1 #[.int .i64 cap, .slice a (List.length (enP P)) c, .slice b (List.length (bos B)) d] 40 :: Sh 56 1 (enP P) a c :: Shs prF P :: L) w ∧ (m ≤ r.ps.length) ∧ (Abv P n i (r.ps.take m) bt) ∧ (r.ps.length - m) = kM) ((List.length r.ps) - 0) ⟨0, bs, rfl, hS, (Nat.zero_le _), (hA), rfl⟩ ?_
      clear hS; rintro _ _ w j ⟨m, bt, rfl, hS, hm, hB, rfl⟩
      refine WC.seq <| WC.seq <| WC.region <| WL.r 2 rfl ?_
      have hbl := hB.1; have hbo := bos_len bt; obtain ⟨x, hx⟩ : ∃ x, bt[k]? = some x := ⟨_, List.getElem?_eq_getElem (by omega)⟩
      refine WL.ix rfl rfl (i := i) (k) el_33 rfl rfl (by omega) (by omega) (hS.rdO 0 rfl (bos_at hx)).1 ?_
      refine WL.run 2 [.bool x] rfl (by exact (hS.rdO 0 rfl (bos_at hx)).2 0 _ rfl) ?_
      by_cases cg1 : x = true
      · refine WL.reb 35 (.bool true) (congrArg Value.bool cg1) <| WL.ung rfl rfl rfl <| WL.r 1 rfl <| WL.ung rfl rfl rfl <| WL.r 1 rfl <| WL.ung rfl rfl rfl <| WL.run 1 [.slice a (List.length (enP P)) c] rfl (by exact hS.ld 1 rfl rfl) ?_
        refine WL.ung rfl rfl rfl <| WL.r 1 rfl <| WL.ung rfl rfl rfl <| WL.ix rfl rfl (i := i) (k) el_38 rfl rfl (by omega) (by omega) (hS.rdS 2 rfl (enP_at hr)).1 ?_
        refine WL.ung rfl rfl rfl <| WL.run 1 [.slice r.a (List.length (i64s r.ps)) r.c] rfl (by exact (hS.rdS 2 rfl (enP_at hr)).2 0 _ rfl) ?_
        refine WL.ung rfl rfl rfl <| WL.r 1 rfl <| WL.ung rfl rfl rfl <| WL.r 2 rfl <| WL.nil ?_
        as_aux_lemma =>
        refine WC.ifP rfl (fun cd2 => ?_) (fun cd2 => ?_)
        · refine WC.skip <| WC.seq <| WC.block <| WC.region ?_
          replace hS : St g (Sh 3 1 (i64s r.ps) r.a r.c :: Own 4 1 (bos bt) (some ⟨b2, 0, none⟩) (List.length P) :: cel b1 #[.int .i64 cap, .slice a (List.length (enP P)) c, .slice b (List.length (bos B)) d] 40 :: Sh 56 1 (enP P) a c :: Shs prF P :: L) w := hS.shsGet 3 rfl (List.mem_of_getElem? hr)
          refine WL.run 4 [.slice a (List.length (enP P)) c] rfl (by exact hS.ld 2 rfl rfl) ?_
          refine WL.ix rfl rfl (i := i) (k) el_38 rfl rfl (by omega) (by omega) (hS.rdS 3 rfl (enP_at hr)).1 ?_
          refine WL.run 2 [.slice r.a (List.length (i64s r.ps)) r.c] rfl (by exact (hS.rdS 3 rfl (enP_at hr)).2 0 _ rfl) ?_
          obtain ⟨u, hu⟩ : ∃ u, r.ps[m]? = some u := ⟨_, List.getElem?_eq_getElem (by omega)⟩; have hub := hru u (List.mem_of_getElem? hu); obtain ⟨y, hy⟩ : ∃ y, bt[(u - 1).toNat]? = some y := ⟨_, List.getElem?_eq_getElem (by omega)⟩
          refine WL.ix rfl rfl (i := (m : Int)) (m) el_56 rfl rfl (by omega) (by omega) (hS.rdS 0 rfl (i64s_at hu)).1 ?_
          refine WL.run 2 [.int .i64 u] rfl (by exact (hS.rdS 0 rfl (i64s_at hu)).2 0 _ rfl) ?_
          refine WL.nw 56 rfl (w64 (by omega)) ?_
          refine WL.ix rfl rfl (i := u - 1) ((u - 1).toNat) el_33 rfl rfl (by omega) (by omega) (hS.rdO 1 rfl (bos_at hy)).1 ?_
          refine WL.stE rfl rfl rfl 1 ((u - 1).toNat) 0 [.bool y] (bos (bt.set (u - 1).toNat true)) hS rfl (bos_at hy) rfl rfl rfl rfl rfl (bos_set _ _ _) (fun w hS => ?_)
          replace hS := hS.n5 L (a0 := Sh 3 1 (i64s r.ps) r.a r.c) (a1 := Own 4 1 (bos (bt.set (u - 1).toNat true)) (some ⟨b2, 0, none⟩) (List.length P)) rfl
          refine WL.nil <| WC.region <| WL.r 2 rfl <| WL.nw 46 rfl (w64 (by omega)) ?_
          refine WL.r 1 rfl <| WL.nil ?_
          exact ⟨_, by omega, m + 1, bt.set (u - 1).toNat true, rfl, (hS.sel 1 [] rfl), (by omega), (abv_set' hk hP hB hr ((abv_i' hk hP hB hr hx).1 (by simpa using cg1)) hu), rfl⟩
        · refine WC.exit ?_
          exact ⟨bt, rfl, hS, (abv_next' hk hB hr (.inl (List.take_of_length_le (by omega))))⟩
      · refine WL.reb 35 (.bool false) (congrArg Value.bool (Bool.eq_false_iff.2 cg1)) <| WL.skp rfl rfl rfl rfl <| WL.skp rfl rfl rfl rfl <| WL.skp rfl rfl rfl rfl <| WL.skp rfl rfl rfl rfl <| WL.skp rfl rfl rfl rfl <| WL.skp rfl rfl rfl rfl <| WL.skp rfl rfl rfl rfl <| WL.skp rfl rfl rfl rfl <| WL.r 1 rfl <| WL.nil <| WC.ifF rfl rfl ?_
        refine WC.exit ?_
        exact ⟨bt, rfl, hS, (abv_next' hk hB hr (.inr (fun h => cg1 ((abv_i' hk hP hB hr hx).2 h))))⟩
    clear hS; rintro _ w j ⟨bt, rfl, hS, hB⟩
    refine WC.region <| WL.r 2 rfl <| WL.nw 30 rfl (w64 (by omega)) ?_
    refine WL.r 1 rfl <| WL.nil ?_
    exact ⟨_, by omega, i - 1, bt, rfl, hS, (by omega), (hB), rfl⟩
  · refine WC.exit <| WC.seq <| WC.region ?_
    have e1 := abv_end (i := i) (by omega) hA; subst e1; have hul := up_len P n; have hbl := bos_len (up P n)
    refine WL.reb 5 (.slice (some ⟨b2, 0, none⟩) (bos (up P n)).length P.length) (congrArg (fun m => Value.slice (some ⟨b2, 0, none⟩) m P.length) (by omega)) ?_
    refine WL.r 2 rfl <| WL.nil <| WC.ret ?_
    refine ⟨[.slice (some ⟨b2, 0, none⟩) (List.length (bos (up P n))) (List.length P)], rfl, ?_⟩
    replace hS := (hS.sel 2 [0] rfl)
    exact ⟨_, _, rfl, hS⟩
set_option maxRecDepth 8192 in
theorem numbers_spec {g w : World} {L : List HP} (bs : List Bool) (a : Option Addr) (c : Nat) (hl : bs.length ≤ 1000000) (hS : St g (Sh 4 1 (bos bs) a c :: L) w) :
    Sp Tryz.prog 157 [.slice a (List.length (bos bs)) c] w (fun v w' => ∃ (a2 : Option Addr) (c2 : Nat), v = .slice a2 (List.length (i64s (numL bs))) c2 ∧ St g (Own 3 1 (i64s (numL bs)) a2 c2 :: Sh 4 1 (bos bs) a c :: L) w') := by
  refine Sp.enter Tryz.func157 rfl (by kernel_rfl) (by kernel_rfl) ?_
  have _ := hl
  refine WC.seq <| WC.region <| WL.r 1 rfl <| WL.nil <| WC.seq <| WC.region <| WL.r 1 rfl <| WL.nil <| WC.seq <| WC.seq <| WC.region ?_
  have hbl := bos_len bs
  refine WL.r 1 rfl <| WL.nil <| WC.block ?_
  replace hS := hS.nil_ 3 1
  refine WC.loop [0, 2, 3, 4] (fun kM vs w => ∃ (k : Nat) (out : List Int) (u : Option Addr) (d : Nat), vs = [.slice a (List.length (bos bs)) c, .slice none 0 0, .slice u (List.length (i64s out)) d, .int .i64 (k : Int)] ∧ St g (Own 3 1 (i64s out) u d :: Sh 4 1 (bos bs) a c :: L) w ∧ (k ≤ bs.length) ∧ (out = numL (bs.take k)) ∧ (out.length ≤ k) ∧ (bs.length - k) = kM) ((List.length bs) - 0) ⟨0, [], none, 0, rfl, hS, (Nat.zero_le _), (rfl), (Nat.le_refl _), rfl⟩ ?_
  clear hS; rintro _ _ w j ⟨k, out, u, d, rfl, hS, hk, ho, hol, rfl⟩
  refine WC.seq <| WC.seq <| WC.region ?_
  have hbl := bos_len bs
  refine WL.r 4 rfl <| WL.nil ?_
  as_aux_lemma =>
  refine WC.ifP rfl (fun cd1 => ?_) (fun cd1 => ?_)
  · refine WC.skip <| WC.seq <| WC.block <| WC.seq <| WC.region <| WL.r 2 rfl ?_
    obtain ⟨x, hx⟩ : ∃ x, bs[k]? = some x := ⟨_, List.getElem?_eq_getElem (by omega)⟩; have hol2 := i64s_len out
    refine WL.ix rfl rfl (i := (k : Int)) (k) el_33 rfl rfl (by omega) (by omega) (hS.rdS 1 rfl (bos_at hx)).1 ?_
    refine WL.run 1 [.bool x] rfl (by exact (hS.rdS 1 rfl (bos_at hx)).2 0 _ rfl) ?_
    refine WL.nil <| WC.if_ rfl (fun cd2 => ?_) (fun cd2 => ?_)
    · refine WC.region <| WL.r 3 rfl <| WL.nw 17 rfl (w64 (by omega)) ?_
      refine WL.lit rfl rfl (i64s [(k : Int) + 1]) el_56 hS (by exact ⟨rfl, rfl⟩) (i64s_ok _) rfl (Nat.le_of_ble_eq_true rfl) (fun b1 w hS => ?_)
      refine WL.app rfl rfl 1 (i64s (out ++ [(k : Int) + 1])) el_56 hS rfl (hS.srcO 0 rfl) (i64s_app _ _).symm (Rm.of (by first | omega | (simp <;> omega)) (by decide)) rfl rfl (fun a1 c1 w hS => ?_)
      replace hS := hS.n3 L (a0 := Own 3 1 (i64s [(k : Int) + 1]) (some ⟨b1, 0, none⟩) (List.length (i64s [(k : Int) + 1]))) (a1 := Own 3 1 (i64s (out ++ [(k : Int) + 1])) a1 c1) rfl
      refine WL.r 1 rfl <| WL.nil <| WC.region <| WL.r 2 rfl <| WL.nw 10 rfl (w64 (by omega)) ?_
      refine WL.r 1 rfl <| WL.nil ?_
      exact ⟨_, by omega, k + 1, out ++ [(k : Int) + 1], a1, c1, rfl, (hS.sel 1 [] rfl), (by omega), (by rw [ho, numL_snoc hx, if_pos cd2]), (by simp; omega), rfl⟩
    · refine WC.skip <| WC.region <| WL.r 2 rfl <| WL.nw 10 rfl (w64 (by omega)) ?_
      refine WL.r 1 rfl <| WL.nil ?_
      exact ⟨_, by omega, k + 1, out, u, d, rfl, hS, (by omega), (by rw [ho, numL_snoc hx, if_neg (by rw [cd2]; decide), List.append_nil]), (by omega), rfl⟩
  · refine WC.exit <| WC.seq <| WC.region <| WL.r 2 rfl <| WL.nil <| WC.ret ?_
    refine ⟨[.slice u (List.length (i64s out)) d], rfl, ?_⟩
    have e1 := ho.trans (congrArg numL (List.take_of_length_le (i := k) (l := bs) (by omega))); subst e1; exact ⟨_, _, rfl, hS⟩
set_option maxRecDepth 8192 in
theorem common_spec {g w : World} {L : List HP} (cap : Int) (P : List PR) (a : Option Addr) (c : Nat) (B : List Bool) (b : Option Addr) (d : Nat) (x y : Int) (hP : PRk P) (hl : P.length ≤ 1000) (hS : St g (Sh 56 1 (enP P) a c :: Shs prF P :: L) w) :
    Sp Tryz.prog 150 [.agg #[.int .i64 cap, .slice a (List.length (enP P)) c, .slice b (List.length (bos B)) d], .int .i64 x, .int .i64 y] w (fun v w' => v = .int .i64 (comR P x y) ∧ St g (Sh 56 1 (enP P) a c :: Shs prF P :: L) w') := by
  refine Sp.enter Tryz.func150 rfl (by kernel_rfl) (by kernel_rfl) ?_
  have _ := hl
  have _ := hP
  refine WC.seq <| WC.region <| WL.box rfl rfl #[.int .i64 cap, .slice a (List.length (enP P)) c, .slice b (List.length (bos B)) d] hS rfl rfl (fun b1 w hS => ?_)
  refine WL.r 1 rfl <| WL.nil <| WC.seq <| WC.plan [([0, 1, 3, 4], some (2, [3, 4])), ([], some (5, [])), ([6, 7], none)] (by kernel_rfl) (by kernel_rfl) ?_
  refine WQ.ldF rfl rfl 0 hS rfl rfl ag_40 <| WQ.r 1 rfl <| WQ.ldF rfl rfl 0 hS rfl rfl ag_40 <| WQ.r 1 rfl <| WQ.nil ?_
  intro m1
  replace hS := hS.drewN m1; generalize hwm1 : World.drewN _ _ = w at *; clear hwm1
  refine WL.call rfl rfl (above_spec (cap := cap) (P := P) (a := a) (c := c) (B := B) (b := b) (d := d) (n := x) (hP := (by assumption)) (hl := (by omega)) (hS := (hS.sel 3 [1, 1, 0] rfl))) rfl ?_
  clear hS; rintro _ w ⟨a1, c1, rfl, hS⟩
  replace hS := hS.n4 L (a0 := Own 4 1 (bos (up P x)) a1 c1) (a3 := cel b1 #[.int .i64 cap, .slice a (List.length (enP P)) c, .slice b (List.length (bos B)) d] 40) rfl
  refine WL.nil ?_
  refine ⟨by exact ⟨RQ.ldF rfl rfl 3 hS rfl rfl ag_40 rfl rfl, RQ.pure rfl rfl rfl rfl⟩, ?_⟩
  refine WQ.nil ?_
  intro m2
  replace hS := hS.drewN m2; generalize hwm2 : World.drewN _ _ = w at *; clear hwm2
  refine WL.call rfl rfl (above_spec (cap := cap) (P := P) (a := a) (c := c) (B := B) (b := b) (d := d) (n := y) (hP := (by assumption)) (hl := (by omega)) (hS := (hS.sel 3 [1, 1, 0] rfl))) rfl ?_
  clear hS; rintro _ w ⟨a2, c2, rfl, hS⟩
  replace hS := hS.n5 L (a0 := Own 4 1 (bos (up P y)) a2 c2) rfl
  refine WL.nil ?_
  refine ⟨by exact trivial, ?_⟩
  refine WQ.r 2 rfl <| WQ.nil ?_
  intro m3
  replace hS := hS.drewN m3; generalize hwm3 : World.drewN _ _ = w at *; clear hwm3
  as_aux_lemma =>
  refine WC.seq <| WC.seq <| WC.region ?_
  have hu1 := up_len P x; have hu2 := up_len P y; have hb1 := bos_len (up P x); have hb2 := bos_len (up P y)
  refine WL.r 3 rfl <| WL.nw 18 rfl (w64 (by omega)) ?_
  refine WL.r 1 rfl <| WL.nil <| WC.block <| WC.loop [7, 8, 9] (fun kM vs w => ∃ (i : Int), vs = [.slice a1 (List.length (bos (up P x))) c1, .slice a2 (List.length (bos (up P y))) c2, .int .i64 i] ∧ St g (Own 4 1 (bos (up P y)) a2 c2 :: Sh 56 1 (enP P) a c :: Shs prF P :: Own 4 1 (bos (up P x)) a1 c1 :: cel b1 #[.int .i64 cap, .slice a (List.length (enP P)) c, .slice b (List.length (bos B)) d] 40 :: L) w ∧ (-1 ≤ i ∧ i < P.length) ∧ (∀ j : Nat, i < j → (up P x)[j]? = some true → (up P y)[j]? = some true → False) ∧ ((i + 1).toNat) = kM) ((((List.length (bos (up P x)) : Int) - 1) + 1).toNat) ⟨((bos (up P x)).length : Int) - 1, rfl, hS, (by omega), (fun j hj h1 _ => by have := (List.getElem?_eq_some_iff.1 h1).1; omega), rfl⟩ ?_
  clear hS; rintro _ _ w j ⟨i, rfl, hS, hi, hn, rfl⟩
  refine WC.seq <| WC.seq <| WC.region ?_
  have hu1 := up_len P x; have hu2 := up_len P y; have hb1 := bos_len (up P x); have hb2 := bos_len (up P y)
  refine WL.r 2 rfl <| WL.nil <| WC.ifP rfl (fun cd1 => ?_) (fun cd1 => ?_)
  · refine WC.skip <| WC.seq <| WC.block <| WC.seq <| WC.region ?_
    obtain ⟨k, hk⟩ : ∃ k : Nat, i = (k : Int) := ⟨i.toNat, by omega⟩; obtain ⟨u, hu⟩ : ∃ u, (up P x)[k]? = some u := ⟨_, List.getElem?_eq_getElem (by omega)⟩; obtain ⟨v, hv⟩ : ∃ v, (up P y)[k]? = some v := ⟨_, List.getElem?_eq_getElem (by omega)⟩
    refine WL.r 2 rfl <| WL.ix rfl rfl (i := i) (k) el_33 rfl rfl (by omega) (by omega) (hS.rdO 3 rfl (bos_at hu)).1 ?_
    refine WL.run 2 [.bool u] rfl (by exact (hS.rdO 3 rfl (bos_at hu)).2 0 _ rfl) ?_
    by_cases cg1 : u = true
    · refine WL.reb 27 (.bool true) (congrArg Value.bool cg1) <| WL.ung rfl rfl rfl <| WL.r 1 rfl <| WL.ung rfl rfl rfl <| WL.r 1 rfl <| WL.ung rfl rfl rfl <| WL.ix rfl rfl (i := i) (k) el_33 rfl rfl (by omega) (by omega) (hS.rdO 0 rfl (bos_at hv)).1 ?_
      refine WL.ung rfl rfl rfl <| WL.run 2 [.bool v] rfl (by exact (hS.rdO 0 rfl (bos_at hv)).2 0 _ rfl) ?_
      refine WL.nil ?_
      as_aux_lemma =>
      refine WC.if_ rfl (fun cd2 => ?_) (fun cd2 => ?_)
      · refine WC.seq <| WC.region <| WL.r 2 rfl <| WL.nw 34 rfl (w64 (by omega)) ?_
        refine WL.r 1 rfl <| WL.nil <| WC.ret ?_
        refine ⟨[.int .i64 (i + 1)], rfl, ?_⟩
        replace hS := (hS.sel 5 [1, 1] rfl)
        exact ⟨congrArg (Value.int .i64) ((com_at (i := k) (by rw [hu, cg1]) (by rw [hv, cd2]) (fun j hj => hn j (by omega))).trans (by omega)).symm, hS⟩
      · refine WC.skip <| WC.region <| WL.r 2 rfl <| WL.nw 22 rfl (w64 (by omega)) ?_
        refine WL.r 1 rfl <| WL.nil ?_
        exact ⟨_, by omega, i - 1, rfl, hS, (by omega), (fun j hj h1 h2 => by
          rcases Int.lt_or_le i j with h | h
          · exact hn j h h1 h2
          · have : j = k := by omega
            subst this
            rw [hu] at h1; rw [hv] at h2; cases h1; cases h2
            first | exact absurd cd2 (by decide) | exact cg1 rfl), rfl⟩
    · refine WL.reb 27 (.bool false) (congrArg Value.bool (Bool.eq_false_iff.2 cg1)) <| WL.skp rfl rfl rfl rfl <| WL.skp rfl rfl rfl rfl <| WL.skp rfl rfl rfl rfl <| WL.skp rfl rfl rfl rfl <| WL.r 1 rfl <| WL.nil ?_
      as_aux_lemma =>
      refine WC.ifF rfl rfl <| WC.skip <| WC.region <| WL.r 2 rfl <| WL.nw 22 rfl (w64 (by omega)) ?_
      refine WL.r 1 rfl <| WL.nil ?_
      exact ⟨_, by omega, i - 1, rfl, hS, (by omega), (fun j hj h1 h2 => by
        rcases Int.lt_or_le i j with h | h
        · exact hn j h h1 h2
        · have : j = k := by omega
          subst this
          rw [hu] at h1; rw [hv] at h2; cases h1; cases h2
          first | exact absurd cd2 (by decide) | exact cg1 rfl), rfl⟩
  · refine WC.exit <| WC.seq <| WC.region <| WL.r 1 rfl <| WL.nil <| WC.ret ?_
    refine ⟨[.int .i64 0], rfl, ?_⟩
    replace hS := (hS.sel 5 [1, 1] rfl)
    exact ⟨congrArg (Value.int .i64) (com_no (fun j => hn j (by omega))).symm, hS⟩
set_option maxRecDepth 8192 in
theorem present_spec {g w : World} {L : List HP} (cap : Int) (P : List PR) (a : Option Addr) (c : Nat) (B : List Bool) (b : Option Addr) (d : Nat) (hP : PRk P) (hl : P.length ≤ 1000) (hB : B.length = P.length) (hS : St g (Sh 56 1 (enP P) a c :: Shs prF P :: Sh 4 1 (bos B) b d :: L) w) :
    Sp Tryz.prog 158 [.agg #[.int .i64 cap, .slice a (List.length (enP P)) c, .slice b (List.length (bos B)) d]] w (fun v w' => ∃ (a2 : Option Addr) (c2 : Nat), v = .slice a2 (List.length (bos (pres P B))) c2 ∧ St g (Own 4 1 (bos (pres P B)) a2 c2 :: Sh 56 1 (enP P) a c :: Shs prF P :: Sh 4 1 (bos B) b d :: L) w') := by
  refine Sp.enter Tryz.func158 rfl (by kernel_rfl) (by kernel_rfl) ?_
  have _ := hB
  have _ := hl
  refine WC.seq <| WC.region <| WL.box rfl rfl #[.int .i64 cap, .slice a (List.length (enP P)) c, .slice b (List.length (bos B)) d] hS rfl rfl (fun b1 w hS => ?_)
  refine WL.r 1 rfl <| WL.nil <| WC.seq <| WC.region ?_
  have hel := enP_len P; have hbB := bos_len B
  refine WL.run 3 [.slice a (List.length (enP P)) c] rfl (by exact hS.ld 0 rfl rfl) ?_
  refine WL.make rfl rfl (v := (List.length (enP P) : Int)) (v' := (List.length (enP P) : Int)) (P.length) (P.length) el_33 hS rfl (by omega) rfl (by omega) (by omega) (Rm.of (by omega) (by decide)) (fun b2 w hS => ?_)
  replace hS := hS.n5 L (a0 := Own 4 1 (List.replicate (List.length P) [.bool false]) (some ⟨b2, 0, none⟩) (List.length P)) (a1 := cel b1 #[.int .i64 cap, .slice a (List.length (enP P)) c, .slice b (List.length (bos B)) d] 40) rfl
  refine WL.r 1 rfl <| WL.nil <| WC.seq <| WC.seq <| WC.region <| WL.r 1 rfl <| WL.nil <| WC.block ?_
  rw [bos_rep] at hS
  replace hS := hS.n5 L (a0 := Own 4 1 (bos (List.replicate (List.length P) false)) (some ⟨b2, 0, none⟩) (List.length P)) rfl
  refine WC.loop [1, 2, 3, 4] (fun kM vs w => ∃ (x : Int) (bs : List Bool), vs = [.pointer (some ⟨b1, 0, none⟩), .slice none 0 0, .slice (some ⟨b2, 0, none⟩) (List.length P) (List.length P), .int .i64 x] ∧ St g (Own 4 1 (bos bs) (some ⟨b2, 0, none⟩) (List.length P) :: cel b1 #[.int .i64 cap, .slice a (List.length (enP P)) c, .slice b (List.length (bos B)) d] 40 :: Sh 56 1 (enP P) a c :: Shs prF P :: Sh 4 1 (bos B) b d :: L) w ∧ (1 ≤ x ∧ x ≤ P.length + 1) ∧ (Prs P B x x bs) ∧ (((P.length : Int) + 1 - x).toNat) = kM) (((List.length P : Int) + 1 - 1).toNat) ⟨1, List.replicate P.length false, rfl, hS, (by omega), (prs_0), rfl⟩ ?_
  clear hS; rintro _ _ w j ⟨x, bs, rfl, hS, hx, hA, rfl⟩
  refine WC.seq <| WC.seq <| WC.region <| WL.r 4 rfl <| WL.nil ?_
  as_aux_lemma =>
  refine WC.ifP rfl (fun cd1 => ?_) (fun cd1 => ?_)
  · refine WC.skip <| WC.seq <| WC.cut [1, 2, 3, 4, 11, 12, 13, 14] (fun vs w => ∃ (bt : List Bool), vs = [.pointer (some ⟨b1, 0, none⟩), .slice none 0 0, .slice (some ⟨b2, 0, none⟩) (List.length P) (List.length P), .int .i64 x, .int .i64 x, .slice (some ⟨b2, 0, none⟩) (List.length P) (List.length P), .int .i64 (List.length P : Int), .bool (decide (x ≤ (List.length P : Int)))] ∧ St g (Own 4 1 (bos bt) (some ⟨b2, 0, none⟩) (List.length P) :: cel b1 #[.int .i64 cap, .slice a (List.length (enP P)) c, .slice b (List.length (bos B)) d] 40 :: Sh 56 1 (enP P) a c :: Shs prF P :: Sh 4 1 (bos B) b d :: L) w ∧ (Prs P B (x + 1) (x + 1) bt)) ?_ ?_
    · refine WC.block <| WC.seq <| WC.region <| WL.r 2 rfl <| WL.nil <| WC.block <| WC.loop [1, 2, 3, 4, 5, 11, 12, 13, 14, 17] (fun kM vs w => ∃ (y : Int) (bt : List Bool), vs = [.pointer (some ⟨b1, 0, none⟩), .slice none 0 0, .slice (some ⟨b2, 0, none⟩) (List.length P) (List.length P), .int .i64 x, .int .i64 y, .int .i64 x, .slice (some ⟨b2, 0, none⟩) (List.length P) (List.length P), .int .i64 (List.length P : Int), .bool (decide (x ≤ (List.length P : Int))), .int .i64 x] ∧ St g (Own 4 1 (bos bt) (some ⟨b2, 0, none⟩) (List.length P) :: cel b1 #[.int .i64 cap, .slice a (List.length (enP P)) c, .slice b (List.length (bos B)) d] 40 :: Sh 56 1 (enP P) a c :: Shs prF P :: Sh 4 1 (bos B) b d :: L) w ∧ (x ≤ y ∧ y ≤ P.length + 1) ∧ (Prs P B x y bt) ∧ (((P.length : Int) + 1 - y).toNat) = kM) (((List.length P : Int) + 1 - x).toNat) ⟨x, bs, rfl, hS, (by omega), (hA), rfl⟩ ?_
      clear hS; rintro _ _ w j ⟨y, bt, rfl, hS, hy, hA, rfl⟩
      refine WC.seq <| WC.seq <| WC.region <| WL.r 5 rfl ?_
      by_cases cg1 : y ≤ (List.length P : Int)
      · refine WL.reb 22 (.bool true) (congrArg Value.bool (decide_eq_true cg1)) <| WL.ung rfl rfl rfl <| WL.r 1 rfl <| WL.ung rfl rfl rfl <| WL.run 1 [.slice b (List.length (bos B)) d] rfl (by exact hS.ld 1 rfl rfl) ?_
        refine WL.ung rfl rfl rfl <| WL.r 1 rfl <| WL.ung rfl rfl rfl <| WL.r 1 rfl <| WL.nw 26 rfl (w64 (by omega)) ?_
        refine WL.ung rfl rfl rfl ?_
        obtain ⟨u, hu⟩ : ∃ u, B[(x - 1).toNat]? = some u := ⟨_, List.getElem?_eq_getElem (by omega)⟩
        refine WL.ix rfl rfl (i := x - 1) ((x - 1).toNat) el_33 rfl rfl (by omega) (by omega) (hS.rdS 4 rfl (bos_at hu)).1 ?_
        refine WL.ung rfl rfl rfl <| WL.run 2 [.bool u] rfl (by exact (hS.rdS 4 rfl (bos_at hu)).2 0 _ rfl) ?_
        refine WL.nil ?_
        as_aux_lemma =>
        refine WC.if_ rfl (fun cd2 => ?_) (fun cd2 => ?_)
        · refine WC.skip <| WC.seq <| WC.block <| WC.seq <| WC.region <| WL.run 4 [.slice b (List.length (bos B)) d] rfl (by exact hS.ld 1 rfl rfl) ?_
          refine WL.nw 35 rfl (w64 (by omega)) ?_
          obtain ⟨v, hv⟩ : ∃ v, B[(y - 1).toNat]? = some v := ⟨_, List.getElem?_eq_getElem (by omega)⟩
          refine WL.ix rfl rfl (i := y - 1) ((y - 1).toNat) el_33 rfl rfl (by omega) (by omega) (hS.rdS 4 rfl (bos_at hv)).1 ?_
          refine WL.run 1 [.bool v] rfl (by exact (hS.rdS 4 rfl (bos_at hv)).2 0 _ rfl) ?_
          refine WL.nil <| WC.if_ rfl (fun cd3 => ?_) (fun cd3 => ?_)
          · refine WC.seq <| WC.region ?_
            have hcr := com_rng hP x y; have hbl := hA.1; have hbl2 := bos_len bt
            refine WL.ldF rfl rfl 1 hS rfl rfl ag_40 <| WL.r 2 rfl <| WL.call rfl rfl (common_spec (cap := cap) (P := P) (a := a) (c := c) (B := B) (b := b) (d := d) (x := x) (y := y) (hP := (by assumption)) (hl := (by omega)) (hS := (hS.sel 4 [2, 2, 0, 0] rfl))) rfl ?_
            clear hS; rintro _ w ⟨rfl, hS⟩
            replace hS := hS.n5 L rfl
            refine WL.r 1 rfl <| WL.nil <| WC.seq <| WC.region <| WL.r 2 rfl <| WL.nil ?_
            as_aux_lemma =>
            refine WC.ifP rfl (fun cd4 => ?_) (fun cd4 => ?_)
            · refine WC.region <| WL.r 3 rfl <| WL.nw 46 rfl (w64 (by omega)) ?_
              obtain ⟨z, hw⟩ : ∃ z, bt[(comR P x y - 1).toNat]? = some z := ⟨_, List.getElem?_eq_getElem (by omega)⟩
              refine WL.ix rfl rfl (i := (comR P x y) - 1) ((comR P x y - 1).toNat) el_33 rfl rfl (by omega) (by omega) (hS.rdO 2 rfl (bos_at hw)).1 ?_
              refine WL.stE rfl rfl rfl 2 ((comR P x y - 1).toNat) 0 [.bool z] (bos (bt.set (comR P x y - 1).toNat true)) hS rfl (bos_at hw) rfl rfl rfl rfl rfl (bos_set _ _ _) (fun w hS => ?_)
              replace hS := hS.n5 L (a2 := Own 4 1 (bos (bt.set (comR P x y - 1).toNat true)) (some ⟨b2, 0, none⟩) (List.length P)) rfl
              refine WL.nil <| WC.region <| WL.r 2 rfl <| WL.nw 31 rfl (w64 (by omega)) ?_
              refine WL.r 1 rfl <| WL.nil ?_
              exact ⟨_, by omega, y + 1, bt.set (comR P x y - 1).toNat true, rfl, (hS.sel 4 [2, 2, 0, 0] rfl), (by omega), (prs_set hP hA (by rw [liveR_at (by omega) hu]; assumption) (by rw [liveR_at (by omega) hv]; assumption) hy.1 cd4), rfl⟩
            · refine WC.skip <| WC.region <| WL.r 2 rfl <| WL.nw 31 rfl (w64 (by omega)) ?_
              refine WL.r 1 rfl <| WL.nil ?_
              exact ⟨_, by omega, y + 1, bt, rfl, (hS.sel 4 [2, 2, 0, 0] rfl), (by omega), (prs_skip hA (.inr cd4)), rfl⟩
          · refine WC.skip <| WC.region <| WL.r 2 rfl <| WL.nw 31 rfl (w64 (by omega)) ?_
            refine WL.r 1 rfl <| WL.nil ?_
            exact ⟨_, by omega, y + 1, bt, rfl, hS, (by omega), (prs_skip hA (.inl (by rw [liveR_at (by omega) hv]; simpa using cd3))), rfl⟩
        · refine WC.exit ?_
          exact ⟨bt, rfl, hS, (prs_next hA (.inr (by rw [liveR_at (by omega) hu]; simpa using cd2)))⟩
      · refine WL.reb 22 (.bool false) (congrArg Value.bool (decide_eq_false cg1)) <| WL.skp rfl rfl rfl rfl <| WL.skp rfl rfl rfl rfl <| WL.skp rfl rfl rfl rfl <| WL.skp rfl rfl rfl rfl <| WL.skp rfl rfl rfl rfl <| WL.skp rfl rfl rfl rfl <| WL.r 1 rfl <| WL.nil ?_
        as_aux_lemma =>
        refine WC.ifF rfl rfl <| WC.exit ?_
        exact ⟨bt, rfl, hS, (prs_next hA (.inl (by omega)))⟩
    clear hS; rintro _ w j ⟨bt, rfl, hS, hC⟩
    refine WC.region <| WL.r 2 rfl <| WL.nw 16 rfl (w64 (by omega)) ?_
    refine WL.r 1 rfl <| WL.nil ?_
    exact ⟨_, by omega, x + 1, bt, rfl, hS, (by omega), (hC), rfl⟩
  · refine WC.exit <| WC.seq <| WC.region ?_
    have e1 := prs_end hA (by omega)
    refine WL.r 2 rfl <| WL.nil <| WC.ret ?_
    refine ⟨[.slice (some ⟨b2, 0, none⟩) (List.length P) (List.length P)], rfl, ?_⟩
    replace hS := (hS.sel 2 [0] rfl)
    subst e1; exact ⟨_, _, congrArg (fun m => Value.slice (some ⟨b2, 0, none⟩) m P.length) (by rw [bos_len, pres_len]), hS⟩
set_option maxRecDepth 8192 in
theorem rvers_spec {g w : World} {L : List HP} (cap : Int) (P : List PR) (a : Option Addr) (c : Nat) (B : List Bool) (b : Option Addr) (d : Nat) (hP : PRk P) (hl : P.length ≤ 1000) (hB : B.length = P.length) (hS : St g (Sh 56 1 (enP P) a c :: Shs prF P :: Sh 4 1 (bos B) b d :: L) w) :
    Sp Tryz.prog 89 [.agg #[.int .i64 cap, .slice a (List.length (enP P)) c, .slice b (List.length (bos B)) d]] w (fun v w' => ∃ (a2 : Option Addr) (c2 : Nat), v = .slice a2 (List.length (i64s (numL (pres P B)))) c2 ∧ St g (Own 3 1 (i64s (numL (pres P B))) a2 c2 :: Sh 56 1 (enP P) a c :: Shs prF P :: Sh 4 1 (bos B) b d :: L) w') := by
  refine Sp.enter Tryz.func89 rfl (by kernel_rfl) (by kernel_rfl) ?_
  have _ := hB
  have _ := hl
  have _ := hP
  refine WC.seq <| WC.region ?_
  have hpl := pres_len P B
  refine WL.box rfl rfl #[.int .i64 cap, .slice a (List.length (enP P)) c, .slice b (List.length (bos B)) d] hS rfl rfl (fun b1 w hS => ?_)
  refine WL.r 1 rfl <| WL.nil <| WC.seq <| WC.region <| WL.ldF rfl rfl 0 hS rfl rfl ag_40 <| WL.call rfl rfl (present_spec (cap := cap) (P := P) (a := a) (c := c) (B := B) (b := b) (d := d) (hP := (by assumption)) (hl := (by omega)) (hB := (by assumption)) (hS := (hS.sel 4 [1, 1, 1, 0] rfl))) rfl ?_
  clear hS; rintro _ w ⟨a1, c1, rfl, hS⟩
  replace hS := hS.n5 L (a0 := Own 4 1 (bos (pres P B)) a1 c1) (a4 := cel b1 #[.int .i64 cap, .slice a (List.length (enP P)) c, .slice b (List.length (bos B)) d] 40) rfl
  replace hS := (hS.at_ 0 rfl).share
  replace hS := hS.n5 L (a0 := Sh 4 1 (bos (pres P B)) a1 c1) rfl
  refine WL.call rfl rfl (numbers_spec (bs := pres P B) (a := a1) (c := c1) (hl := (by omega)) (hS := hS)) rfl ?_
  clear hS; rintro _ w ⟨a2, c2, rfl, hS⟩
  replace hS := hS.n6 L (a0 := Own 3 1 (i64s (numL (pres P B))) a2 c2) rfl
  refine WL.r 1 rfl <| WL.nil <| WC.ret ?_
  refine ⟨[.slice a2 (List.length (i64s (numL (pres P B)))) c2], rfl, ?_⟩
  replace hS := (hS.sel 6 [0, 1, 1, 1] rfl)
  exact ⟨_, _, rfl, hS⟩
end Go.Proofs.YtbeacjcmdijdmaaGreat
/-! ## Hq -/
namespace Go.V
open Go Go.RowKit
noncomputable def faultR (P : List PR) (B : List Bool) (cap : Int) (ps : List Int) : Int :=
  if ¬ okPs ps then 1 else if ¬ (∀ z ∈ ps, liveR B z = true) then 4 else if cap ≤ (numL (pres P B)).length then 2 else 0
noncomputable def baseR (P : List PR) (B : List Bool) (x y : Int) : Int := if liveR B x = true ∧ liveR B y = true then comR P x y else 0
structure RA (xs : List VN) (P : List PR) (B : List Bool) (la : Int) : Prop where
  pok : PRk P
  len : (P.length : Int) = la
  lenB : B.length = P.length
  live : ∀ z, liveG xs z = liveR B z
  ab : ∀ z, preG xs z = true → ∀ u, u ∈ abG xs z ↔ (preG xs u = true ∧ Rch P z u)
  cov : ∀ x y, liveG xs x = true → liveG xs y = true → ∀ z, Rch P x z → Rch P y z → ∃ z', z ≤ z' ∧ preG xs z' = true ∧ Rch P x z' ∧ Rch P y z'
theorem RA.nil : RA [] [] [] 0 := ⟨PRk.nil, rfl, rfl, fun z => by
  rw [liveR_no (by simp; omega)]; rfl, fun z h => (by cases h), fun x y h => (by cases h)⟩
theorem RA.base {xs : List VN} {P : List PR} {B : List Bool} {la : Int} {q : Nat} (h : RA xs P B la) (hG : GOk xs q) (x y : Int) : baseG xs x y = baseR P B x y := by
  unfold baseG baseR
  rw [← h.live x, ← h.live y]
  by_cases hl : liveG xs x = true ∧ liveG xs y = true
  · rw [if_pos hl, if_pos hl]
    have hx := h.ab x (live_pre hl.1)
    have hy := h.ab y (live_pre hl.2)
    rcases com_cases h.pok x y with ⟨h1, h2⟩ | ⟨h1, h2, h3⟩
    · rw [h1]
      exact gcm_no fun z hz hz2 => h2 z ((hx z).1 hz).2 ((hy z).1 hz2).2
    · obtain ⟨z', k1, k2, k3, k4⟩ := h.cov x y hl.1 hl.2 _ h1 h2
      have k5 := h3 z' k3 k4
      have k6 : z' = comR P x y := by omega
      rw [k6] at k2
      exact gcm_is (hG.ascA x) ((hx _).2 ⟨k2, h1⟩) ((hy _).2 ⟨k2, h2⟩) fun z hz hz2 => h3 z ((hx z).1 hz).2 ((hy z).1 hz2).2
  · rw [if_neg hl, if_neg hl]
theorem RA.pre {xs : List VN} {P : List PR} {B : List Bool} {la : Int} {q : Nat} (h : RA xs P B la) (hG : GOk xs q) (hK : KO xs) (z : Int) : preG xs z = liveR (pres P B) z := by
  have hb : ∀ x y, liveG xs x = true → liveG xs y = true → comR P x y = baseG xs x y := fun x y hx hy => by
    rw [h.base hG, baseR, if_pos ⟨by rw [← h.live]; exact hx, by rw [← h.live]; exact hy⟩]
  rw [Bool.eq_iff_iff, pres_iff h.pok]
  constructor
  · intro hz
    have hz0 : 0 < z := by
      obtain ⟨x, hx, e⟩ := pre_iff.1 hz
      have := (hG.rng x hx).1; omega
    rcases hK z hz with hl | ⟨_, x, y, hx, hy, hxy, he⟩
    · exact ⟨hz0, z, z, by rw [← h.live]; exact hl, by rw [← h.live]; exact hl, Int.le_refl _, by rw [hb z z hl hl, base_self hG hl]⟩
    · exact ⟨hz0, x, y, by rw [← h.live]; exact hx, by rw [← h.live]; exact hy, by omega, by rw [hb x y hx hy, he]⟩
  · rintro ⟨h0, u, v, hu, hv, _, he⟩
    rw [← h.live] at hu hv
    rw [hb u v hu hv] at he
    subst he
    exact base_pre hG (by omega)
theorem RA.vers {xs : List VN} {P : List PR} {B : List Bool} {la : Int} {q : Nat} {ss : List Int} (h : RA xs P B la) (hG : GOk xs q) (hK : KO xs) (hs : Keys xs ss) : ss = numL (pres P B) :=
  asc_ext hs.asc (numL_all _).1 fun z => by rw [hs.mem, numL_live, h.pre hG hK]
theorem RA.num {xs : List VN} {P : List PR} {B : List Bool} {la : Int} {q : Nat} (h : RA xs P B la) (hG : GOk xs q) (hK : KO xs) : (numL (pres P B)).length = xs.length := by
  obtain ⟨ss, hs⟩ := keys_ex hG.uniq
  rw [← h.vers hG hK hs, keys_len hs.perm]
theorem RA.anc {xs : List VN} {P : List PR} {B : List Bool} {la : Int} {q : Nat} {ls : List Int} (h : RA xs P B la) (hG : GOk xs q) (hK : KO xs) {z : Int} (ha : Asc ls) (hm : ∀ u, u ∈ ls ↔ (liveR (pres P B) z = true ∧ liveR (pres P B) u = true ∧ Rch P z u)) : ls = abG xs z :=
  asc_ext ha (hG.ascA z) fun u => by
    rw [hm, ← h.pre hG hK, ← h.pre hG hK]
    cases hz : preG xs z with
    | true => rw [h.ab z hz]; simp
    | false =>
      have : abG xs z = [] := by
        cases hf : vfind xs z with
        | none => exact (g_out hf).2.2
        | some x => rw [(g_in hf).2.1] at hz; cases hz
      rw [this]; simp
theorem liveR_app {B : List Bool} (z : Int) : liveR (B ++ [true]) z = (liveR B z || decide (z = (B.length : Int) + 1)) := by
  by_cases h : 1 ≤ z ∧ z ≤ B.length
  · obtain ⟨x, hx⟩ : ∃ x, B[(z - 1).toNat]? = some x := ⟨_, List.getElem?_eq_getElem (by omega)⟩
    rw [liveR_at (by omega) hx, liveR_at (k := (z - 1).toNat) (by omega) (by rw [List.getElem?_append_left (by omega)]; exact hx), decide_eq_false (by omega), Bool.or_false]
  · rw [liveR_no h, Bool.false_or]
    by_cases h2 : z = (B.length : Int) + 1
    · rw [liveR_at (k := B.length) (x := true) h2 (by simp), decide_eq_true h2]
    · rw [liveR_no (by simp; omega), decide_eq_false h2]
theorem liveR_set {B : List Bool} {n : Int} (hn : liveR B n = true) (z : Int) : liveR (B.set (n - 1).toNat false) z = (liveR B z && decide (z ≠ n)) := by
  have hr := liveR_rng hn
  by_cases h : 1 ≤ z ∧ z ≤ B.length
  · obtain ⟨x, hx⟩ : ∃ x, B[(z - 1).toNat]? = some x := ⟨_, List.getElem?_eq_getElem (by omega)⟩
    rw [liveR_at (by omega) hx]
    by_cases he : z = n
    · subst he
      rw [liveR_at (k := (z - 1).toNat) (x := false) (by omega) (by rw [List.getElem?_set, if_pos rfl, if_pos (by omega)]), decide_eq_false (by simp), Bool.and_false]
    · rw [liveR_at (k := (z - 1).toNat) (x := x) (by omega) (by rw [List.getElem?_set, if_neg (by omega)]; exact hx), decide_eq_true he, Bool.and_true]
  · rw [liveR_no h, liveR_no (by rw [List.length_set]; exact h)]; rfl
theorem RA.add {xs xs2 : List VN} {P : List PR} {B : List Bool} {cap la la2 : Int} {q : Nat} {r : PR} (h : RA xs P B la) (hI : GI xs q cap la) (ha : AddP xs cap la r.ps xs2 la2) (h0 : addE xs cap r.ps = 0) : RA xs2 (P ++ [r]) (B ++ [true]) la2 := by
  obtain ⟨e1, _, ab, _, hab, hv⟩ := ha.vw hI.le h0
  obtain ⟨hok, hlv, _⟩ := addE_inv h0
  have hlen := h.len
  have hlb := h.lenB
  have hps : ∀ u ∈ r.ps, 1 ≤ u ∧ u ≤ (P.length : Int) := fun u hu => by
    have := hlv u hu
    rw [h.live] at this
    have := liveR_rng this
    omega
  have hP2 : PRk (P ++ [r]) := h.pok.snoc hok.1 hps
  have hnew : ∀ u, Rch (P ++ [r]) (la + 1) u ↔ u = la + 1 ∨ ∃ p ∈ r.ps, Rch P p u := fun u => by rw [← hlen]; exact rch_new hP2
  have hold : ∀ z u, z ≤ la → (Rch (P ++ [r]) z u ↔ Rch P z u) := fun z u hz => ⟨fun k => k.old hP2 (by omega), fun k => k.mono⟩
  have hle : ∀ z, preG xs z = true → z ≤ la := fun z hz => by
    obtain ⟨x, hx, e⟩ := pre_iff.1 hz
    rw [← e]; exact hI.le x hx
  have hpre : ∀ z, preG xs2 z = true ↔ preG xs z = true ∨ z = la + 1 := fun z => by
    rw [pre_vw, pre_vw, hv]
    by_cases hz : z = la + 1
    · rw [if_pos hz]; simp [hz]
    · rw [if_neg hz]; simp [hz]
  have hlive : ∀ z, liveG xs2 z = (liveG xs z || decide (z = la + 1)) := fun z => by
    rw [live_vw, live_vw, hv]
    by_cases hz : z = la + 1
    · rw [if_pos hz, decide_eq_true hz, Bool.or_true]; rfl
    · rw [if_neg hz, decide_eq_false hz, Bool.or_false]
  have habn : abG xs2 (la + 1) = ab := by rw [ab_vw, hv, if_pos rfl]; rfl
  have habo : ∀ z, z ≠ la + 1 → abG xs2 z = abG xs z := fun z hz => by rw [ab_vw, ab_vw, hv, if_neg hz]
  refine ⟨hP2, by simp; omega, by simp; omega, fun z => ?_, fun z hz u => ?_, fun x y hx hy z hxz hyz => ?_⟩
  · rw [hlive, h.live, liveR_app]
    have : (z = la + 1) ↔ (z = (B.length : Int) + 1) := by omega
    simp [this]
  · by_cases hzn : z = la + 1
    · subst hzn
      rw [habn, hab, hnew, hpre]
      simp only [newAb, List.mem_append, List.mem_singleton, List.mem_flatMap]
      constructor
      · rintro (rfl | ⟨p, hp, hu⟩)
        · exact ⟨.inr rfl, .inl rfl⟩
        · have h3 := (h.ab p (live_pre (hlv p hp)) u).1 hu
          exact ⟨.inl h3.1, .inr ⟨p, hp, h3.2⟩⟩
      · rintro ⟨h1, rfl | ⟨p, hp, hu⟩⟩
        · exact .inl rfl
        · refine .inr ⟨p, hp, (h.ab p (live_pre (hlv p hp)) u).2 ⟨?_, hu⟩⟩
          rcases h1 with h1 | h1
          · exact h1
          · have := hu.rng h.pok
            have := hps p hp
            omega
    · have hz1 : preG xs z = true := ((hpre z).1 hz).resolve_right hzn
      have hzl := hle z hz1
      rw [habo z hzn, h.ab z hz1, hold z u hzl, hpre]
      constructor
      · rintro ⟨h1, h2⟩; exact ⟨.inl h1, h2⟩
      · rintro ⟨h1, h2⟩
        refine ⟨h1.resolve_right fun e => ?_, h2⟩
        have := h2.rng h.pok; omega
  · -- what two versions have in common
    have key : ∀ x y, liveG xs x = true ∨ x = la + 1 → liveG xs y = true → ∀ z, Rch (P ++ [r]) x z → Rch (P ++ [r]) y z → ∃ z', z ≤ z' ∧ preG xs2 z' = true ∧ Rch (P ++ [r]) x z' ∧ Rch (P ++ [r]) y z' := fun x y hx hy z hxz hyz => by
      have hyl := hle y (live_pre hy)
      rw [hold y z hyl] at hyz
      rcases hx with hx | rfl
      · rw [hold x z (hle x (live_pre hx))] at hxz
        obtain ⟨z', k1, k2, k3, k4⟩ := h.cov x y hx hy z hxz hyz
        exact ⟨z', k1, (hpre z').2 (.inl k2), k3.mono, k4.mono⟩
      · rcases (hnew z).1 hxz with rfl | ⟨p, hp, hk⟩
        · have := hyz.rng h.pok; omega
        · obtain ⟨z', k1, k2, k3, k4⟩ := h.cov p y (hlv p hp) hy z hk hyz
          exact ⟨z', k1, (hpre z').2 (.inl k2), (hnew z').2 (.inr ⟨p, hp, k3⟩), k4.mono⟩
    have hx2 : liveG xs x = true ∨ x = la + 1 := by rw [hlive] at hx; simpa using hx
    have hy2 : liveG xs y = true ∨ y = la + 1 := by rw [hlive] at hy; simpa using hy
    rcases hy2 with hy2 | rfl
    · exact key x y hx2 hy2 z hxz hyz
    · rcases hx2 with hx2 | rfl
      · obtain ⟨z', k1, k2, k3, k4⟩ := key (la + 1) x (.inr rfl) hx2 z hyz hxz
        exact ⟨z', k1, k2, k4, k3⟩
      · have := hxz.rng hP2
        exact ⟨la + 1, by omega, (hpre _).2 (.inr rfl), (hnew _).2 (.inl rfl), (hnew _).2 (.inl rfl)⟩
theorem RA.rel {xs xs2 : List VN} {P : List PR} {B : List Bool} {la n : Int} {q : Nat} (h : RA xs P B la) (hG : GOk xs q) (hR : RelQ xs n xs2) (hl : liveG xs n = true) : RA xs2 P (B.set (n - 1).toNat false) la := by
  replace hR : RelP xs n xs2 := by
    rcases hR with ⟨_, hR⟩ | ⟨h9, _⟩
    · exact hR
    · rw [hl] at h9; cases h9
  have hlive := (hR.facts hG).1
  obtain ⟨xs1, N, h1, h2, h3⟩ := hR
  have hG1 : GF (vw xs1) := by rw [show vw xs1 = dead (vw xs) n from funext h1]; exact hG.gf.dead n
  have hpos : ∀ z, (vw xs1 z).isSome = true → 1 ≤ z := fun z hz => by rw [h1, dead_iss] at hz; exact hG.pos z hz
  obtain ⟨k1, k2, k3⟩ := keep_base hG1 hpos h2 h3
  have hab1 : ∀ z, abG xs1 z = abG xs z := fun z => by
    rw [ab_vw, ab_vw, h1, dead]
    by_cases hz : z = n
    · rw [if_pos hz]; cases vw xs z <;> rfl
    · rw [if_neg hz]
  have hpre1 : ∀ z, preG xs1 z = preG xs z := fun z => by rw [pre_vw, pre_vw, h1, dead_iss]
  have hpre : ∀ z, preG xs2 z = true ↔ N z = true ∧ preG xs z = true := fun z => by
    rw [pre_vw, h3, ← hpre1, pre_vw]
    unfold keep
    cases hN : N z with
    | true => rw [if_pos rfl]; cases vw xs1 z <;> simp
    | false => rw [if_neg (by decide)]; simp
  have hlive1 : ∀ z, liveG xs1 z = (liveG xs z && decide (z ≠ n)) := fun z => by rw [← k1, hlive]
  refine ⟨h.pok, h.len, by rw [List.length_set]; exact h.lenB, fun z => ?_, fun z hz u => ?_, fun x y hx hy z hxz hyz => ?_⟩
  · rw [hlive, h.live, liveR_set (by rw [← h.live]; exact hl)]
  · have hz1 := (hpre z).1 hz
    rw [k2 z hz1.1, hab1, List.mem_filter, h.ab z hz1.2, hpre]
    constructor
    · rintro ⟨⟨a1, a2⟩, a3⟩; exact ⟨⟨a3, a1⟩, a2⟩
    · rintro ⟨⟨a3, a1⟩, a2⟩; exact ⟨⟨a1, a2⟩, a3⟩
  · have hx1 : liveG xs1 x = true := by rw [← k1]; exact hx
    have hy1 : liveG xs1 y = true := by rw [← k1]; exact hy
    have hx0 : liveG xs x = true := by rw [hlive1] at hx1; simp at hx1; exact hx1.1
    have hy0 : liveG xs y = true := by rw [hlive1] at hy1; simp at hy1; exact hy1.1
    rcases com_cases h.pok x y with ⟨_, e2⟩ | ⟨e1, e2, e3⟩
    · exact absurd hyz (e2 z hxz)
    · refine ⟨comR P x y, e3 z hxz hyz, ?_, e1, e2⟩
      have hcp := (e1.rng h.pok).1
      have hb : baseG xs x y = comR P x y := by rw [h.base hG, baseR, if_pos ⟨by rw [← h.live]; exact hx0, by rw [← h.live]; exact hy0⟩]
      have hb1 : baseG xs1 x y = comR P x y := by rw [← hb, baseG_pos hx1 hy1, baseG_pos hx0 hy0, hab1, hab1]
      refine (hpre _).2 ⟨(h2 _).2 ?_, ?_⟩
      · rcases Int.lt_trichotomy x y with hxy | hxy | hxy
        · exact .inr ⟨by omega, x, y, hx1, hy1, hxy, hb1⟩
        · subst hxy
          rw [base_self hG hx0] at hb
          rw [← hb]; exact .inl hx1
        · refine .inr ⟨by omega, y, x, hy1, hx1, hxy, ?_⟩
          rw [baseG_pos hy1 hx1, hab1, hab1, ← baseG_pos hy0 hx0, base_comm hG]; exact hb
      · rw [← hb]; exact base_pre hG (by rw [hb]; omega)
end Go.V
/-! ## Hx -/
namespace Go.Proofs.YtbeacjcmdijdmaaGreat
open Go Go.V
theorem okPs_two {ps : List Int} {x y : Int} (h0 : ps[0]? = some x) (h1 : ps[1]? = some y) (hl : ps.length = 2) : ¬ okPs ps ↔ x = y := by
  match ps, hl, h0, h1 with
  | [u, v], _, h0, h1 =>
    simp at h0 h1; subst h0; subst h1
    constructor
    · intro h
      exact Decidable.by_contra fun hne => h ⟨by simp, fun a b e => by cases e; exact hne⟩
    · rintro rfl h; exact h.2 _ _ rfl rfl
theorem okPs_long {ps : List Int} (h : 2 < ps.length) : ¬ okPs ps := fun k => by have := k.1; omega
theorem okPs_short {ps : List Int} (h : ¬ 2 < ps.length) (h2 : ¬ ps.length = 2) : okPs ps := ⟨by omega, fun x y e => by subst e; simp at h2⟩
theorem fault_1 {P : List PR} {B : List Bool} {cap : Int} {ps : List Int} (h : ¬ okPs ps) : faultR P B cap ps = 1 := if_pos h
theorem fault_4 {P : List PR} {B : List Bool} {cap : Int} {ps : List Int} {z : Int} (h : okPs ps) (hz : z ∈ ps) (hl : liveR B z = false) : faultR P B cap ps = 4 := by
  unfold faultR
  rw [if_neg (fun k => k h), if_pos (fun k => by rw [k z hz] at hl; cases hl)]
theorem fault_2 {P : List PR} {B : List Bool} {cap : Int} {ps : List Int} (h : okPs ps) (hl : ∀ z ∈ ps, liveR B z = true) (hc : cap ≤ (numL (pres P B)).length) : faultR P B cap ps = 2 := by
  unfold faultR
  rw [if_neg (fun k => k h), if_neg (fun k => k hl), if_pos hc]
theorem fault_0 {P : List PR} {B : List Bool} {cap : Int} {ps : List Int} (h : okPs ps) (hl : ∀ z ∈ ps, liveR B z = true) (hc : ¬ cap ≤ (numL (pres P B)).length) : faultR P B cap ps = 0 := by
  unfold faultR
  rw [if_neg (fun k => k h), if_neg (fun k => k hl), if_neg hc]
set_option maxRecDepth 8192 in
theorem fault_spec {g w : World} {L : List HP} (cap : Int) (P : List PR) (a : Option Addr) (c : Nat) (B : List Bool) (b : Option Addr) (d : Nat) (ps : List Int) (e : Option Addr) (f : Nat) (hP : PRk P) (hl : P.length ≤ 1000) (hB : B.length = P.length) (hpl : ps.length ≤ 1000) (hS : St g (Sh 56 1 (enP P) a c :: Shs prF P :: Sh 4 1 (bos B) b d :: Sh 3 1 (i64s ps) e f :: L) w) :
    Sp Tryz.prog 189 [.agg #[.int .i64 cap, .slice a (List.length (enP P)) c, .slice b (List.length (bos B)) d], .slice e (List.length (i64s ps)) f] w (fun v w' => v = .int .i64 (faultR P B cap ps) ∧ St g (Sh 56 1 (enP P) a c :: Shs prF P :: Sh 4 1 (bos B) b d :: Sh 3 1 (i64s ps) e f :: L) w') := by
  refine Sp.enter Tryz.func189 rfl (by kernel_rfl) (by kernel_rfl) ?_
  have _ := hpl
  have _ := hB
  have _ := hl
  have _ := hP
  refine WC.seq <| WC.region ?_
  have hpi := i64s_len ps; have hnl := (numL_all (pres P B)).2.1; have hpr := pres_len P B; have hil := i64s_len (numL (pres P B))
  refine WL.box rfl rfl #[.int .i64 cap, .slice a (List.length (enP P)) c, .slice b (List.length (bos B)) d] hS rfl rfl (fun b1 w hS => ?_)
  refine WL.r 1 rfl <| WL.nil <| WC.seq <| WC.seq <| WC.cut [1, 2, 4, 22] (fun vs w => ∃ (t22 : Bool), vs = [.slice e (List.length (i64s ps)) f, .pointer (some ⟨b1, 0, none⟩), .int .i64 0, .bool t22] ∧ St g (cel b1 #[.int .i64 cap, .slice a (List.length (enP P)) c, .slice b (List.length (bos B)) d] 40 :: Sh 56 1 (enP P) a c :: Shs prF P :: Sh 4 1 (bos B) b d :: Sh 3 1 (i64s ps) e f :: L) w ∧ (t22 = true ↔ ¬ okPs ps)) ?_ ?_
  · refine WC.plan [([0, 1, 2, 3, 4, 5, 6, 7, 8, 11, 9, 12, 10, 13, 14, 15, 16], none)] (by kernel_rfl) (by kernel_rfl) ?_
    refine WQ.r 4 rfl ?_
    by_cases cg1 : 2 < (List.length (i64s ps) : Int)
    · refine WQ.reb 9 (.bool true) (congrArg Value.bool (decide_eq_true cg1)) <| WQ.skp rfl rfl rfl rfl <| WQ.skp rfl rfl rfl rfl <| WQ.skp rfl rfl rfl rfl <| WQ.skp rfl rfl rfl rfl <| WQ.skU rfl rfl rfl <| WQ.skU rfl rfl rfl <| WQ.skU rfl rfl rfl <| WQ.skU rfl rfl rfl <| WQ.skU rfl rfl rfl <| WQ.skU rfl rfl rfl <| WQ.skU rfl rfl rfl ?_
      refine WQ.skp rfl rfl rfl rfl <| WQ.r 1 rfl <| WQ.nil ?_
      intro m1
      replace hS := hS.drewN m1; generalize hwm1 : World.drewN _ _ = w at *; clear hwm1
      exact ⟨true, rfl, hS, (⟨fun _ => okPs_long (by omega), fun _ => rfl⟩)⟩
    · refine WQ.reb 9 (.bool false) (congrArg Value.bool (decide_eq_false cg1)) <| WQ.ung rfl rfl rfl <| WQ.r 1 rfl <| WQ.ung rfl rfl rfl <| WQ.r 1 rfl <| WQ.ung rfl rfl rfl <| WQ.r 1 rfl <| WQ.ung rfl rfl rfl <| WQ.r 1 rfl ?_
      by_cases cg2 : (List.length (i64s ps) : Int) = 2
      · refine WQ.reb 13 (.bool true) (congrArg Value.bool (decide_eq_true cg2)) <| WQ.ung rfl rfl rfl <| WQ.r 1 rfl <| WQ.ung rfl rfl rfl <| WQ.r 1 rfl <| WQ.ung rfl rfl rfl ?_
        obtain ⟨p0, h0⟩ : ∃ u, ps[0]? = some u := ⟨_, List.getElem?_eq_getElem (by omega)⟩; obtain ⟨p1, h1⟩ : ∃ u, ps[1]? = some u := ⟨_, List.getElem?_eq_getElem (by omega)⟩
        refine WQ.ix rfl rfl (i := 0) (0) el_56 rfl rfl (by omega) (by omega) (hS.rdS 4 rfl (i64s_at h0)).1 ?_
        refine WQ.ung rfl rfl rfl <| WQ.ix rfl rfl (i := 1) (1) el_56 rfl rfl (by omega) (by omega) (hS.rdS 4 rfl (i64s_at h1)).1 ?_
        refine WQ.ung rfl rfl rfl <| WQ.run 1 [.int .i64 p0] rfl (by exact (hS.rdS 4 rfl (i64s_at h0)).2 0 _ rfl) ?_
        refine WQ.ung rfl rfl rfl <| WQ.run 1 [.int .i64 p1] rfl (by exact (hS.rdS 4 rfl (i64s_at h1)).2 0 _ rfl) ?_
        refine WQ.ung rfl rfl rfl <| WQ.r 1 rfl <| WQ.ung rfl rfl rfl <| WQ.r 2 rfl <| WQ.nil ?_
        intro m1
        replace hS := hS.drewN m1; generalize hwm1 : World.drewN _ _ = w at *; clear hwm1
        exact ⟨decide (p0 = p1), rfl, hS, (by rw [okPs_two h0 h1 (by omega), decide_eq_true_eq])⟩
      · refine WQ.reb 13 (.bool false) (congrArg Value.bool (decide_eq_false cg2)) <| WQ.skp rfl rfl rfl rfl <| WQ.skp rfl rfl rfl rfl <| WQ.skp rfl rfl rfl rfl <| WQ.skp rfl rfl rfl rfl <| WQ.skp rfl rfl rfl rfl <| WQ.skp rfl rfl rfl rfl <| WQ.skp rfl rfl rfl rfl <| WQ.ung rfl rfl rfl <| WQ.r 2 rfl <| WQ.nil ?_
        intro m1
        replace hS := hS.drewN m1; generalize hwm1 : World.drewN _ _ = w at *; clear hwm1
        exact ⟨false, rfl, hS, (⟨fun h => (by cases h), fun h => absurd (okPs_short (by omega) (by omega)) h⟩)⟩
  clear hS; rintro _ w j ⟨t22, rfl, hS, h22⟩
  refine WC.if_ rfl (fun cd1 => ?_) (fun cd1 => ?_)
  · refine WC.seq <| WC.region <| WL.r 1 rfl <| WL.nil <| WC.ret ?_
    refine ⟨[.int .i64 1], rfl, ?_⟩
    replace hS := (hS.sel 1 [] rfl)
    exact ⟨congrArg (Value.int .i64) (fault_1 (h22.1 cd1)).symm, hS⟩
  · refine WC.skip <| WC.seq <| WC.seq <| WC.region ?_
    have hok : okPs ps := Classical.not_not.1 (fun h => by rw [h22.2 h] at cd1; cases cd1)
    refine WL.r 1 rfl <| WL.nil <| WC.block <| WC.loop [1, 2, 5] (fun kM vs w => ∃ (k : Nat), vs = [.slice e (List.length (i64s ps)) f, .pointer (some ⟨b1, 0, none⟩), .int .i64 (k : Int)] ∧ St g (cel b1 #[.int .i64 cap, .slice a (List.length (enP P)) c, .slice b (List.length (bos B)) d] 40 :: Sh 56 1 (enP P) a c :: Shs prF P :: Sh 4 1 (bos B) b d :: Sh 3 1 (i64s ps) e f :: L) w ∧ (k ≤ ps.length) ∧ (∀ z ∈ ps.take k, liveR B z = true) ∧ (ps.length - k) = kM) ((List.length ps) - 0) ⟨0, rfl, hS, (Nat.zero_le _), (by simp), rfl⟩ ?_
    clear hS; rintro _ _ w j ⟨k, rfl, hS, hk, hlv, rfl⟩
    refine WC.seq <| WC.seq <| WC.region ?_
    have hok : okPs ps := Classical.not_not.1 (fun h => by rw [h22.2 h] at cd1; cases cd1)
    refine WL.r 4 rfl <| WL.nil ?_
    as_aux_lemma =>
    refine WC.ifP rfl (fun cd2 => ?_) (fun cd2 => ?_)
    · refine WC.skip <| WC.seq <| WC.block <| WC.seq <| WC.plan [([0, 1, 2, 3, 4], some (5, [])), ([6], none)] (by kernel_rfl) (by kernel_rfl) ?_
      refine WQ.ldF rfl rfl 0 hS rfl rfl ag_40 <| WQ.r 2 rfl ?_
      obtain ⟨z, hz⟩ : ∃ u, ps[k]? = some u := ⟨_, List.getElem?_eq_getElem (by omega)⟩
      refine WQ.ix rfl rfl (i := (k : Int)) (k) el_56 rfl rfl (by omega) (by omega) (hS.rdS 4 rfl (i64s_at hz)).1 ?_
      refine WQ.run 1 [.int .i64 z] rfl (by exact (hS.rdS 4 rfl (i64s_at hz)).2 0 _ rfl) ?_
      refine WQ.nil ?_
      intro m1
      replace hS := hS.drewN m1; generalize hwm1 : World.drewN _ _ = w at *; clear hwm1
      refine WL.call rfl rfl (rlive_spec (cap := cap) (P := P) (a := a) (c := c) (B := B) (b := b) (d := d) (n := z) (hB := (by omega)) (hS := (hS.sel 4 [3, 0, 0, 0] rfl))) rfl ?_
      clear hS; rintro _ w ⟨rfl, hS⟩
      replace hS := hS.n5 L rfl
      refine WL.nil ?_
      refine ⟨by exact trivial, ?_⟩
      refine WQ.r 1 rfl <| WQ.nil ?_
      intro m2
      replace hS := hS.drewN m2; generalize hwm2 : World.drewN _ _ = w at *; clear hwm2
      refine WC.if_ rfl (fun cd3 => ?_) (fun cd3 => ?_)
      · refine WC.seq <| WC.region <| WL.r 1 rfl <| WL.nil ?_
        as_aux_lemma =>
        refine WC.ret ?_
        refine ⟨[.int .i64 4], rfl, ?_⟩
        replace hS := (hS.sel 4 [2, 2, 0] rfl)
        exact ⟨congrArg (Value.int .i64) (fault_4 hok (List.mem_of_getElem? hz) (by simpa using cd3)).symm, hS⟩
      · refine WC.skip ?_
        as_aux_lemma =>
        refine WC.region <| WL.r 2 rfl <| WL.nw 28 rfl (w64 (by omega)) ?_
        refine WL.r 1 rfl <| WL.nil ?_
        exact ⟨_, by omega, k + 1, rfl, (hS.sel 4 [1, 1, 1, 0] rfl), (by omega), (fun x hx => by
          rw [List.take_add_one, hz] at hx
          rcases List.mem_append.1 hx with hx | hx
          · exact hlv x hx
          · simp at hx; subst hx; simpa using cd3), rfl⟩
    · refine WC.exit <| WC.seq <| WC.seq <| WC.plan [([3, 4], some (0, [3, 4])), ([], some (1, [3, 4])), ([2, 5], none)] (by kernel_rfl) (by kernel_rfl) ?_
      refine WQ.run 2 [.int .i64 cap] rfl (by exact hS.ld 0 rfl rfl) ?_
      refine WQ.nil ?_
      intro m1
      replace hS := hS.drewN m1; generalize hwm1 : World.drewN _ _ = w at *; clear hwm1
      refine WL.ldF rfl rfl 0 hS rfl rfl ag_40 <| WL.nil ?_
      refine ⟨by exact ⟨RQ.pure rfl rfl rfl rfl, RQ.load rfl rfl rfl rfl (hS.ld 0 rfl rfl)⟩, ?_⟩
      refine WQ.nil ?_
      intro m2
      replace hS := hS.drewN m2; generalize hwm2 : World.drewN _ _ = w at *; clear hwm2
      refine WL.call rfl rfl (rvers_spec (cap := cap) (P := P) (a := a) (c := c) (B := B) (b := b) (d := d) (hP := (by assumption)) (hl := (by omega)) (hB := (by assumption)) (hS := (hS.sel 4 [1, 1, 1, 0] rfl))) rfl ?_
      clear hS; rintro _ w ⟨a1, c1, rfl, hS⟩
      replace hS := hS.n6 L (a0 := Own 3 1 (i64s (numL (pres P B))) a1 c1) rfl
      refine WL.nil ?_
      refine ⟨by exact ⟨RQ.pure rfl rfl rfl rfl, RQ.load rfl rfl rfl rfl (hS.ld 4 rfl rfl)⟩, ?_⟩
      refine WQ.r 2 rfl <| WQ.nil ?_
      intro m3
      replace hS := hS.drewN m3; generalize hwm3 : World.drewN _ _ = w at *; clear hwm3
      refine WC.ifP rfl (fun cd3 => ?_) (fun cd3 => ?_)
      · refine WC.seq <| WC.region <| WL.r 1 rfl <| WL.nil ?_
        as_aux_lemma =>
        refine WC.ret ?_
        refine ⟨[.int .i64 2], rfl, ?_⟩
        replace hS := (hS.sel 5 [1, 1, 1] rfl)
        exact ⟨congrArg (Value.int .i64) (fault_2 hok (by rw [List.take_of_length_le (by omega)] at hlv; exact hlv) (by omega)).symm, hS⟩
      · refine WC.skip ?_
        as_aux_lemma =>
        refine WC.seq <| WC.region <| WL.r 1 rfl <| WL.nil <| WC.ret ?_
        refine ⟨[.int .i64 0], rfl, ?_⟩
        replace hS := (hS.sel 5 [1, 1, 1] rfl)
        exact ⟨congrArg (Value.int .i64) (fault_0 hok (by rw [List.take_of_length_le (by omega)] at hlv; exact hlv) (by omega)).symm, hS⟩
set_option maxRecDepth 8192 in
theorem radd_ok {g w : World} {L : List HP} (cap : Int) (P : List PR) (a : Option Addr) (c : Nat) (B : List Bool) (b : Option Addr) (d : Nat) (ps : List Int) (e : Option Addr) (f : Nat) (hP : PRk P) (hl : P.length ≤ 1000) (hB : B.length = P.length) (hpl : ps.length ≤ 1000) (h0 : faultR P B cap ps = 0) (hS : St g (Sh 56 1 (enP P) a c :: Shs prF P :: Sh 4 1 (bos B) b d :: Sh 3 1 (i64s ps) e f :: L) w) :
    Sp Tryz.prog 133 [.agg #[.int .i64 cap, .slice a (List.length (enP P)) c, .slice b (List.length (bos B)) d], .slice e (List.length (i64s ps)) f] w (fun v w' => ∃ (e2 : Option Addr) (f2 : Nat) (a2 : Option Addr) (c2 : Nat) (b2 : Option Addr) (d2 : Nat), v = .tuple #[.agg #[.int .i64 cap, .slice a2 (List.length (enP (P ++ [PR.mk ps e2 f2]))) c2, .slice b2 (List.length (bos (B ++ [true]))) d2], .int .i64 ((List.length P) + 1), .int .i64 0] ∧ St g (Sh 56 1 (enP (P ++ [PR.mk ps e2 f2])) a2 c2 :: Shs prF (P ++ [PR.mk ps e2 f2]) :: Sh 4 1 (bos (B ++ [true])) b2 d2 :: Sh 3 1 (i64s ps) e f :: L) w') := by
  refine Sp.enter Tryz.func133 rfl (by kernel_rfl) (by kernel_rfl) ?_
  have _ := hpl
  have _ := hB
  have _ := hl
  have _ := hP
  refine WC.seq <| WC.region <| WL.box rfl rfl #[.int .i64 cap, .slice a (List.length (enP P)) c, .slice b (List.length (bos B)) d] hS rfl rfl (fun b1 w hS => ?_)
  refine WL.new rfl rfl zv_40 hS (fun b2 w hS => ?_)
  refine WL.r 2 rfl <| WL.nil <| WC.seq <| WC.seq <| WC.region <| WL.ldF rfl rfl 1 hS rfl rfl ag_40 <| WL.r 1 rfl <| WL.call rfl rfl (fault_spec (cap := cap) (P := P) (a := a) (c := c) (B := B) (b := b) (d := d) (ps := ps) (e := e) (f := f) (hP := (by assumption)) (hl := (by omega)) (hB := (by assumption)) (hpl := (by omega)) (hS := (hS.sel 6 [2, 2, 2, 2, 0, 0] rfl))) rfl ?_
  clear hS; rintro _ w ⟨rfl, hS⟩
  replace hS := hS.n6 L (a4 := cel b2 #[.int .i64 0, .slice none 0 0, .slice none 0 0] 40) (a5 := cel b1 #[.int .i64 cap, .slice a (List.length (enP P)) c, .slice b (List.length (bos B)) d] 40) rfl
  refine WL.r 1 rfl <| WL.nil <| WC.seq <| WC.region <| WL.r 2 rfl <| WL.nil <| WC.ifF rfl (decide_eq_false ((fun h => h h0))) <| WC.skip <| WC.seq <| WC.region ?_
  have hel := enP_len P; have hpi := i64s_len ps; have hbl := bos_len B
  refine WL.run 2 [.slice a (List.length (enP P)) c] rfl (by exact hS.ld 5 rfl rfl) ?_
  replace hS := hS.nil_ 56 1
  refine WL.app rfl rfl 0 (enP P) el_38 hS rfl (hS.srcS 1 rfl) (List.nil_append _) (Rm.of (by first | omega | (simp <;> omega)) (by decide)) rfl rfl (fun a1 c1 w hS => ?_)
  replace hS := hS.n7 L (a0 := Own 56 1 (enP P) a1 c1) rfl
  refine WL.r 1 rfl ?_
  replace hS := hS.nil_ 3 1
  refine WL.app rfl rfl 0 (i64s ps) el_56 hS rfl (hS.srcS 5 rfl) (List.nil_append _) (Rm.of (by first | omega | (simp <;> omega)) (by decide)) rfl rfl (fun a2 c2 w hS => ?_)
  replace hS := hS.n8 L (a0 := Own 3 1 (i64s ps) a2 c2) rfl
  refine WL.lit rfl rfl (enP [PR.mk ps a2 c2]) el_38 hS (by exact ⟨rfl, rfl⟩) (enP_ok _) rfl (Nat.le_of_ble_eq_true rfl) (fun b3 w hS => ?_)
  refine WL.app rfl rfl 2 (enP (P ++ [PR.mk ps a2 c2])) el_38 hS rfl (hS.srcO 0 rfl) (enP_app _ _).symm (Rm.of (by first | omega | (simp <;> omega)) (by decide)) rfl rfl (fun a3 c3 w hS => ?_)
  replace hS := hS.n9 L (a0 := Own 56 1 (enP [PR.mk ps a2 c2]) (some ⟨b3, 0, none⟩) (List.length (enP [PR.mk ps a2 c2]))) (a2 := Own 56 1 (enP (P ++ [PR.mk ps a2 c2])) a3 c3) rfl
  refine WL.r 1 rfl <| WL.st rfl rfl rfl 8 hS rfl rfl rfl rfl rfl rfl (fun w hS => ?_)
  replace hS := hS.n9 L (a8 := cel b1 #[.int .i64 cap, .slice a3 (List.length (enP (P ++ [PR.mk ps a2 c2]))) c3, .slice b (List.length (bos B)) d] 40) rfl
  refine WL.nil ?_
  as_aux_lemma =>
  refine WC.seq <| WC.region <| WL.run 2 [.slice b (List.length (bos B)) d] rfl (by exact hS.ld 8 rfl rfl) ?_
  replace hS := hS.nil_ 4 1
  refine WL.app rfl rfl 0 (bos B) el_33 hS rfl (hS.srcS 6 rfl) (List.nil_append _) (Rm.of (by first | omega | (simp <;> omega)) (by decide)) rfl rfl (fun a4 c4 w hS => ?_)
  replace hS := hS.n10 L (a0 := Own 4 1 (bos B) a4 c4) rfl
  refine WL.lit rfl rfl (bos [true]) el_33 hS (by exact ⟨rfl, rfl⟩) (bos_ok _) rfl (Nat.le_of_ble_eq_true rfl) (fun b4 w hS => ?_)
  refine WL.app rfl rfl 1 (bos (B ++ [true])) el_33 hS rfl (hS.srcO 0 rfl) (bos_app _ _).symm (Rm.of (by first | omega | (simp <;> omega)) (by decide)) rfl rfl (fun a5 c5 w hS => ?_)
  replace hS := hS.n11 L (a0 := Own 4 1 (bos [true]) (some ⟨b4, 0, none⟩) (List.length (bos [true]))) (a1 := Own 4 1 (bos (B ++ [true])) a5 c5) rfl
  refine WL.r 1 rfl <| WL.st rfl rfl rfl 10 hS rfl rfl rfl rfl rfl rfl (fun w hS => ?_)
  replace hS := hS.n11 L (a10 := cel b1 #[.int .i64 cap, .slice a3 (List.length (enP (P ++ [PR.mk ps a2 c2]))) c3, .slice a5 (List.length (bos (B ++ [true]))) c5] 40) rfl
  refine WL.nil <| WC.seq <| WC.plan [([1, 2, 3], some (0, [1, 2, 3])), ([], some (4, [1, 2, 3])), ([5, 6], none)] (by kernel_rfl) (by kernel_rfl) ?_
  replace hS := (St.shsSub (zs' := P ++ [PR.mk ps a2 c2]) (St.shsCons ((hS.sel 11 [3, 5, 3, 1, 4, 4, 4] rfl).share.sel 7 [1, 0, 0, 0, 0, 0, 0] rfl) (z := PR.mk ps a2 c2) (prF_sh _) [0] rfl) (fun z hz => snoc_mem hz)).sel 7 [2, 0, 1, 1, 1, 1] rfl
  replace hS := ((hS.share.at_ 2 rfl).share).sel 6 [1, 1, 0, 0, 0, 0] rfl
  replace hS := hS.n6 L (a0 := Sh 56 1 (enP (P ++ [PR.mk ps a2 c2])) a3 c3) (a1 := Shs prF (P ++ [PR.mk ps a2 c2])) (a2 := Sh 4 1 (bos (B ++ [true])) a5 c5) rfl
  refine WQ.run 3 [.slice a3 (List.length (enP (P ++ [PR.mk ps a2 c2]))) c3] rfl (by exact hS.ld 5 rfl rfl) ?_
  refine WQ.nil ?_
  intro m1
  replace hS := hS.drewN m1; generalize hwm1 : World.drewN _ _ = w at *; clear hwm1
  refine WL.ldF rfl rfl 5 hS rfl rfl ag_40 <| WL.nil ?_
  refine ⟨by exact ⟨RQ.pure rfl rfl rfl rfl, RQ.load rfl rfl rfl rfl (hS.ld 5 rfl rfl), RQ.pure rfl rfl rfl rfl⟩, ?_⟩
  refine WQ.nil ?_
  intro m2
  replace hS := hS.drewN m2; generalize hwm2 : World.drewN _ _ = w at *; clear hwm2
  refine WL.stF rfl rfl rfl 4 hS rfl rfl rfl rfl rfl ag_40 (fun w hS => ?_)
  replace hS := hS.n6 L (a4 := cel b2 #[.int .i64 cap, .slice a3 (List.length (enP (P ++ [PR.mk ps a2 c2]))) c3, .slice a5 (List.length (bos (B ++ [true]))) c5] 40) rfl
  refine WL.nil ?_
  refine ⟨by exact ⟨RQ.pure rfl rfl rfl rfl, RQ.load rfl rfl rfl rfl (hS.ld 5 rfl rfl), RQ.pure rfl rfl rfl rfl⟩, ?_⟩
  refine WQ.r 2 rfl <| WQ.nil ?_
  intro m3
  replace hS := hS.drewN m3; generalize hwm3 : World.drewN _ _ = w at *; clear hwm3
  as_aux_lemma =>
  refine WC.ret ?_
  refine ⟨[.agg #[.int .i64 cap, .slice a3 (List.length (enP (P ++ [PR.mk ps a2 c2]))) c3, .slice a5 (List.length (bos (B ++ [true]))) c5], .int .i64 (List.length (enP (P ++ [PR.mk ps a2 c2])) : Int), .int .i64 0], ⟨⟨_, rfl, hS.lvF 4 rfl ag_40⟩, rfl, rfl⟩, ?_⟩
  replace hS := (hS.sel 6 [0, 0, 0, 0] rfl)
  exact ⟨_, _, _, _, _, _, congrArg (fun m : Int => Value.tuple #[.agg #[.int .i64 cap, .slice a3 (enP (P ++ [PR.mk ps a2 c2])).length c3, .slice a5 (bos (B ++ [true])).length c5], .int .i64 m, .int .i64 0]) (by simp), hS⟩
set_option maxRecDepth 8192 in
theorem rrel_ok {g w : World} {L : List HP} (cap : Int) (P : List PR) (a : Option Addr) (c : Nat) (B : List Bool) (b : Option Addr) (d : Nat) (n : Int) (hB : B.length ≤ 1000) (h0 : liveR B n = true) (hS : St g (Sh 4 1 (bos B) b d :: L) w) :
    Sp Tryz.prog 136 [.agg #[.int .i64 cap, .slice a (List.length (enP P)) c, .slice b (List.length (bos B)) d], .int .i64 n] w (fun v w' => ∃ (b2 : Option Addr) (d2 : Nat), v = .tuple #[.agg #[.int .i64 cap, .slice a (List.length (enP P)) c, .slice b2 (List.length (bos (B.set (n - 1).toNat false))) d2], .int .i64 0] ∧ St g (Sh 4 1 (bos (B.set (n - 1).toNat false)) b2 d2 :: L) w') := by
  refine Sp.enter Tryz.func136 rfl (by kernel_rfl) (by kernel_rfl) ?_
  have _ := hB
  refine WC.seq <| WC.region <| WL.box rfl rfl #[.int .i64 cap, .slice a (List.length (enP P)) c, .slice b (List.length (bos B)) d] hS rfl rfl (fun b1 w hS => ?_)
  refine WL.new rfl rfl zv_40 hS (fun b2 w hS => ?_)
  refine WL.r 1 rfl <| WL.nil <| WC.seq <| WC.seq <| WC.region <| WL.ldF rfl rfl 1 hS rfl rfl ag_40 <| WL.r 1 rfl <| WL.call rfl rfl (rlive_spec (cap := cap) (P := P) (a := a) (c := c) (B := B) (b := b) (d := d) (n := n) (hB := (by omega)) (hS := (hS.sel 3 [2, 0, 0] rfl))) rfl ?_
  clear hS; rintro _ w ⟨rfl, hS⟩
  replace hS := hS.n3 L (a1 := cel b2 #[.int .i64 0, .slice none 0 0, .slice none 0 0] 40) (a2 := cel b1 #[.int .i64 cap, .slice a (List.length (enP P)) c, .slice b (List.length (bos B)) d] 40) rfl
  refine WL.r 1 rfl <| WL.nil <| WC.ifF rfl (by rw [h0]; decide) ?_
  refine WC.skip <| WC.seq <| WC.region ?_
  have hbl := bos_len B; have hrg := liveR_rng h0; have hbs := bos_len (B.set (n - 1).toNat false); have hls : (B.set (n - 1).toNat false).length = B.length := List.length_set
  refine WL.run 2 [.slice b (List.length (bos B)) d] rfl (by exact hS.ld 2 rfl rfl) ?_
  replace hS := hS.nil_ 4 1
  refine WL.app rfl rfl 0 (bos B) el_33 hS rfl (hS.srcS 1 rfl) (List.nil_append _) (Rm.of (by first | omega | (simp <;> omega)) (by decide)) rfl rfl (fun a1 c1 w hS => ?_)
  replace hS := hS.n4 L (a0 := Own 4 1 (bos B) a1 c1) rfl
  refine WL.r 1 rfl <| WL.st rfl rfl rfl 3 hS rfl rfl rfl rfl rfl rfl (fun w hS => ?_)
  replace hS := hS.n4 L (a3 := cel b1 #[.int .i64 cap, .slice a (List.length (enP P)) c, .slice a1 (List.length (bos B)) c1] 40) rfl
  refine WL.nil ?_
  as_aux_lemma =>
  refine WC.seq <| WC.region <| WL.run 4 [.slice a1 (List.length (bos B)) c1] rfl (by exact hS.ld 3 rfl rfl) ?_
  refine WL.nw 18 rfl (w64 (by omega)) ?_
  obtain ⟨x, hx⟩ : ∃ x, B[(n - 1).toNat]? = some x := ⟨_, List.getElem?_eq_getElem (by omega)⟩
  refine WL.ix rfl rfl (i := n - 1) ((n - 1).toNat) el_33 rfl rfl (by omega) (by omega) (hS.rdO 0 rfl (bos_at hx)).1 ?_
  refine WL.stE rfl rfl rfl 0 ((n - 1).toNat) 0 [.bool x] (bos (B.set (n - 1).toNat false)) hS rfl (bos_at hx) rfl rfl rfl rfl rfl (bos_set _ _ _) (fun w hS => ?_)
  replace hS := hS.n4 L (a0 := Own 4 1 (bos (B.set (n - 1).toNat false)) a1 c1) rfl
  refine WL.nil <| WC.seq <| WC.region ?_
  rw [show (bos B).length = (bos (B.set (n - 1).toNat false)).length by omega] at hS; replace hS := hS.share.sel 4 [0, 1, 1] rfl
  replace hS := hS.n3 L (a0 := Sh 4 1 (bos (B.set (n - 1).toNat false)) a1 c1) (a2 := cel b1 #[.int .i64 cap, .slice a (List.length (enP P)) c, .slice a1 (List.length (bos (B.set (n - 1).toNat false))) c1] 40) rfl
  refine WL.ldF rfl rfl 2 hS rfl rfl ag_40 <| WL.stF rfl rfl rfl 1 hS rfl rfl rfl rfl rfl ag_40 (fun w hS => ?_)
  replace hS := hS.n3 L (a1 := cel b2 #[.int .i64 cap, .slice a (List.length (enP P)) c, .slice a1 (List.length (bos (B.set (n - 1).toNat false))) c1] 40) rfl
  refine WL.r 1 rfl <| WL.nil <| WC.ret ?_
  refine ⟨[.agg #[.int .i64 cap, .slice a (List.length (enP P)) c, .slice a1 (List.length (bos (B.set (n - 1).toNat false))) c1], .int .i64 0], ⟨⟨_, rfl, hS.lvF 1 rfl ag_40⟩, rfl⟩, ?_⟩
  replace hS := (hS.sel 3 [0] rfl)
  exact ⟨_, _, rfl, hS⟩
set_option maxRecDepth 8192 in
theorem rbase_spec {g w : World} {L : List HP} (cap : Int) (P : List PR) (a : Option Addr) (c : Nat) (B : List Bool) (b : Option Addr) (d : Nat) (x y : Int) (hP : PRk P) (hl : P.length ≤ 1000) (hB : B.length = P.length) (hS : St g (Sh 56 1 (enP P) a c :: Shs prF P :: Sh 4 1 (bos B) b d :: L) w) :
    Sp Tryz.prog 84 [.agg #[.int .i64 cap, .slice a (List.length (enP P)) c, .slice b (List.length (bos B)) d], .int .i64 x, .int .i64 y] w (fun v w' => v = .int .i64 (baseR P B x y) ∧ St g (Sh 56 1 (enP P) a c :: Shs prF P :: Sh 4 1 (bos B) b d :: L) w') := by
  refine Sp.enter Tryz.func84 rfl (by kernel_rfl) (by kernel_rfl) ?_
  have _ := hB
  have _ := hl
  have _ := hP
  refine WC.seq <| WC.region <| WL.box rfl rfl #[.int .i64 cap, .slice a (List.length (enP P)) c, .slice b (List.length (bos B)) d] hS rfl rfl (fun b1 w hS => ?_)
  refine WL.r 1 rfl <| WL.nil <| WC.seq <| WC.seq <| WC.region <| WL.ldF rfl rfl 0 hS rfl rfl ag_40 <| WL.r 1 rfl <| WL.call rfl rfl (rlive_spec (cap := cap) (P := P) (a := a) (c := c) (B := B) (b := b) (d := d) (n := x) (hB := (by omega)) (hS := (hS.sel 4 [3, 0, 0, 0] rfl))) rfl ?_
  clear hS; rintro _ w ⟨rfl, hS⟩
  replace hS := hS.n4 L (a1 := cel b1 #[.int .i64 cap, .slice a (List.length (enP P)) c, .slice b (List.length (bos B)) d] 40) rfl
  refine WL.r 1 rfl <| WL.r 1 rfl ?_
  by_cases cg1 : (! (liveR B x)) = true
  · refine WL.reb 11 (.bool true) (congrArg Value.bool cg1) <| WL.skp rfl rfl rfl rfl <| WL.skp rfl rfl rfl rfl <| WL.skp rfl rfl rfl rfl <| WL.skp rfl rfl rfl rfl <| WL.r 1 rfl <| WL.nil <| WC.ifT rfl rfl <| WC.seq <| WC.region <| WL.r 1 rfl <| WL.nil ?_
    as_aux_lemma =>
    refine WC.ret ?_
    refine ⟨[.int .i64 0], rfl, ?_⟩
    replace hS := (hS.sel 4 [2, 2, 0] rfl)
    first | exact ⟨congrArg (Value.int .i64) (if_neg (fun h => by first | (rw [h.1] at cg1; cases cg1) | (rw [h.2] at cd1; cases cd1))).symm, hS⟩
  · refine WL.reb 11 (.bool false) (congrArg Value.bool (Bool.eq_false_iff.2 cg1)) <| WL.ung rfl rfl rfl <| WL.ldF rfl rfl 1 hS rfl rfl ag_40 <| WL.ung rfl rfl rfl <| WL.r 1 rfl <| WL.ung rfl rfl rfl <| WL.call rfl rfl (rlive_spec (cap := cap) (P := P) (a := a) (c := c) (B := B) (b := b) (d := d) (n := y) (hB := (by omega)) (hS := hS)) rfl ?_
    clear hS; rintro _ w ⟨rfl, hS⟩
    replace hS := hS.n4 L rfl
    refine WL.ung rfl rfl rfl <| WL.r 1 rfl <| WL.r 1 rfl <| WL.nil ?_
    as_aux_lemma =>
    refine WC.if_ rfl (fun cd1 => ?_) (fun cd1 => ?_)
    · refine WC.seq <| WC.region <| WL.r 1 rfl <| WL.nil <| WC.ret ?_
      refine ⟨[.int .i64 0], rfl, ?_⟩
      replace hS := (hS.sel 4 [2, 2, 0] rfl)
      first | exact ⟨congrArg (Value.int .i64) (if_neg (fun h => by first | (rw [h.1] at cg1; cases cg1) | (rw [h.2] at cd1; cases cd1))).symm, hS⟩
    · refine WC.skip <| WC.seq <| WC.region <| WL.ldF rfl rfl 1 hS rfl rfl ag_40 <| WL.r 2 rfl <| WL.call rfl rfl (common_spec (cap := cap) (P := P) (a := a) (c := c) (B := B) (b := b) (d := d) (x := x) (y := y) (hP := (by assumption)) (hl := (by omega)) (hS := (hS.sel 4 [2, 2, 0, 0] rfl))) rfl ?_
      clear hS; rintro _ w ⟨rfl, hS⟩
      replace hS := hS.n4 L rfl
      refine WL.r 1 rfl <| WL.nil <| WC.ret ?_
      refine ⟨[.int .i64 (comR P x y)], rfl, ?_⟩
      replace hS := (hS.sel 4 [0, 0, 0] rfl)
      exact ⟨congrArg (Value.int .i64) (if_pos ⟨by simpa using cg1, by simpa using cd1⟩).symm, hS⟩
end Go.Proofs.YtbeacjcmdijdmaaGreat
/-! ## Pr -/
namespace Go.V
open Go Go.RowKit
inductive Pt where
  | sub (i : Int) (t : Tr)
  | one (k v : Int)
def ptC : Pt → List Value
  | .sub i t => [.int .u32 i, .int .i64 (t.n : Int), .int .i64 0, .int .i64 0, .bool false]
  | .one k v => [.int .u32 0, .int .i64 0, .int .i64 k, .int .i64 v, .bool true]
def pts (l : List Pt) : List (List Value) := l.map ptC
@[simp] theorem pts_len (l : List Pt) : (pts l).length = l.length := by simp [pts]
def ptL : Pt → Kvs
  | .sub _ t => t.ls
  | .one k v => [(k, v)]
def rem (P : List Pt) : Kvs := (P.reverse.map ptL).flatten
def ptW : Pt → Nat
  | .sub _ t => 3 * t.n
  | .one _ _ => 1
def wgt (P : List Pt) : Nat := (P.map ptW).sum
def PtOk (A : AM) : Pt → Prop
  | .sub i t => Is A t i ∧ i ≠ 0
  | .one _ _ => True
structure PsOk (A : AM) (P : List Pt) : Prop where
  ok : ∀ x ∈ P, PtOk A x
theorem PsOk.app {A : AM} {P : List Pt} (h : PsOk A P) {x : Pt} (hx : PtOk A x) : PsOk A (P ++ [x]) := ⟨fun y hy => by
  rcases List.mem_append.1 hy with hy | hy
  · exact h.ok y hy
  · rw [List.mem_singleton.1 hy]; exact hx⟩
theorem PsOk.sub {A : AM} {P Q : List Pt} (h : PsOk A (P ++ Q)) : PsOk A P := ⟨fun y hy => h.ok y (List.mem_append_left _ hy)⟩
abbrev Chg := Int × Int × Int × Int
def dif : Kvs → Kvs → List Chg
  | [], [] => []
  | [], (k, w) :: r => (1, k, 0, w) :: dif [] r
  | (k, v) :: l, [] => (2, k, v, 0) :: dif l []
  | (k, v) :: l, (k', w) :: r => if k < k' then (2, k, v, 0) :: dif l ((k', w) :: r) else if k' < k then (1, k', 0, w) :: dif ((k, v) :: l) r else if v ≠ w then (3, k, v, w) :: dif l r else dif l r
termination_by l r => l.length + r.length
theorem dif_keys (l r : Kvs) : ∀ c ∈ dif l r, (∃ x ∈ l, x.1 = c.2.1) ∨ ∃ x ∈ r, x.1 = c.2.1 := by
  fun_induction dif l r
  case case1 => intro c hc; cases hc
  case case2 k w r ih =>
    intro c hc
    rcases List.mem_cons.1 hc with rfl | hc
    · exact .inr ⟨(k, w), by simp, rfl⟩
    · rcases ih c hc with ⟨x, hx, _⟩ | ⟨x, hx, e⟩
      · cases hx
      · exact .inr ⟨x, List.mem_cons_of_mem _ hx, e⟩
  case case3 k v l ih =>
    intro c hc
    rcases List.mem_cons.1 hc with rfl | hc
    · exact .inl ⟨(k, v), by simp, rfl⟩
    · rcases ih c hc with ⟨x, hx, e⟩ | ⟨x, hx, _⟩
      · exact .inl ⟨x, List.mem_cons_of_mem _ hx, e⟩
      · cases hx
  case case4 k v l k' w r h ih =>
    intro c hc
    rcases List.mem_cons.1 hc with rfl | hc
    · exact .inl ⟨(k, v), by simp, rfl⟩
    · rcases ih c hc with ⟨x, hx, e⟩ | h
      · exact .inl ⟨x, List.mem_cons_of_mem _ hx, e⟩
      · exact .inr h
  case case5 k v l k' w r h1 h2 ih =>
    intro c hc
    rcases List.mem_cons.1 hc with rfl | hc
    · exact .inr ⟨(k', w), by simp, rfl⟩
    · rcases ih c hc with h | ⟨x, hx, e⟩
      · exact .inl h
      · exact .inr ⟨x, List.mem_cons_of_mem _ hx, e⟩
  case case6 k v l k' w r h1 h2 h3 ih =>
    intro c hc
    rcases List.mem_cons.1 hc with rfl | hc
    · exact .inl ⟨(k, v), by simp, rfl⟩
    · rcases ih c hc with ⟨x, hx, e⟩ | ⟨x, hx, e⟩
      · exact .inl ⟨x, List.mem_cons_of_mem _ hx, e⟩
      · exact .inr ⟨x, List.mem_cons_of_mem _ hx, e⟩
  case case7 k v l k' w r h1 h2 h3 ih =>
    intro c hc
    rcases ih c hc with ⟨x, hx, e⟩ | ⟨x, hx, e⟩
    · exact .inl ⟨x, List.mem_cons_of_mem _ hx, e⟩
    · exact .inr ⟨x, List.mem_cons_of_mem _ hx, e⟩
def inR (lo hi : Int) (l : List Chg) : List Chg := l.filter fun c => decide (lo ≤ c.2.1 ∧ c.2.1 ≤ hi)
theorem inR_nil {lo hi : Int} {l r : Kvs} (h1 : ∀ x ∈ l, hi < x.1) (h2 : ∀ x ∈ r, hi < x.1) : inR lo hi (dif l r) = [] := by
  refine List.filter_eq_nil_iff.2 fun c hc => ?_
  rcases dif_keys l r c hc with ⟨x, hx, e⟩ | ⟨x, hx, e⟩
  · have := h1 x hx; simp; omega
  · have := h2 x hx; simp; omega
def pChg (k v w : Int) (il ir : Bool) : Option Chg := if il = false then some (1, k, 0, w) else if ir = false then some (2, k, v, 0) else if v ≠ w then some (3, k, v, w) else none
def oneR (lo hi : Int) (c : Option Chg) : List Chg := match c with
  | some c => if lo ≤ c.2.1 ∧ c.2.1 ≤ hi then [c] else []
  | none => []
def goOn (hi : Int) (c : Option Chg) : Bool := match c with
  | some c => decide (c.2.1 < hi)
  | none => true
theorem inR_cons (lo hi : Int) (c : Chg) (l : List Chg) : inR lo hi (c :: l) = oneR lo hi (some c) ++ inR lo hi l := by
  unfold inR oneR
  by_cases h : lo ≤ c.2.1 ∧ c.2.1 ≤ hi
  · rw [List.filter_cons_of_pos (by simpa using h)]; simp [h]
  · rw [List.filter_cons_of_neg (by simpa using h)]; simp [h]
theorem Is.fn {A : AM} : ∀ {t u : Tr} {i : Int}, Is A t i → Is A u i → t = u
  | .nil, .nil, _, _, _ => rfl
  | .nil, .node _ _ _ _, _, h, k => absurd k.1 (by rw [show _ = (0 : Int) from h]; omega)
  | .node _ _ _ _, .nil, _, h, k => absurd h.1 (by rw [show _ = (0 : Int) from k]; omega)
  | .node _ _ _ _, .node _ _ _ _, _, ⟨_, _, h3, h4, h5, h6⟩, ⟨_, _, k3, k4, k5, k6⟩ => by
    rw [Is.fn h5 k5, Is.fn h6 k6, ← h3, ← h4, ← k3, ← k4]
structure Pv (A : AM) (lo hi : Int) (F : List Chg) (m : Nat) (PL PR : List Pt) (out : List Chg) : Prop where
  oL : PsOk A PL
  oR : PsOk A PR
  sL : Srt (rem PL)
  sR : Srt (rem PR)
  d : out ++ inR lo hi (dif (rem PL) (rem PR)) = F
  w : out.length + wgt PL + wgt PR ≤ m
section
variable {A : AM} {lo hi : Int} {F : List Chg} {m : Nat} {PL PR : List Pt} {out : List Chg}
theorem Pv.done (h : Pv A lo hi F m [] [] out) : out = F := by
  have := h.d
  rw [show rem [] = [] from rfl, dif] at this
  simpa [inR] using this
theorem Pv.go (h : Pv A lo hi F m PL PR out) {PL2 PR2 : List Pt} {k v w : Int} {il ir : Bool} (oL : PsOk A PL2) (oR : PsOk A PR2) (sL : Srt (rem PL2)) (sR : Srt (rem PR2))
    (hd : dif (rem PL) (rem PR) = (pChg k v w il ir).toList ++ dif (rem PL2) (rem PR2)) (hw : wgt PL2 + wgt PR2 + 1 ≤ wgt PL + wgt PR) (g1 : ∀ x ∈ rem PL2, k < x.1) (g2 : ∀ x ∈ rem PR2, k < x.1) (hk : ∀ c, pChg k v w il ir = some c → c.2.1 = k) :
    (goOn hi (pChg k v w il ir) = true → Pv A lo hi F m PL2 PR2 (out ++ oneR lo hi (pChg k v w il ir))) ∧ wgt PL2 + wgt PR2 < wgt PL + wgt PR ∧ (goOn hi (pChg k v w il ir) = false → out ++ oneR lo hi (pChg k v w il ir) = F) := by
  have h1 := h.d
  rw [hd] at h1
  have hol : (oneR lo hi (pChg k v w il ir)).length ≤ 1 := by
    unfold oneR
    split
    · split <;> simp
    · simp
  have h2 : inR lo hi ((pChg k v w il ir).toList ++ dif (rem PL2) (rem PR2)) = oneR lo hi (pChg k v w il ir) ++ inR lo hi (dif (rem PL2) (rem PR2)) := by
    cases hc : pChg k v w il ir with
    | none => rfl
    | some c => exact inR_cons lo hi c _
  rw [h2, ← List.append_assoc] at h1
  refine ⟨fun _ => ⟨oL, oR, sL, sR, h1, by have := h.w; rw [List.length_append]; omega⟩, by omega, fun hg => ?_⟩
  rw [← h1]
  cases hc : pChg k v w il ir with
  | none => rw [hc] at hg; cases hg
  | some c =>
    rw [hc] at hg
    have hck := hk c hc
    have hh : hi ≤ k := by simp [goOn] at hg; omega
    rw [inR_nil (fun x hx => by have := g1 x hx; omega) (fun x hx => by have := g2 x hx; omega), List.append_nil]
end
end Go.V
/-! ## Pm -/
namespace Go.V
open Go Go.RowKit Go.Maps Go.Sort
section
variable {α β : Type}
def pSrt (M : List (Int × β)) : Prop := M.Pairwise fun a b => a.1 < b.1
def pget (k : Int) (M : List (Int × β)) : Option β := (M.find? fun x => decide (x.1 = k)).map (·.2)
def pput (k : Int) (y : β) (M : List (Int × β)) : List (Int × β) := M.filter (fun x => decide (x.1 < k)) ++ (k, y) :: M.filter (fun x => decide (k < x.1))
def pdel (k : Int) (M : List (Int × β)) : List (Int × β) := M.filter fun x => decide (x.1 ≠ k)
theorem pput_srt {k : Int} {y : β} {M : List (Int × β)} (h : pSrt M) : pSrt (pput k y M) := by
  unfold pput
  refine List.pairwise_append.2 ⟨h.sublist List.filter_sublist, List.pairwise_cons.2 ⟨fun y hy => ?_, h.sublist List.filter_sublist⟩, fun x hx y hy => ?_⟩
  · exact of_decide_eq_true (List.mem_filter.1 hy).2
  · have h1 := of_decide_eq_true (List.mem_filter.1 hx).2
    rcases List.mem_cons.1 hy with rfl | hy
    · exact h1
    · have h2 := of_decide_eq_true (List.mem_filter.1 hy).2
      omega
theorem pdel_srt {k : Int} {M : List (Int × β)} (h : pSrt M) : pSrt (pdel k M) := h.sublist List.filter_sublist
theorem pput_mem {k : Int} {y : β} {M : List (Int × β)} (x : Int × β) : x ∈ pput k y M ↔ x = (k, y) ∨ (x ∈ M ∧ x.1 ≠ k) := by
  unfold pput
  rw [List.mem_append, List.mem_cons, List.mem_filter, List.mem_filter, decide_eq_true_iff, decide_eq_true_iff]
  constructor
  · rintro (⟨h1, h2⟩ | h | ⟨h1, h2⟩)
    · exact .inr ⟨h1, by omega⟩
    · exact .inl h
    · exact .inr ⟨h1, by omega⟩
  · rintro (h | ⟨h1, h2⟩)
    · exact .inr (.inl h)
    · by_cases h3 : x.1 < k
      · exact .inl ⟨h1, h3⟩
      · exact .inr (.inr ⟨h1, by omega⟩)
theorem pdel_mem {k : Int} {M : List (Int × β)} (x : Int × β) : x ∈ pdel k M ↔ x ∈ M ∧ x.1 ≠ k := by
  unfold pdel; rw [List.mem_filter, decide_eq_true_iff]
theorem pSrt.nodup {M : List (Int × β)} (h : pSrt M) : M.Nodup := h.imp fun {a b} h e => by rw [e] at h; omega
theorem pget_some {k : Int} {M : List (Int × β)} (hs : pSrt M) {y : β} : pget k M = some y ↔ (k, y) ∈ M := by
  unfold pget
  constructor
  · intro h
    cases hf : M.find? fun x => decide (x.1 = k) with
    | none => rw [hf] at h; cases h
    | some z =>
      rw [hf] at h
      have h1 : z.1 = k := of_decide_eq_true (List.find?_some (p := fun x : Int × β => decide (x.1 = k)) hf)
      simp only [Option.map_some, Option.some.injEq] at h
      have h2 := List.mem_of_find?_eq_some hf
      rw [← h1, ← h]; exact h2
  · intro h
    induction M with
    | nil => cases h
    | cons x t ih =>
      obtain ⟨h1, h2⟩ := List.pairwise_cons.1 hs
      rw [List.find?_cons]
      rcases List.mem_cons.1 h with rfl | h
      · simp
      · have h3 : x.1 < k := h1 _ h
        rw [decide_eq_false (show ¬ x.1 = k by omega)]
        exact ih h2 h
theorem pget_none {k : Int} {M : List (Int × β)} (h : ∀ x ∈ M, x.1 ≠ k) : pget k M = none := by
  unfold pget
  rw [List.find?_eq_none.2 fun x hx e => h x hx (of_decide_eq_true e)]; rfl
theorem pSrt.ext : ∀ {M N : List (Int × β)}, pSrt M → pSrt N → (∀ z, pget z M = pget z N) → M = N
  | [], [], _, _, _ => rfl
  | [], (k, y) :: N, _, hN, h => by
    have h1 := h k
    rw [(pget_some hN).2 (List.mem_cons_self ..)] at h1; cases h1
  | (k, y) :: M, [], hM, _, h => by
    have h1 := h k
    rw [(pget_some hM).2 (List.mem_cons_self ..)] at h1; cases h1
  | (k, y) :: M, (j, w) :: N, hM, hN, h => by
    obtain ⟨a1, a2⟩ := List.pairwise_cons.1 hM
    obtain ⟨b1, b2⟩ := List.pairwise_cons.1 hN
    have e1 : (k, y) ∈ (j, w) :: N := (pget_some hN).1 ((h k).symm.trans ((pget_some hM).2 (List.mem_cons_self ..)))
    have e2 : (j, w) ∈ (k, y) :: M := (pget_some hM).1 ((h j).trans ((pget_some hN).2 (List.mem_cons_self ..)))
    have hkj : k = j := by
      rcases List.mem_cons.1 e1 with e | e
      · exact congrArg Prod.fst e
      · rcases List.mem_cons.1 e2 with e' | e'
        · exact (congrArg Prod.fst e').symm
        · have h1 : j < k := b1 _ e
          have h2 : k < j := a1 _ e'
          omega
    subst hkj
    have hy : y = w := by
      rcases List.mem_cons.1 e1 with e | e
      · exact congrArg Prod.snd e
      · have h1 : k < k := b1 _ e
        omega
    subst hy
    rw [pSrt.ext a2 b2 fun z => ?_]
    have h1 := h z
    by_cases hz : z = k
    · subst hz
      rw [pget_none fun x hx => by have := a1 x hx; exact Int.ne_of_gt this, pget_none fun x hx => by have := b1 x hx; exact Int.ne_of_gt this]
    · have hc : ∀ L : List (Int × β), pget z ((k, y) :: L) = pget z L := fun L => by
        unfold pget; rw [List.find?_cons, decide_eq_false (fun e : k = z => hz e.symm)]
      rw [hc, hc] at h1; exact h1
structure POk (f : α → Value × Value × Nat) (n : α → Int) (g : α → β) (xs : List α) (q : Nat) (M : List (Int × β)) : Prop where
  k : KOk f n xs q
  perm : (xs.map fun x => (n x, g x)).Perm M
  srt : pSrt M
variable {f : α → Value × Value × Nat} {n : α → Int} {g : α → β} {xs : List α} {q : Nat} {M : List (Int × β)}
theorem POk.nil : POk f n g [] 0 [] := ⟨KOk.nil, List.Perm.refl _, List.Pairwise.nil⟩
theorem POk.len (h : POk f n g xs q M) : xs.length = M.length := by rw [← h.perm.length_eq, List.length_map]
theorem POk.mem (h : POk f n g xs q M) (x : Int × β) : x ∈ M ↔ ∃ y ∈ xs, (n y, g y) = x := by rw [← h.perm.mem_iff, List.mem_map]
theorem POk.get (h : POk f n g xs q M) {j : Nat} {x : α} (hx : xs[j]? = some x) : pget (n x) M = some (g x) :=
  (pget_some h.srt).2 ((h.mem _).2 ⟨x, List.mem_of_getElem? hx, rfl⟩)
theorem POk.no (h : POk f n g xs q M) {k : Int} (hx : ∀ x ∈ xs, n x ≠ k) : pget k M = none :=
  pget_none fun x hm => by
    obtain ⟨y, hy, rfl⟩ := (h.mem x).1 hm
    exact hx y hy
theorem KOk.set' {l : List α} (h : KOk f n l q) {j : Nat} {x y : α} (hx : l[j]? = some x) (h1 : n y = n x) (h2 : (f y).1 = (f x).1) (h3 : (f y).2.2 = (f x).2.2) : KOk f n (l.set j y) q := by
  have hj := (List.getElem?_eq_some_iff.1 hx).1
  have hm : ∀ {γ : Type} (g : α → γ), g y = g x → (l.set j y).map g = l.map g := fun g hg => by
    apply List.ext_getElem?
    intro i
    rw [List.getElem?_map, List.getElem?_map, List.getElem?_set]
    split
    · rename_i hij; subst hij
      rw [hx]; simp [hg]
    · rfl
  have hxm := List.mem_of_getElem? hx
  refine ⟨fun z hz => ?_, ?_, fun z hz => ?_, ?_, fun z hz => ?_, by rw [List.length_set]; exact h.num⟩
  · rcases List.mem_or_eq_of_mem_set hz with hz | rfl
    · exact h.key z hz
    · rw [h2, h1]; exact h.key x hxm
  · have := List.pairwise_map.2 h.uniq
    rw [← hm n h1] at this
    exact List.pairwise_map.1 this
  · rcases List.mem_or_eq_of_mem_set hz with hz | rfl
    · exact h.born z hz
    · rw [h3]; exact h.born x hxm
  · rw [hm (fun x => (f x).2.2) h3]; exact h.bnd
  · rcases List.mem_or_eq_of_mem_set hz with hz | rfl
    · exact h.rng z hz
    · rw [h1]; exact h.rng x hxm
theorem POk.ofMem {xs' : List α} {q' : Nat} {M' : List (Int × β)} (hk : KOk f n xs' q') (hs : pSrt M') (hm : ∀ x, (∃ y ∈ xs', (n y, g y) = x) ↔ x ∈ M') : POk f n g xs' q' M' := by
  refine ⟨hk, ?_, hs⟩
  have hn : (xs'.map fun x => (n x, g x)).Nodup := List.pairwise_map.2 (hk.uniq.imp fun {a b} h e => h (congrArg Prod.fst e))
  exact (List.perm_ext_iff_of_nodup hn hs.nodup).2 fun x => by rw [List.mem_map]; exact hm x
theorem POk.set (h : POk f n g xs q M) {j : Nat} {x y : α} (hx : xs[j]? = some x) (h1 : n y = n x) (h2 : (f y).1 = (f x).1) (h3 : (f y).2.2 = (f x).2.2) : POk f n g (xs.set j y) q (pput (n x) (g y) M) := by
  refine POk.ofMem (h.k.set' hx h1 h2 h3) (pput_srt h.srt) fun z => ?_
  rw [pput_mem, h.mem]
  have hj := (List.getElem?_eq_some_iff.1 hx).1
  constructor
  · rintro ⟨u, hu, rfl⟩
    obtain ⟨i, hi⟩ := List.mem_iff_getElem?.1 hu
    rw [List.getElem?_set] at hi
    split at hi
    · rw [← Option.some.inj hi, h1]; exact .inl rfl
    · rename_i hij
      have hil := (List.getElem?_eq_some_iff.1 hi).1
      refine .inr ⟨⟨u, List.mem_of_getElem? hi, rfl⟩, fun e => ?_⟩
      have hu := List.pairwise_iff_getElem.1 h.k.uniq
      have e1 := (List.getElem?_eq_some_iff.1 hi).2
      have e2 := (List.getElem?_eq_some_iff.1 hx).2
      have he : n u = n x := e
      rcases Nat.lt_or_gt_of_ne hij with hlt | hgt
      · exact hu j i hj hil hlt (by rw [e1, e2]; exact he.symm)
      · exact hu i j hil hj hgt (by rw [e1, e2]; exact he)
  · rintro (rfl | ⟨⟨u, hu, rfl⟩, hn⟩)
    · exact ⟨y, List.mem_iff_getElem?.2 ⟨j, by rw [List.getElem?_set, if_pos rfl]; simp [hj]⟩, by rw [h1]⟩
    · obtain ⟨i, hi⟩ := List.mem_iff_getElem?.1 hu
      refine ⟨u, List.mem_iff_getElem?.2 ⟨i, ?_⟩, rfl⟩
      rw [List.getElem?_set, if_neg (fun e => ?_), hi]
      subst e
      rw [hx] at hi
      have := Option.some.inj hi
      subst this
      exact hn rfl
theorem POk.snoc (h : POk f n g xs q M) {y : α} (hk : (f y).1 = .int .i64 (n y)) (hn : ∀ x ∈ xs, n x ≠ n y) (hb : (f y).2.2 = q) (hr : -9223372036854775808 ≤ n y ∧ n y ≤ 9223372036854775807) (hl : xs.length < 4096) : POk f n g (xs ++ [y]) (q + 1) (pput (n y) (g y) M) := by
  refine POk.ofMem (h.k.snoc hk hn hb hr hl) (pput_srt h.srt) fun z => ?_
  rw [pput_mem, h.mem]
  constructor
  · rintro ⟨u, hu, rfl⟩
    rcases List.mem_append.1 hu with hu | hu
    · exact .inr ⟨⟨u, hu, rfl⟩, hn u hu⟩
    · rw [List.mem_singleton.1 hu]; exact .inl rfl
  · rintro (rfl | ⟨⟨u, hu, rfl⟩, _⟩)
    · exact ⟨y, List.mem_append_right _ (List.mem_singleton.2 rfl), rfl⟩
    · exact ⟨u, List.mem_append_left _ hu, rfl⟩
theorem POk.erase (h : POk f n g xs q M) {j : Nat} {x : α} (hx : xs[j]? = some x) : POk f n g (xs.eraseIdx j) q (pdel (n x) M) := by
  refine POk.ofMem (h.k.erase j) (pdel_srt h.srt) fun z => ?_
  rw [pdel_mem, h.mem]
  constructor
  · rintro ⟨u, hu, rfl⟩
    obtain ⟨h1, h2⟩ := (erase_mem' h.k.uniq hx u).1 hu
    exact ⟨⟨u, h1, rfl⟩, h2⟩
  · rintro ⟨⟨u, hu, rfl⟩, hn⟩
    exact ⟨u, (erase_mem' h.k.uniq hx u).2 ⟨hu, hn⟩, rfl⟩
theorem POk.keys (h : POk f n g xs q M) : (M.map (·.1)).Perm (xs.map n) ∧ (M.map (·.1)).Pairwise (· ≤ ·) := by
  refine ⟨?_, List.pairwise_map.2 (h.srt.imp fun {a b} h => by omega)⟩
  have := (h.perm.map (fun x : Int × β => x.1)).symm
  rw [List.map_map] at this
  exact this
end
end Go.V
/-! ## Hm -/
namespace Go.V
open Go Go.RowKit
abbrev Ev := Int × Int × Int × Int × Int
def ev5 (l : List Ev) : List (List Value) := l.map fun x => [.int .i64 x.1, .int .i64 x.2.1, .int .i64 x.2.2.1, .int .i64 x.2.2.2.1, .int .i64 x.2.2.2.2]
@[simp] theorem ev5_len (l : List Ev) : (ev5 l).length = l.length := by simp [ev5]
abbrev Or := Int × Int × Int
def or3 (l : List Or) : List (List Value) := l.map fun x => [.int .i64 x.1, .int .i64 x.2.1, .int .i64 x.2.2]
@[simp] theorem or3_len (l : List Or) : (or3 l).length = l.length := by simp [or3]
structure LsE where
  es : Kvs
  a : Option Addr
  c : Nat
def enL (l : List LsE) : List (List Value) := l.map fun x => [.slice x.a (en2 x.es).length x.c]
@[simp] theorem enL_len (l : List LsE) : (enL l).length = l.length := by simp [enL]
theorem enL_at {l : List LsE} {k : Nat} {x : LsE} (h : l[k]? = some x) : (enL l)[k]? = some [.slice x.a (en2 x.es).length x.c] := by simp [enL, h]
theorem enL_app (l m : List LsE) : enL (l ++ m) = enL l ++ enL m := by simp [enL]
theorem enL_ok (l : List LsE) : OkE 1 (enL l) := fun x hx => by
  obtain ⟨y, _, rfl⟩ := List.mem_map.1 hx
  exact ⟨rfl, fun u hu => by simp at hu; subst hu; rfl⟩
def kvR (l : Kvs) : Prop := ∀ x ∈ l, -9223372036854775808 ≤ x.1 ∧ x.1 ≤ 9223372036854775807
structure ChOk (l r : Kvs) (c : Chg) : Prop where
  new : lget c.2.1 r = if c.1 = 2 then none else some c.2.2.2
  old : lget c.2.1 l = if c.1 = 1 then none else some c.2.2.1
  z1 : c.1 = 1 → c.2.2.1 = 0
  z2 : c.1 = 2 → c.2.2.2 = 0
  kd : c.1 = 1 ∨ c.1 = 2 ∨ c.1 = 3
theorem ChOk.up {l r l' r' : Kvs} {c : Chg} (h : ChOk l r c) (h1 : lget c.2.1 l' = lget c.2.1 l) (h2 : lget c.2.1 r' = lget c.2.1 r) : ChOk l' r' c :=
  ⟨by rw [h2]; exact h.new, by rw [h1]; exact h.old, h.z1, h.z2, h.kd⟩
end Go.V
/-! ## Hn -/
namespace Go.V
open Go Go.RowKit
def lsA (L : List Kvs) (i : Nat) : Kvs := L.getD i []
def lsB (L : List Kvs) (i : Nat) : Kvs := if i = 0 then [] else lsA L (i - 1)
def dA (lo hi : Int) (L : List Kvs) (i : Nat) : List Chg := inR lo hi (dif (lsB L i) (lsA L i))
def evA (i : Nat) (D : List Chg) : List Ev := D.map fun c => ((i : Int), c)
def hev (lo hi : Int) (L : List Kvs) (k : Nat) : List Ev := (List.range k).flatMap fun i => evA i (dA lo hi L i)
def LOk (L : List Kvs) : Prop := ∀ l ∈ L, Srt l ∧ l.length ≤ 100 ∧ kvR l
section
variable {L : List Kvs} {lo hi : Int}
theorem LOk.a (h : LOk L) (i : Nat) : Srt (lsA L i) ∧ (lsA L i).length ≤ 100 ∧ kvR (lsA L i) := by
  unfold lsA
  rw [List.getD_eq_getElem?_getD]
  cases hi : L[i]? with
  | none => exact ⟨List.Pairwise.nil, Nat.zero_le _, fun x hx => (by cases hx)⟩
  | some l => exact h l (List.mem_of_getElem? hi)
theorem LOk.b (h : LOk L) (i : Nat) : Srt (lsB L i) ∧ (lsB L i).length ≤ 100 ∧ kvR (lsB L i) := by
  unfold lsB
  split
  · exact ⟨List.Pairwise.nil, Nat.zero_le _, fun x hx => (by cases hx)⟩
  · exact h.a _
end
structure RTs (A : AM) (L : List Kvs) (rs : List Int) : Prop where
  len : L.length = rs.length
  get : ∀ (i : Nat) (r : Int), rs[i]? = some r → ∃ t : Tr, Is A t r ∧ t.ok ∧ t.ls = lsA L i
end Go.V
/-! ## Shd -/
namespace Go.V
open Go Go.RowKit
theorem St.shsDup {α : Type} {f : α → List HP} {zs : List α} {g w : World} {L : List HP} (h : St g L w) (i : Nat) (hi : L[i]? = some (Shs f zs)) : St g (Shs f zs :: L) w := by
  obtain ⟨o, r, a, b, c, d, e⟩ := h.own
  obtain ⟨o1, o2, h1, h2, hd, hh, hL⟩ := All.perm (perm_at hi) e
  exact ⟨h.os, h.tape, h.output, h.size, o, r, a, b, c, d, All.cat [Shs f zs] L (fun _ _ h => by cases h) (Sub.refl _) (Dj.none _) ⟨fun _ => none, fun _ => none, Sub.refl _, Sub.refl _, Dj.none _, hh, trivial⟩ e⟩
end Go.V
/-! ## Hc -/
namespace Go.V
open Go Go.RowKit
def leF (x : LsE) : List HP := [Sh 121 2 (en2 x.es) x.a x.c]
theorem leF_sh (x : LsE) : ∀ A ∈ leF x, Sht A := fun A hA => by
  simp only [leF, List.mem_singleton] at hA; subst hA; exact Sht.sh
structure ChI (A : AM) (R rs : List Int) (LL : List LsE) (m k n c : Nat) : Prop where
  ref : ARf A R
  rl : R.length ≤ k + 1
  mem : ∀ r ∈ rs, r ∈ R
  rsl : rs.length = k + 1
  trs : RTs A (LL.map LsE.es) rs
  lok : ∀ x ∈ LL, Srt x.es ∧ x.es.length ≤ m + k ∧ kvR x.es
  fr : ((1 + (n + 1) * c : Nat) : Int) ≤ A.s.free + (k * c : Nat)
structure ChJ (A B : AM) (R R2 : List Int) (o : Int) (ns : Kvs) (m k c : Nat) : Prop where
  ref : ARf B R2
  rl : R2.length ≤ R.length + 1
  sub : ∀ r ∈ R, r ∈ R2
  om : o ∈ R2
  tr : ∃ t : Tr, Is B t o ∧ t.ok ∧ t.ls = ns
  kp : Kp A B R
  ok : Srt ns ∧ ns.length ≤ m + (k + 1) ∧ kvR ns
  fr : A.s.free ≤ B.s.free + (c : Int)
section
variable {A B : AM} {R R2 rs : List Int} {LL : List LsE} {m k n c : Nat} {o : Int} {ns : Kvs}
theorem ChI.room (h : ChI A R rs LL m k n c) (hk : k < n) : (c : Int) ≤ A.s.free := by
  have h1 := h.fr
  have h2 : (k + 1) * c ≤ (n + 1) * c := Nat.mul_le_mul_right c (by omega)
  rw [Nat.succ_mul] at h2
  omega
theorem ChI.step (h : ChI A R rs LL m k n c) (j : ChJ A B R R2 o ns m k c) (na : Option Addr) (nc : Nat) : ChI B R2 (rs ++ [o]) (LL ++ [⟨ns, na, nc⟩]) m (k + 1) n c := by
  have hL : LL.length = rs.length := by have := h.trs.len; rw [List.length_map] at this; exact this
  refine ⟨j.ref, by have := j.rl; have := h.rl; omega, fun r hr => ?_, by rw [List.length_append, h.rsl]; rfl, ⟨by simp [hL], fun i r hr => ?_⟩, fun x hx => ?_, ?_⟩
  · rcases List.mem_append.1 hr with hr | hr
    · exact j.sub r (h.mem r hr)
    · rw [List.mem_singleton.1 hr]; exact j.om
  · rcases Nat.lt_or_ge i rs.length with hi | hi
    · rw [List.getElem?_append_left hi] at hr
      obtain ⟨t, h1, h2, h3⟩ := h.trs.get i r hr
      refine ⟨t, j.kp r (h.mem r (List.mem_of_getElem? hr)) t h1, h2, h3.trans ?_⟩
      unfold lsA
      rw [List.getD_eq_getElem?_getD, List.getD_eq_getElem?_getD, List.map_append, List.getElem?_append_left (by rw [List.length_map]; omega)]
    · rw [List.getElem?_append_right hi] at hr
      have hi2 : i = rs.length := by
        have := (List.getElem?_eq_some_iff.1 hr).1
        simp at this; omega
      subst hi2
      obtain ⟨t, h1, h2, h3⟩ := j.tr
      simp only [Nat.sub_self, List.getElem?_cons_zero, Option.some.injEq] at hr
      subst hr
      refine ⟨t, h1, h2, h3.trans ?_⟩
      unfold lsA
      rw [List.getD_eq_getElem?_getD, List.map_append, List.getElem?_append_right (by rw [List.length_map]; omega), List.length_map, hL, Nat.sub_self]; rfl
  · rcases List.mem_append.1 hx with hx | hx
    · have := h.lok x hx; exact ⟨this.1, by omega, this.2.2⟩
    · rw [List.mem_singleton.1 hx]; exact j.ok
  · have h1 := h.fr
    have h2 := j.fr
    have h3 : (((k + 1) * c : Nat) : Int) = ((k * c : Nat) : Int) + (c : Int) := by rw [Nat.succ_mul]; rfl
    rw [h3]
    omega
theorem ChI.at (h : ChI A R rs LL m k n c) {i : Nat} {r : Int} {z : LsE} (hr : rs[i]? = some r) (hz : LL[i]? = some z) : r ∈ R ∧ ∃ t : Tr, Is A t r ∧ t.ok ∧ t.ls = z.es := by
  obtain ⟨t, h1, h2, h3⟩ := h.trs.get i r hr
  refine ⟨h.mem r (List.mem_of_getElem? hr), t, h1, h2, h3.trans ?_⟩
  unfold lsA
  rw [List.getD_eq_getElem?_getD, List.getElem?_map, hz]; rfl
theorem ChI.same (h : ChI A R rs LL m k n c) {i : Nat} {r : Int} {z : LsE} (hr : rs[i]? = some r) (hz : LL[i]? = some z) : ChJ A A R R r z.es m k c := by
  obtain ⟨h1, h2⟩ := h.at hr hz
  have h3 := h.lok z (List.mem_of_getElem? hz)
  exact ⟨h.ref, by omega, fun _ h => h, h1, h2, Kp.refl _ _, ⟨h3.1, by omega, h3.2.2⟩, by omega⟩
theorem kvR_lins {k v : Int} {l : Kvs} (h : kvR l) (hk : -9223372036854775808 ≤ k ∧ k ≤ 9223372036854775807) : kvR (lins k v l) := fun x hx => by
  unfold lins at hx
  rcases List.mem_append.1 hx with hx | hx
  · exact h x (List.mem_filter.1 hx).1
  · rcases List.mem_cons.1 hx with rfl | hx
    · exact hk
    · exact h x (List.mem_filter.1 hx).1
theorem kvR_ldel {k : Int} {l : Kvs} (h : kvR l) : kvR (ldel k l) := fun x hx => h x (List.mem_filter.1 hx).1
theorem ChI.ins (h : ChI A R rs LL m k n c) {i : Nat} {z : LsE} (hz : LL[i]? = some z) {t : Tr} (h1 : t.ok) (h2 : t.ls = z.es) {key v : Int} {j : Int} {d : Nat} (hk : -9223372036854775808 ≤ key ∧ key ≤ 9223372036854775807) (f : TOp A B R j (Tr.ins key v t) d) (hd : d ≤ c) : ChJ A B R (j :: R) j (lins key v z.es) m k c := by
  have h3 := h.lok z (List.mem_of_getElem? hz)
  refine ⟨f.ref, Nat.le_refl _, fun _ h => List.mem_cons_of_mem _ h, List.mem_cons_self .., ⟨_, f.is, Tr.ins_ok key v t h1, ?_⟩, f.kp, ⟨lins_srt h3.1, ?_, kvR_lins h3.2.2 hk⟩, by have := f.fr; omega⟩
  · rw [Tr.ins_ls key v t (by rw [h2]; exact h3.1), h2]
  · rw [lins_len h3.1]; split <;> omega
theorem ChI.del (h : ChI A R rs LL m k n c) {i : Nat} {z : LsE} (hz : LL[i]? = some z) {t : Tr} (h1 : t.ok) (h2 : t.ls = z.es) {key : Int} {j : Int} {d : Nat} (f : TOp A B R j (Tr.del key t) d) (hd : d ≤ c) : ChJ A B R (j :: R) j (ldel key z.es) m k c := by
  have h3 := h.lok z (List.mem_of_getElem? hz)
  refine ⟨f.ref, Nat.le_refl _, fun _ h => List.mem_cons_of_mem _ h, List.mem_cons_self .., ⟨_, f.is, Tr.del_ok key t h1, ?_⟩, f.kp, ⟨ldel_srt h3.1, ?_, kvR_ldel h3.2.2⟩, by have := f.fr; omega⟩
  · rw [Tr.del_ls key t (by rw [h2]; exact h3.1), h2]
  · exact Nat.le_trans (List.length_filter_le _ _) (by omega)
theorem ChI.fin (h : ChI A R rs LL m k n c) (hm : m + k ≤ 100) : LOk (LL.map LsE.es) := fun l hl => by
  obtain ⟨x, hx, rfl⟩ := List.mem_map.1 hl
  have := h.lok x hx
  exact ⟨this.1, by omega, this.2.2⟩
end
end Go.V
/-! ## Rz -/
namespace Go.V
open Go Go.RowKit
structure RSt where
  cap : Int
  T : TM
  P : List PR
  B : List Bool
  LL : List LsE
  ra : Option Addr
  ga : Option Addr
  oa : Option Addr
  va : Option Addr
  pa : Option Addr
  ba : Option Addr
  la : Option Addr
  rc : Nat
  gc : Nat
  oc : Nat
  vc : Nat
  pc : Nat
  bc : Nat
  lc : Nat
def rsF (z : RSt) : List HP := [Sh 64 1 (u32s z.T.s.rel) z.ra z.rc, Sh 64 1 (u32s (z.T.s.gen.drop 1)) z.ga z.gc, Sh 4 1 (bos (z.T.s.used.drop 1)) z.oa z.oc, Sh 64 1 (u32s (z.T.vals.drop 1)) z.va z.vc, Sh 56 1 (enP z.P) z.pa z.pc, Shs prF z.P, Sh 4 1 (bos z.B) z.ba z.bc, Sh 49 1 (enL z.LL) z.la z.lc, Shs leF z.LL]
theorem rsF_sh (z : RSt) : ∀ A ∈ rsF z, Sht A := fun A hA => by
  simp only [rsF, List.mem_cons, List.not_mem_nil, or_false] at hA
  rcases hA with rfl | rfl | rfl | rfl | rfl | rfl | rfl | rfl | rfl
  · exact Sht.sh
  · exact Sht.sh
  · exact Sht.sh
  · exact Sht.sh
  · exact Sht.sh
  · exact Sht.shs
  · exact Sht.sh
  · exact Sht.sh
  · exact Sht.shs
theorem St.rsGet {g w : World} {L : List HP} {z : RSt} (h : St g L w) (i : Nat) (hi : L[i]? = some (Shs rsF [z])) : St g (rsF z ++ L) w := h.shsGet i hi (List.mem_singleton.2 rfl)
theorem St.rsPut {g w : World} {L : List HP} (z : RSt) (h : St g L w) (is : List Nat) (hp : Go.V.pick L is = some (rsF z)) : St g (Shs rsF [z] :: L) w := (h.shsNil rsF).shsCons (rsF_sh z) is hp
structure ROk (z : RSt) : Prop where
  t : TOk z.T
  p : PRk z.P
  b : z.B.length = z.P.length
  l : z.LL.length = z.P.length
  n : z.P.length ≤ 900
  c : 1 ≤ z.cap ∧ z.cap ≤ 4096
def RSt.rel (z : RSt) (h : Int) (ra oa ba : Option Addr) (rc oc bc : Nat) : RSt := { z with T := z.T.close h, B := z.B.set (z.T.val h - 1).toNat false, ra := ra, oa := oa, ba := ba, rc := rc, oc := oc, bc := bc }
def RSt.add (z : RSt) (ps : List Int) (es : LsE) (ra ga oa va pa ba la e : Option Addr) (rc gc oc vc pc bc lc f : Nat) : RSt := { cap := z.cap, T := z.T.open (z.P.length + 1), P := z.P ++ [PR.mk ps e f], B := z.B ++ [true], LL := z.LL ++ [es], ra := ra, ga := ga, oa := oa, va := va, pa := pa, ba := ba, la := la, rc := rc, gc := gc, oc := oc, vc := vc, pc := pc, bc := bc, lc := lc }
noncomputable def RSt.room (z : RSt) : Int := min (z.cap - ((numL (pres z.P z.B)).length : Int)) z.T.s.free
end Go.V
