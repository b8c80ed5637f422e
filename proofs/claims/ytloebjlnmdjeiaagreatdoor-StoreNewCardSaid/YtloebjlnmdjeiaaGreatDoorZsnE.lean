/-
  The row of StoreNew: for every input the law returns true, and the arguments read as before.
  Conditions: none.
-/
import Derived.Test.YtloebjlnmdjeiaaGreatDoorZsnD
/-! ## Sc6 -/
namespace Go.Proofs.YtloebjlnmdjeiaaGreatDoor
open Go Go.V Go.RowKit Go.Maps
theorem Com.pre {V V2 : VM} {A : AM} {R ps : List Int} {root : Int} (hV : VI V A R) (h : Com V root ps V2) : (∀ z, preG V2.xs z = (preG V.xs z || decide (z = V.last + 1))) ∧ (∀ z, liveG V2.xs z = (liveG V.xs z || decide (z = V.last + 1))) ∧ V2.rs = V.rs ++ [⟨V.last + 1, root, V.q2⟩] := by
  obtain ⟨⟨xs2, q, rfl, hA⟩, h0⟩ := h
  obtain ⟨_, _, _, h1, h2, _⟩ := (AddP.facts hV.g.le hA).resolve_left fun e => e.1 h0
  exact ⟨h2, h1, rfl⟩
theorem FZ.init {cc uu : Nat} (hc : 2 ≤ cc ∧ cc ≤ 4096) (hu : 1 ≤ uu ∧ uu ≤ 65536) {V1 : VM} (f1 : VI V1 (AM.new uu) []) (f2 : Com (VM.new cc) 0 [] V1) : FZ (cc : Int) (uu : Int) V1 (AM.new uu) (VM.new cc).T.newH 0 .nil ∧ V1.last = 1 := by
  have hV0 := VI.new (slots := uu) (cap := cc) (by omega) (by omega)
  have hr0 := room_new (n := cc)
  have a1 := Com.add1 hV0 f2 (by rw [hr0]; omega)
  obtain ⟨p1, _, p3⟩ := Com.pre hV0 f2
  have la : V1.last = 1 := a1.la
  refine ⟨⟨f1, a1.opn, a1.rng, by rw [a1.val, la]; rfl, fun z => ?_, ?_, a1.cap, ⟨0, by rw [p3, la]; rfl⟩, rfl, trivial, List.Pairwise.nil, (by show ((List.replicate (uu + 1) false).length : Int) = uu + 1; rw [List.length_replicate]; omega)⟩, la⟩
  · rw [p1, la]
    show ((preG [] z) || decide (z = 0 + 1)) = true ↔ z = 1
    simp [preG, vfind]
  · rw [a1.free, show (VM.new cc).T.s.free = ((cc : Nat) : Int) from SM.new_free cc]
theorem FZ.step {cc uu : Int} (hcc : 2 ≤ cc) {V V2 V3 : VM} {A A1 A3 A4 : AM} {hd root j1 : Int} {t t' : Tr} {c : Nat} (h : FZ cc uu V A hd root t) (hI : TOp A A1 (V.rs.map RN.root ++ []) j1 t' c) (hok : t'.ok) (hsr : Srt t'.ls) (hC : Com V j1 [V.T.val hd] V2) (hV2 : VI V2 (A1.ret j1) [j1])
    (hL : Rl (A1.ret j1) A3 (V2.rs.map RN.root ++ [])) (hR : Rls V2 hd V3) (hV3 : VI V3 A4 []) (kp : Kp A3 A4 (V3.rs.map RN.root ++ [])) (hu : A4.s.used.length = A3.s.used.length) : FZ cc uu V3 A4 V.T.newH j1 t' ∧ V3.last = V.last + 1 := by
  have hr := h.room
  have hV1 : VI V A1 [j1] := h.vi.ar (hI.ref.perm (by simpa using (List.perm_middle (a := j1) (l₁ := V.rs.map RN.root) (l₂ := [])).symm))
  have a1 := Com.add1 hV1 hC (by omega)
  obtain ⟨p1, p2, p3⟩ := Com.pre hV1 hC
  have hold := a1.old hd h.opn
  have l3 : V3.last = V.last + 1 := by rw [congrArg VM.last hR.eq]; exact a1.la
  have hvh : V2.T.val hd = V.last := by rw [hold.2, h.val]
  have hcl := hV2.t.opn_close hold.1 a1.opn (by rw [hvh, a1.val]; omega)
  have hT3 : V3.T = V2.T.close hd := congrArg VM.T hR.eq
  rw [← hT3] at hcl
  have hlast : liveG V.xs V.last = true := by have := (VM.open_val h.vi h.opn).1; rw [h.val] at this; exact this
  have hrel := hR.rel
  rw [hvh] at hrel
  have hpre := rel_single (m := V.last + 1) hrel (by rw [p2, hlast]; rfl) (fun z hz => by
    rw [p2, Bool.or_eq_true] at hz
    rcases hz with hz | hz
    · exact .inl ((h.pre z).1 (live_pre hz))
    · exact .inr (of_decide_eq_true hz)) (by rw [p2]; simp) (by omega)
  obtain ⟨b, hb⟩ := h.rs
  have hrs : V3.rs = [⟨V.last + 1, j1, V.q2⟩] := single_of hV3.k.uniq fun x => by
    rw [hR.sub x, p3, hb, hpre]
    constructor
    · rintro ⟨h1, h2⟩
      simp only [List.cons_append, List.nil_append, List.mem_cons, List.not_mem_nil, or_false] at h1
      rcases h1 with h1 | h1
      · rw [h1] at h2; exact absurd h2 (by show ¬ V.last = V.last + 1; omega)
      · exact h1
    · intro h1; rw [h1]; exact ⟨by simp, rfl⟩
  refine ⟨⟨hV3, hcl.1, a1.rng, by rw [hcl.2, a1.val, l3], fun z => by rw [hpre, l3], ?_, ?_, ⟨V.q2, by rw [hrs, l3]⟩, ?_, hok, hsr, ?_⟩, l3⟩
  · rw [hT3, show (V2.T.close hd).s.free = V2.T.s.free + 1 from SM.release_free _, a1.free, h.free]; omega
  · rw [congrArg VM.cap hR.eq]; show V2.cap = cc; rw [a1.cap, h.cap]
  · have h1 := hL.kp j1 (by rw [p3]; simp) t' (hI.is.ret j1)
    exact kp j1 (by rw [hrs]; simp) t' h1
  · rw [hu, hL.cap, (AM.ret_same _ _).1, hI.cap, h.acap]
def opH (c h k v : Int) : OpM := { op0 c with a := h, key := k, val := v }
theorem okOp_h {c h k v : Int} (hc : (c = 2 ∧ v = 0) ∨ c = 3 ∨ (c = 9 ∧ k = 0 ∧ v = 0)) : okOp (opH c h k v) := by
  have hl : OpL (opH c h k v) := ⟨⟨Int.le_refl 0, (by show (0 : Int) ≤ 2147483647; decide)⟩, (by show 0 ≤ 32; decide), Nat.zero_le _, Nat.zero_le _, Nat.zero_le _⟩
  rcases hc with ⟨rfl, rfl⟩ | rfl | ⟨rfl, rfl, rfl⟩
  · exact ⟨rfl, hl, fun _ h => (by cases h), fun e => absurd (show 65 ∈ fs 2 by decide) e, fun _ => rfl, fun e => absurd (show 75 ∈ fs 2 by decide) e, fun _ => rfl, fun _ => rfl, fun _ => rfl, fun _ => rfl, fun _ => rfl, fun _ => rfl, fun _ => rfl, fun _ => rfl, fun _ => rfl⟩
  · exact ⟨rfl, hl, fun _ h => (by cases h), fun e => absurd (show 65 ∈ fs 3 by decide) e, fun _ => rfl, fun e => absurd (show 75 ∈ fs 3 by decide) e, fun e => absurd (show 86 ∈ fs 3 by decide) e, fun _ => rfl, fun _ => rfl, fun _ => rfl, fun _ => rfl, fun _ => rfl, fun _ => rfl, fun _ => rfl, fun _ => rfl⟩
  · exact ⟨rfl, hl, fun _ h => (by cases h), fun e => absurd (show 65 ∈ fs 9 by decide) e, fun _ => rfl, fun _ => rfl, fun _ => rfl, fun _ => rfl, fun _ => rfl, fun _ => rfl, fun _ => rfl, fun _ => rfl, fun _ => rfl, fun _ => rfl, fun _ => rfl⟩
theorem opn_closed {T : TM} (hT : TOk T) {h : Int} (ho : T.s.opn h = true) : (T.close h).s.opn h = false := by
  have h1 := SM.release_ok' hT.s (i := h % 4294967296) (j := h % 4294967296) (by omega) (SM.opn_ok ho).1 (by omega)
  rw [if_pos rfl] at h1
  unfold SM.opn
  rw [show (T.close h).s.ok (h % 4294967296) = false from h1]; rfl
set_option maxRecDepth 8192 in
theorem valid_h {g w : World} {L : List HP} (oc h k vv : Int) (hc : (oc = 2 ∧ vv = 0) ∨ oc = 3 ∨ (oc = 9 ∧ k = 0 ∧ vv = 0)) (hS : St g (L) w) :
    Sp Tryz.prog 23 [.agg #[.int .i64 oc, .int .u64 h, .int .u64 0, .int .i64 k, .int .i64 vv, .int .i64 0, .int .i64 0, .int .i64 0, .bool false, .string ⟨#[]⟩, .slice none 0 0, .slice none 0 0, .slice none 0 0]] w (fun v w' => v = .bool true ∧ St g (L) w') := by
  refine (valid_spec (opH oc h k vv) none none none 0 0 0 (hS.nilS 125 4)).mono fun v w' h => ?_
  obtain ⟨ok, h1, h2, h3⟩ := h
  have h4 : ok = true := h3.2 (okOp_h hc)
  subst h4
  exact ⟨h1, h2.sel 1 [] rfl⟩
set_option maxRecDepth 8192 in
theorem snd_h {g w : World} {L : List HP} (oc h k vv : Int) (hc : oc = 2 ∨ oc = 3 ∨ oc = 9) (hS : St g (L) w) :
    Sp Tryz.prog 24 [.agg #[.int .i64 oc, .int .u64 h, .int .u64 0, .int .i64 k, .int .i64 vv, .int .i64 0, .int .i64 0, .int .i64 0, .bool false, .string ⟨#[]⟩, .slice none 0 0, .slice none 0 0, .slice none 0 0]] w (fun v w' => v = .bool true ∧ St g (L) w') := by
  refine Sp.enter Tryz.func24 rfl (by kernel_rfl) (by kernel_rfl) ?_
  have _ := hc
  refine WC.seq ?_
  refine WC.region ?_
  refine WL.box rfl rfl #[.int .i64 oc, .int .u64 h, .int .u64 0, .int .i64 k, .int .i64 vv, .int .i64 0, .int .i64 0, .int .i64 0, .bool false, .string ⟨#[]⟩, .slice none 0 0, .slice none 0 0, .slice none 0 0] hS rfl rfl (fun b1 w hS => ?_)
  refine WL.r 1 rfl ?_
  refine WL.nil ?_
  refine WC.seq ?_
  refine WC.seq ?_
  refine WC.region ?_
  refine WL.run 2 [.int .i64 oc] rfl (by exact hS.ld 0 rfl rfl) ?_
  refine WL.nil ?_
  refine WC.block ?_
  refine WC.seq ?_
  refine WC.region ?_
  refine WL.r 2 rfl ?_
  refine WL.nil ?_
  refine WC.ifF rfl (decide_eq_false ((by omega))) ?_
  refine WC.seq ?_
  refine WC.region ?_
  refine WL.r 2 rfl ?_
  refine WL.nil ?_
  refine WC.ifF rfl (decide_eq_false ((by omega))) ?_
  refine WC.seq ?_
  refine WC.region ?_
  refine WL.r 2 rfl ?_
  refine WL.nil ?_
  as_aux_lemma =>
    refine WC.ifF rfl (decide_eq_false ((by omega))) ?_
    refine WC.seq ?_
    refine WC.region ?_
    refine WL.r 2 rfl ?_
    refine WL.nil ?_
    refine WC.ifF rfl (decide_eq_false ((by omega))) ?_
    refine WC.seq ?_
    refine WC.region ?_
    refine WL.r 2 rfl ?_
    refine WL.nil ?_
    refine WC.ifF rfl (decide_eq_false ((by omega))) ?_
    refine WC.seq ?_
    refine WC.region ?_
    refine WL.r 2 rfl ?_
    refine WL.nil ?_
    refine WC.ifF rfl (decide_eq_false ((by omega))) ?_
    refine WC.seq ?_
    refine WC.region ?_
    refine WL.r 2 rfl ?_
    refine WL.nil ?_
    refine WC.ifF rfl (decide_eq_false ((by omega))) ?_
    refine WC.skip ?_
    refine WC.seq ?_
    refine WC.region ?_
    refine WL.r 1 rfl ?_
    refine WL.nil ?_
    as_aux_lemma =>
      refine WC.ret ?_
      refine ⟨[.bool true], rfl, ?_⟩
      replace hS := (hS.sel 1 [] rfl)
      exact ⟨rfl, hS⟩
set_option maxRecDepth 8192 in
theorem root_h {g w : World} {L : List HP} (p s a : Nat) (V : VM) (A : AM) (R : List Int) (h : Int) (hV : VI V A R) (hh : 0 ≤ h ∧ h ≤ 18446744073709551615) (hn : V.T.s.opn h = true) (hS : St g (Sto p s a V :: L) w) :
    Sp Tryz.prog 54 [.pointer (some ⟨p, 0, none⟩), .int .u64 h] w (fun v w' => v = .int .u32 (V.rootOf (V.T.val h)) ∧ St g (Sto p s a V :: L) w') := by
  refine Sp.enter Tryz.func54 rfl (by kernel_rfl) (by kernel_rfl) ?_
  refine WC.seq ?_
  refine WC.region ?_
  refine WL.r 1 rfl ?_
  refine WL.nil ?_
  refine WC.seq ?_
  refine WC.region ?_
  obtain ⟨⟨nm, c, x, m⟩, hS⟩ := St.exOpen (f := stoF p s a V) hS
  replace hS : St g (cel p #[.pointer (some ⟨s, 0, none⟩), .pointer (some ⟨nm, 0, none⟩), .pointer (some ⟨c, 0, none⟩), .pointer (some ⟨x, 0, none⟩), .map (some m)] 49 :: Vst s a V :: blk m (.map (mE []) 0) :: L) w := hS
  refine WL.run 5 [.pointer (some ⟨s, 0, none⟩)] rfl (by exact hS.ld 0 rfl rfl) ?_
  refine WL.call rfl rfl (vs_root_ok (s := s) (a := a) (V := V) (A := A) (R := R) (h := h) (hV := hV) (hh := hh) (hn := hn) (hS := (hS.sel 2 [1, 0] rfl))) rfl ?_
  clear hS; rintro _ w ⟨rfl, hS⟩
  replace hS : St g (Vst s a V :: cel p #[.pointer (some ⟨s, 0, none⟩), .pointer (some ⟨nm, 0, none⟩), .pointer (some ⟨c, 0, none⟩), .pointer (some ⟨x, 0, none⟩), .map (some m)] 49 :: blk m (.map (mE []) 0) :: L) w := hS
  refine WL.r 5 rfl ?_
  refine WL.nil ?_
  refine WC.seq ?_
  refine WC.region ?_
  refine WL.r 2 rfl ?_
  refine WL.nil ?_
  refine WC.ret ?_
  replace hS := St.exClose (f := stoF p s a V) (L := L) ⟨nm, c, x, m⟩ ((hS.sel 2 [1, 0] rfl))
  replace hS : St g (Sto p s a V :: L) w := hS
  refine ⟨[.int .u32 (V.rootOf (V.T.val h))], rfl, ?_⟩
  exact ⟨rfl, hS⟩
set_option maxRecDepth 8192 in
theorem opA_h {g w : World} {L : List HP} (p s a : Nat) (V : VM) (A : AM) (R : List Int) (oc h k vv : Int) (hc : oc = 2 ∨ oc = 3 ∨ oc = 9) (hV : VI V A R) (hh : 0 ≤ h ∧ h ≤ 18446744073709551615) (hn : V.T.s.opn h = true) (hS : St g (Sto p s a V :: L) w) :
    Sp Tryz.prog 50 [.pointer (some ⟨p, 0, none⟩), .agg #[.int .i64 oc, .int .u64 h, .int .u64 0, .int .i64 k, .int .i64 vv, .int .i64 0, .int .i64 0, .int .i64 0, .bool false, .string ⟨#[]⟩, .slice none 0 0, .slice none 0 0, .slice none 0 0]] w (fun v w' => v = .int .i64 0 ∧ St g (Sto p s a V :: L) w') := by
  refine Sp.enter Tryz.func50 rfl (by kernel_rfl) (by kernel_rfl) ?_
  have _ := hc
  refine WC.seq ?_
  refine WC.region ?_
  refine WL.box rfl rfl #[.int .i64 oc, .int .u64 h, .int .u64 0, .int .i64 k, .int .i64 vv, .int .i64 0, .int .i64 0, .int .i64 0, .bool false, .string ⟨#[]⟩, .slice none 0 0, .slice none 0 0, .slice none 0 0] hS rfl rfl (fun b1 w hS => ?_)
  refine WL.r 1 rfl ?_
  refine WL.nil ?_
  refine WC.seq ?_
  refine WC.seq ?_
  refine WC.region ?_
  refine WL.run 2 [.int .i64 oc] rfl (by exact hS.ld 0 rfl rfl) ?_
  refine WL.nil ?_
  refine WC.block ?_
  refine WC.seq ?_
  refine WC.seq ?_
  refine WC.region ?_
  refine WL.r 2 rfl ?_
  refine WL.nil ?_
  refine WC.ifF rfl (decide_eq_false ((by omega))) ?_
  refine WC.seq ?_
  refine WC.region ?_
  refine WL.r 2 rfl ?_
  refine WL.nil ?_
  refine WC.ifF rfl (decide_eq_false ((by omega))) ?_
  refine WC.seq ?_
  refine WC.region ?_
  refine WL.r 2 rfl ?_
  refine WL.nil ?_
  as_aux_lemma =>
    refine WC.ifF rfl (decide_eq_false ((by omega))) ?_
    refine WC.seq ?_
    refine WC.region ?_
    refine WL.r 2 rfl ?_
    refine WL.nil ?_
    refine WC.ifF rfl (decide_eq_false ((by omega))) ?_
    refine WC.seq ?_
    refine WC.region ?_
    refine WL.r 2 rfl ?_
    refine WL.nil ?_
    refine WC.ifF rfl (decide_eq_false ((by omega))) ?_
    refine WC.region ?_
    refine WL.r 2 rfl ?_
    refine WL.nil ?_
    refine WC.ifF rfl (decide_eq_false ((by omega))) ?_
    refine WC.seq ?_
    refine WC.seq ?_
    refine WC.region ?_
    refine WL.r 2 rfl ?_
    refine WL.nil ?_
    refine WC.ifF rfl (decide_eq_false ((by omega))) ?_
    refine WC.region ?_
    refine WL.r 2 rfl ?_
    refine WL.nil ?_
    refine WC.ifF rfl (decide_eq_false ((by omega))) ?_
    refine WC.seq ?_
    refine WC.seq ?_
    refine WC.region ?_
    refine WL.r 2 rfl ?_
    refine WL.nil ?_
    as_aux_lemma =>
      refine WC.ifF rfl (decide_eq_false ((by omega))) ?_
      refine WC.seq ?_
      refine WC.region ?_
      refine WL.r 2 rfl ?_
      refine WL.nil ?_
      refine WC.ifF rfl (decide_eq_false ((by omega))) ?_
      refine WC.seq ?_
      refine WC.region ?_
      refine WL.r 2 rfl ?_
      refine WL.nil ?_
      refine WC.ifF rfl (decide_eq_false ((by omega))) ?_
      refine WC.seq ?_
      refine WC.region ?_
      refine WL.r 2 rfl ?_
      refine WL.nil ?_
      refine WC.ifF rfl (decide_eq_false ((by omega))) ?_
      refine WC.seq ?_
      refine WC.region ?_
      refine WL.r 2 rfl ?_
      refine WL.nil ?_
      refine WC.ifF rfl (decide_eq_false ((by omega))) ?_
      refine WC.region ?_
      refine WL.r 2 rfl ?_
      refine WL.nil ?_
      refine WC.ifF rfl (decide_eq_false ((by omega))) ?_
      refine WC.skip ?_
      as_aux_lemma =>
        refine WC.seq ?_
        refine WC.plan [([0, 4, 1, 5, 2, 3], some (6, [])), ([7, 8, 9, 10, 11], none)] (by kernel_rfl) (by kernel_rfl) ?_
        obtain ⟨⟨nm, c, x, m⟩, hS⟩ := St.exOpen (f := stoF p s a V) (hS.at_ 1 rfl)
        replace hS : St g (cel p #[.pointer (some ⟨s, 0, none⟩), .pointer (some ⟨nm, 0, none⟩), .pointer (some ⟨c, 0, none⟩), .pointer (some ⟨x, 0, none⟩), .map (some m)] 49 :: Vst s a V :: blk m (.map (mE []) 0) :: cel b1 #[.int .i64 oc, .int .u64 h, .int .u64 0, .int .i64 k, .int .i64 vv, .int .i64 0, .int .i64 0, .int .i64 0, .bool false, .string ⟨#[]⟩, .slice none 0 0, .slice none 0 0, .slice none 0 0] 63 :: L) w := hS
        refine WQ.run 6 [.int .u64 h, .pointer (some ⟨s, 0, none⟩)] rfl (by exact ⟨hS.ld 3 rfl rfl, hS.ld 0 rfl rfl⟩) ?_
        refine WQ.nil ?_
        intro m1
        replace hS := hS.drewN m1; generalize hwm1 : World.drewN _ _ = w at *; clear hwm1
        refine WL.call rfl rfl (vs_root_ok (s := s) (a := a) (V := V) (A := A) (R := R) (h := h) (hV := hV) (hh := hh) (hn := hn) (hS := (hS.sel 2 [1, 0] rfl))) rfl ?_
        clear hS; rintro _ w ⟨rfl, hS⟩
        replace hS : St g (Vst s a V :: cel p #[.pointer (some ⟨s, 0, none⟩), .pointer (some ⟨nm, 0, none⟩), .pointer (some ⟨c, 0, none⟩), .pointer (some ⟨x, 0, none⟩), .map (some m)] 49 :: blk m (.map (mE []) 0) :: cel b1 #[.int .i64 oc, .int .u64 h, .int .u64 0, .int .i64 k, .int .i64 vv, .int .i64 0, .int .i64 0, .int .i64 0, .bool false, .string ⟨#[]⟩, .slice none 0 0, .slice none 0 0, .slice none 0 0] 63 :: L) w := hS
        refine WL.nil ?_
        refine ⟨by exact trivial, ?_⟩
        refine WQ.r 5 rfl ?_
        refine WQ.nil ?_
        intro m2
        replace hS := hS.drewN m2; generalize hwm2 : World.drewN _ _ = w at *; clear hwm2
        refine WC.seq ?_
        refine WC.region ?_
        refine WL.r 2 rfl ?_
        refine WL.nil ?_
        refine WC.ret ?_
        replace hS := St.exClose (f := stoF p s a V) (L := cel b1 #[.int .i64 oc, .int .u64 h, .int .u64 0, .int .i64 k, .int .i64 vv, .int .i64 0, .int .i64 0, .int .i64 0, .bool false, .string ⟨#[]⟩, .slice none 0 0, .slice none 0 0, .slice none 0 0] 63 :: L) ⟨nm, c, x, m⟩ ((hS.sel 2 [1, 0] rfl))
        replace hS : St g (Sto p s a V :: cel b1 #[.int .i64 oc, .int .u64 h, .int .u64 0, .int .i64 k, .int .i64 vv, .int .i64 0, .int .i64 0, .int .i64 0, .bool false, .string ⟨#[]⟩, .slice none 0 0, .slice none 0 0, .slice none 0 0] 63 :: L) w := hS
        refine ⟨[.int .i64 0], rfl, ?_⟩
        replace hS := (hS.sel 2 [0] rfl)
        exact ⟨rfl, hS⟩
set_option maxRecDepth 8192 in
theorem opA_bad {g w : World} {L : List HP} (p s a : Nat) (V : VM) (oc h k vv : Int) (hc : oc = 2 ∨ oc = 3 ∨ oc = 9) (hT : TOk V.T) (hh : 0 ≤ h ∧ h ≤ 18446744073709551615) (hn : V.T.s.opn h = false) (hS : St g (Sto p s a V :: L) w) :
    Sp Tryz.prog 50 [.pointer (some ⟨p, 0, none⟩), .agg #[.int .i64 oc, .int .u64 h, .int .u64 0, .int .i64 k, .int .i64 vv, .int .i64 0, .int .i64 0, .int .i64 0, .bool false, .string ⟨#[]⟩, .slice none 0 0, .slice none 0 0, .slice none 0 0]] w (fun v w' => v = .int .i64 5 ∧ St g (Sto p s a V :: L) w') := by
  refine Sp.enter Tryz.func50 rfl (by kernel_rfl) (by kernel_rfl) ?_
  have _ := hc
  refine WC.seq ?_
  refine WC.region ?_
  refine WL.box rfl rfl #[.int .i64 oc, .int .u64 h, .int .u64 0, .int .i64 k, .int .i64 vv, .int .i64 0, .int .i64 0, .int .i64 0, .bool false, .string ⟨#[]⟩, .slice none 0 0, .slice none 0 0, .slice none 0 0] hS rfl rfl (fun b1 w hS => ?_)
  refine WL.r 1 rfl ?_
  refine WL.nil ?_
  refine WC.seq ?_
  refine WC.seq ?_
  refine WC.region ?_
  refine WL.run 2 [.int .i64 oc] rfl (by exact hS.ld 0 rfl rfl) ?_
  refine WL.nil ?_
  refine WC.block ?_
  refine WC.seq ?_
  refine WC.seq ?_
  refine WC.region ?_
  refine WL.r 2 rfl ?_
  refine WL.nil ?_
  refine WC.ifF rfl (decide_eq_false ((by omega))) ?_
  refine WC.seq ?_
  refine WC.region ?_
  refine WL.r 2 rfl ?_
  refine WL.nil ?_
  refine WC.ifF rfl (decide_eq_false ((by omega))) ?_
  refine WC.seq ?_
  refine WC.region ?_
  refine WL.r 2 rfl ?_
  refine WL.nil ?_
  as_aux_lemma =>
    refine WC.ifF rfl (decide_eq_false ((by omega))) ?_
    refine WC.seq ?_
    refine WC.region ?_
    refine WL.r 2 rfl ?_
    refine WL.nil ?_
    refine WC.ifF rfl (decide_eq_false ((by omega))) ?_
    refine WC.seq ?_
    refine WC.region ?_
    refine WL.r 2 rfl ?_
    refine WL.nil ?_
    refine WC.ifF rfl (decide_eq_false ((by omega))) ?_
    refine WC.region ?_
    refine WL.r 2 rfl ?_
    refine WL.nil ?_
    refine WC.ifF rfl (decide_eq_false ((by omega))) ?_
    refine WC.seq ?_
    refine WC.seq ?_
    refine WC.region ?_
    refine WL.r 2 rfl ?_
    refine WL.nil ?_
    refine WC.ifF rfl (decide_eq_false ((by omega))) ?_
    refine WC.region ?_
    refine WL.r 2 rfl ?_
    refine WL.nil ?_
    refine WC.ifF rfl (decide_eq_false ((by omega))) ?_
    refine WC.seq ?_
    refine WC.seq ?_
    refine WC.region ?_
    refine WL.r 2 rfl ?_
    refine WL.nil ?_
    as_aux_lemma =>
      refine WC.ifF rfl (decide_eq_false ((by omega))) ?_
      refine WC.seq ?_
      refine WC.region ?_
      refine WL.r 2 rfl ?_
      refine WL.nil ?_
      refine WC.ifF rfl (decide_eq_false ((by omega))) ?_
      refine WC.seq ?_
      refine WC.region ?_
      refine WL.r 2 rfl ?_
      refine WL.nil ?_
      refine WC.ifF rfl (decide_eq_false ((by omega))) ?_
      refine WC.seq ?_
      refine WC.region ?_
      refine WL.r 2 rfl ?_
      refine WL.nil ?_
      refine WC.ifF rfl (decide_eq_false ((by omega))) ?_
      refine WC.seq ?_
      refine WC.region ?_
      refine WL.r 2 rfl ?_
      refine WL.nil ?_
      refine WC.ifF rfl (decide_eq_false ((by omega))) ?_
      refine WC.region ?_
      refine WL.r 2 rfl ?_
      refine WL.nil ?_
      refine WC.ifF rfl (decide_eq_false ((by omega))) ?_
      refine WC.skip ?_
      as_aux_lemma =>
        refine WC.seq ?_
        refine WC.plan [([0, 4, 1, 5, 2, 3], some (6, [])), ([7, 8, 9, 10, 11], none)] (by kernel_rfl) (by kernel_rfl) ?_
        obtain ⟨⟨nm, c, x, m⟩, hS⟩ := St.exOpen (f := stoF p s a V) (hS.at_ 1 rfl)
        replace hS : St g (cel p #[.pointer (some ⟨s, 0, none⟩), .pointer (some ⟨nm, 0, none⟩), .pointer (some ⟨c, 0, none⟩), .pointer (some ⟨x, 0, none⟩), .map (some m)] 49 :: Vst s a V :: blk m (.map (mE []) 0) :: cel b1 #[.int .i64 oc, .int .u64 h, .int .u64 0, .int .i64 k, .int .i64 vv, .int .i64 0, .int .i64 0, .int .i64 0, .bool false, .string ⟨#[]⟩, .slice none 0 0, .slice none 0 0, .slice none 0 0] 63 :: L) w := hS
        refine WQ.run 6 [.int .u64 h, .pointer (some ⟨s, 0, none⟩)] rfl (by exact ⟨hS.ld 3 rfl rfl, hS.ld 0 rfl rfl⟩) ?_
        refine WQ.nil ?_
        intro m1
        replace hS := hS.drewN m1; generalize hwm1 : World.drewN _ _ = w at *; clear hwm1
        refine WL.call rfl rfl (vs_root_bad (s := s) (a := a) (V := V) (h := h) (hT := hT) (hh := hh) (hn := hn) (hS := (hS.sel 2 [1, 0] rfl))) rfl ?_
        clear hS; rintro _ w ⟨rfl, hS⟩
        replace hS : St g (Vst s a V :: cel p #[.pointer (some ⟨s, 0, none⟩), .pointer (some ⟨nm, 0, none⟩), .pointer (some ⟨c, 0, none⟩), .pointer (some ⟨x, 0, none⟩), .map (some m)] 49 :: blk m (.map (mE []) 0) :: cel b1 #[.int .i64 oc, .int .u64 h, .int .u64 0, .int .i64 k, .int .i64 vv, .int .i64 0, .int .i64 0, .int .i64 0, .bool false, .string ⟨#[]⟩, .slice none 0 0, .slice none 0 0, .slice none 0 0] 63 :: L) w := hS
        refine WL.nil ?_
        refine ⟨by exact trivial, ?_⟩
        refine WQ.r 5 rfl ?_
        refine WQ.nil ?_
        intro m2
        replace hS := hS.drewN m2; generalize hwm2 : World.drewN _ _ = w at *; clear hwm2
        refine WC.seq ?_
        refine WC.region ?_
        refine WL.r 2 rfl ?_
        refine WL.nil ?_
        refine WC.ret ?_
        replace hS := St.exClose (f := stoF p s a V) (L := cel b1 #[.int .i64 oc, .int .u64 h, .int .u64 0, .int .i64 k, .int .i64 vv, .int .i64 0, .int .i64 0, .int .i64 0, .bool false, .string ⟨#[]⟩, .slice none 0 0, .slice none 0 0, .slice none 0 0] 63 :: L) ⟨nm, c, x, m⟩ ((hS.sel 2 [1, 0] rfl))
        replace hS : St g (Sto p s a V :: cel b1 #[.int .i64 oc, .int .u64 h, .int .u64 0, .int .i64 k, .int .i64 vv, .int .i64 0, .int .i64 0, .int .i64 0, .bool false, .string ⟨#[]⟩, .slice none 0 0, .slice none 0 0, .slice none 0 0] 63 :: L) w := hS
        refine ⟨[.int .i64 5], rfl, ?_⟩
        replace hS := (hS.sel 2 [0] rfl)
        exact ⟨rfl, hS⟩
set_option maxRecDepth 8192 in
theorem open_h {g w : World} {L : List HP} (p s a : Nat) (V : VM) (A : AM) (R : List Int) (oc h k vv : Int) (hc : oc = 2 ∨ oc = 3 ∨ oc = 9) (hV : VI V A R) (hh : 0 ≤ h ∧ h ≤ 18446744073709551615) (hn : V.T.s.opn h = true) (hS : St g (Sto p s a V :: L) w) :
    Sp Tryz.prog 26 [.pointer (some ⟨p, 0, none⟩), .agg #[.int .i64 oc, .int .u64 h, .int .u64 0, .int .i64 k, .int .i64 vv, .int .i64 0, .int .i64 0, .int .i64 0, .bool false, .string ⟨#[]⟩, .slice none 0 0, .slice none 0 0, .slice none 0 0]] w (fun v w' => v = .int .i64 0 ∧ St g (Sto p s a V :: L) w') := by
  refine Sp.enter Tryz.func26 rfl (by kernel_rfl) (by kernel_rfl) ?_
  refine WC.seq ?_
  refine WC.region ?_
  refine WL.box rfl rfl #[.int .i64 oc, .int .u64 h, .int .u64 0, .int .i64 k, .int .i64 vv, .int .i64 0, .int .i64 0, .int .i64 0, .bool false, .string ⟨#[]⟩, .slice none 0 0, .slice none 0 0, .slice none 0 0] hS rfl rfl (fun b1 w hS => ?_)
  refine WL.r 1 rfl ?_
  refine WL.nil ?_
  refine WC.seq ?_
  refine WC.seq ?_
  refine WC.region ?_
  refine WL.r 1 rfl ?_
  refine WL.ldF rfl rfl 0 hS rfl rfl ag_63 ?_
  refine WL.call rfl rfl (opA_h (p := p) (s := s) (a := a) (V := V) (A := A) (R := R) (oc := oc) (h := h) (k := k) (vv := vv) (hc := hc) (hV := hV) (hh := hh) (hn := hn) (hS := (hS.sel 2 [1, 0] rfl))) rfl ?_
  clear hS; rintro _ w ⟨rfl, hS⟩
  replace hS : St g (Sto p s a V :: cel b1 #[.int .i64 oc, .int .u64 h, .int .u64 0, .int .i64 k, .int .i64 vv, .int .i64 0, .int .i64 0, .int .i64 0, .bool false, .string ⟨#[]⟩, .slice none 0 0, .slice none 0 0, .slice none 0 0] 63 :: L) w := hS
  refine WL.r 1 rfl ?_
  refine WL.nil ?_
  refine WC.seq ?_
  refine WC.region ?_
  refine WL.r 2 rfl ?_
  refine WL.nil ?_
  refine WC.ifF rfl (decide_eq_false ((by decide))) ?_
  refine WC.skip ?_
  refine WC.seq ?_
  refine WC.seq ?_
  refine WC.region ?_
  refine WL.run 2 [.int .i64 oc] rfl (by exact hS.ld 1 rfl rfl) ?_
  refine WL.nil ?_
  as_aux_lemma =>
    refine WC.block ?_
    refine WC.seq ?_
    refine WC.seq ?_
    refine WC.region ?_
    refine WL.r 2 rfl ?_
    refine WL.nil ?_
    refine WC.ifF rfl (decide_eq_false ((by omega))) ?_
    refine WC.seq ?_
    refine WC.region ?_
    refine WL.r 2 rfl ?_
    refine WL.nil ?_
    refine WC.ifF rfl (decide_eq_false ((by omega))) ?_
    refine WC.seq ?_
    refine WC.region ?_
    refine WL.r 2 rfl ?_
    refine WL.nil ?_
    refine WC.ifF rfl (decide_eq_false ((by omega))) ?_
    refine WC.seq ?_
    refine WC.region ?_
    refine WL.r 2 rfl ?_
    refine WL.nil ?_
    refine WC.ifF rfl (decide_eq_false ((by omega))) ?_
    refine WC.region ?_
    refine WL.r 2 rfl ?_
    refine WL.nil ?_
    as_aux_lemma =>
      refine WC.ifF rfl (decide_eq_false ((by omega))) ?_
      refine WC.seq ?_
      refine WC.seq ?_
      refine WC.region ?_
      refine WL.r 2 rfl ?_
      refine WL.nil ?_
      refine WC.ifF rfl (decide_eq_false ((by omega))) ?_
      refine WC.seq ?_
      refine WC.region ?_
      refine WL.r 2 rfl ?_
      refine WL.nil ?_
      refine WC.ifF rfl (decide_eq_false ((by omega))) ?_
      refine WC.region ?_
      refine WL.r 2 rfl ?_
      refine WL.nil ?_
      refine WC.ifF rfl (decide_eq_false ((by omega))) ?_
      refine WC.skip ?_
      refine WC.seq ?_
      refine WC.region ?_
      refine WL.r 1 rfl ?_
      refine WL.nil ?_
      refine WC.ret ?_
      refine ⟨[.int .i64 0], rfl, ?_⟩
      replace hS := (hS.sel 2 [0] rfl)
      exact ⟨rfl, hS⟩
set_option maxRecDepth 8192 in
theorem open_bad {g w : World} {L : List HP} (p s a : Nat) (V : VM) (oc h k vv : Int) (hc : oc = 2 ∨ oc = 3 ∨ oc = 9) (hT : TOk V.T) (hh : 0 ≤ h ∧ h ≤ 18446744073709551615) (hn : V.T.s.opn h = false) (hS : St g (Sto p s a V :: L) w) :
    Sp Tryz.prog 26 [.pointer (some ⟨p, 0, none⟩), .agg #[.int .i64 oc, .int .u64 h, .int .u64 0, .int .i64 k, .int .i64 vv, .int .i64 0, .int .i64 0, .int .i64 0, .bool false, .string ⟨#[]⟩, .slice none 0 0, .slice none 0 0, .slice none 0 0]] w (fun v w' => v = .int .i64 5 ∧ St g (Sto p s a V :: L) w') := by
  refine Sp.enter Tryz.func26 rfl (by kernel_rfl) (by kernel_rfl) ?_
  refine WC.seq ?_
  refine WC.region ?_
  refine WL.box rfl rfl #[.int .i64 oc, .int .u64 h, .int .u64 0, .int .i64 k, .int .i64 vv, .int .i64 0, .int .i64 0, .int .i64 0, .bool false, .string ⟨#[]⟩, .slice none 0 0, .slice none 0 0, .slice none 0 0] hS rfl rfl (fun b1 w hS => ?_)
  refine WL.r 1 rfl ?_
  refine WL.nil ?_
  refine WC.seq ?_
  refine WC.seq ?_
  refine WC.region ?_
  refine WL.r 1 rfl ?_
  refine WL.ldF rfl rfl 0 hS rfl rfl ag_63 ?_
  refine WL.call rfl rfl (opA_bad (p := p) (s := s) (a := a) (V := V) (oc := oc) (h := h) (k := k) (vv := vv) (hc := hc) (hT := hT) (hh := hh) (hn := hn) (hS := (hS.sel 2 [1, 0] rfl))) rfl ?_
  clear hS; rintro _ w ⟨rfl, hS⟩
  replace hS : St g (Sto p s a V :: cel b1 #[.int .i64 oc, .int .u64 h, .int .u64 0, .int .i64 k, .int .i64 vv, .int .i64 0, .int .i64 0, .int .i64 0, .bool false, .string ⟨#[]⟩, .slice none 0 0, .slice none 0 0, .slice none 0 0] 63 :: L) w := hS
  refine WL.r 1 rfl ?_
  refine WL.nil ?_
  refine WC.seq ?_
  refine WC.region ?_
  refine WL.r 2 rfl ?_
  refine WL.nil ?_
  refine WC.ifT rfl (decide_eq_true ((by decide))) ?_
  refine WC.seq ?_
  refine WC.region ?_
  refine WL.r 2 rfl ?_
  refine WL.nil ?_
  as_aux_lemma =>
    refine WC.ret ?_
    refine ⟨[.int .i64 5], rfl, ?_⟩
    replace hS := (hS.sel 2 [0] rfl)
    exact ⟨rfl, hS⟩
set_option maxRecDepth 8192 in
theorem creates_3 {g w : World} {L : List HP} (hS : St g (L) w) :
    Sp Tryz.prog 27 [.int .i64 3] w (fun v w' => v = .bool true ∧ St g (L) w') := by
  refine Sp.enter Tryz.func27 rfl (by kernel_rfl) (by kernel_rfl) ?_
  refine WC.seq ?_
  refine WC.region ?_
  refine WL.r 1 rfl ?_
  refine WL.nil ?_
  refine WC.seq ?_
  refine WC.seq ?_
  refine WC.region ?_
  refine WL.r 1 rfl ?_
  refine WL.nil ?_
  refine WC.block ?_
  refine WC.seq ?_
  refine WC.seq ?_
  refine WC.region ?_
  refine WL.r 2 rfl ?_
  refine WL.nil ?_
  refine WC.ifF rfl (decide_eq_false ((by decide))) ?_
  refine WC.seq ?_
  refine WC.region ?_
  refine WL.r 2 rfl ?_
  refine WL.nil ?_
  refine WC.ifT rfl (decide_eq_true ((by decide))) ?_
  refine WC.skip ?_
  refine WC.ifT rfl (decide_eq_true ((by decide))) ?_
  refine WC.seq ?_
  refine WC.region ?_
  refine WL.r 1 rfl ?_
  refine WL.nil ?_
  as_aux_lemma =>
    refine WC.ret ?_
    refine ⟨[.bool true], rfl, ?_⟩
    exact ⟨rfl, hS⟩
set_option maxRecDepth 8192 in
theorem creates_no {g w : World} {L : List HP} (oc : Int) (hc : oc = 2 ∨ oc = 9) (hS : St g (L) w) :
    Sp Tryz.prog 27 [.int .i64 oc] w (fun v w' => v = .bool false ∧ St g (L) w') := by
  refine Sp.enter Tryz.func27 rfl (by kernel_rfl) (by kernel_rfl) ?_
  have _ := hc
  refine WC.seq ?_
  refine WC.region ?_
  refine WL.r 1 rfl ?_
  refine WL.nil ?_
  refine WC.seq ?_
  refine WC.seq ?_
  refine WC.region ?_
  refine WL.r 1 rfl ?_
  refine WL.nil ?_
  refine WC.block ?_
  refine WC.seq ?_
  refine WC.seq ?_
  refine WC.region ?_
  refine WL.r 2 rfl ?_
  refine WL.nil ?_
  refine WC.ifF rfl (decide_eq_false ((by omega))) ?_
  refine WC.seq ?_
  refine WC.region ?_
  refine WL.r 2 rfl ?_
  refine WL.nil ?_
  refine WC.ifF rfl (decide_eq_false ((by omega))) ?_
  refine WC.seq ?_
  refine WC.region ?_
  refine WL.r 2 rfl ?_
  refine WL.nil ?_
  as_aux_lemma =>
    refine WC.ifF rfl (decide_eq_false ((by omega))) ?_
    refine WC.seq ?_
    refine WC.region ?_
    refine WL.r 2 rfl ?_
    refine WL.nil ?_
    refine WC.ifF rfl (decide_eq_false ((by omega))) ?_
    refine WC.seq ?_
    refine WC.region ?_
    refine WL.r 2 rfl ?_
    refine WL.nil ?_
    refine WC.ifF rfl (decide_eq_false ((by omega))) ?_
    refine WC.seq ?_
    refine WC.region ?_
    refine WL.r 2 rfl ?_
    refine WL.nil ?_
    refine WC.ifF rfl (decide_eq_false ((by omega))) ?_
    refine WC.seq ?_
    refine WC.region ?_
    refine WL.r 2 rfl ?_
    refine WL.nil ?_
    refine WC.ifF rfl (decide_eq_false ((by omega))) ?_
    refine WC.seq ?_
    refine WC.region ?_
    refine WL.r 2 rfl ?_
    refine WL.nil ?_
    as_aux_lemma =>
      refine WC.ifF rfl (decide_eq_false ((by omega))) ?_
      refine WC.seq ?_
      refine WC.region ?_
      refine WL.r 2 rfl ?_
      refine WL.nil ?_
      refine WC.ifF rfl (decide_eq_false ((by omega))) ?_
      refine WC.seq ?_
      refine WC.region ?_
      refine WL.r 2 rfl ?_
      refine WL.nil ?_
      refine WC.ifF rfl (decide_eq_false ((by omega))) ?_
      refine WC.seq ?_
      refine WC.region ?_
      refine WL.r 2 rfl ?_
      refine WL.nil ?_
      refine WC.ifF rfl (decide_eq_false ((by omega))) ?_
      refine WC.region ?_
      refine WL.r 2 rfl ?_
      refine WL.nil ?_
      refine WC.ifF rfl (decide_eq_false ((by omega))) ?_
      refine WC.skip ?_
      refine WC.seq ?_
      refine WC.region ?_
      refine WL.r 1 rfl ?_
      refine WL.nil ?_
      as_aux_lemma =>
        refine WC.ret ?_
        refine ⟨[.bool false], rfl, ?_⟩
        exact ⟨rfl, hS⟩
set_option maxHeartbeats 4000000 in
set_option maxRecDepth 8192 in
theorem create_put {g w : World} {L : List HP} (p s a : Nat) (V : VM) (A : AM) (cc uu hd root k vv : Int) (t : Tr) (hF : FZ cc uu V A hd root t) (hcc : 2 ≤ cc) (hla : V.last < 1000000000) (hn : t.n ≤ 65535) (hf : 4 * ((Tr.mxH (t.n + 1) : Int) + 2) ≤ A.s.free) (hS : St g (Sto p s a V :: Arn a A :: L) w) :
    Sp Tryz.prog 29 [.pointer (some ⟨p, 0, none⟩), .agg #[.int .i64 3, .int .u64 hd, .int .u64 0, .int .i64 k, .int .i64 vv, .int .i64 0, .int .i64 0, .int .i64 0, .bool false, .string ⟨#[]⟩, .slice none 0 0, .slice none 0 0, .slice none 0 0]] w (fun v w' => ∃ (V2 : VM) (A3 A4 : AM) (j : Int), v = .agg #[.int .i64 0, .int .u64 V.T.newH, .int .i64 ((Tr.get k t).getD 0), .bool (Tr.get k t).isSome, .int .i64 0, .int .i64 0, .int .i64 0, .int .i64 0, .int .i64 0, .int .i64 0, .int .i64 0, .slice none 0 0, .slice none 0 0, .slice none 0 0, .slice none 0 0] ∧ St g (Sto p s a V2 :: Arn a A4 :: L) w' ∧ (TOp A A3 (V.rs.map RN.root ++ []) j (Tr.ins k vv t) (4 * (Tr.mxH (t.n + 1) + 2))) ∧ (VI V2 (A3.ret j) [j]) ∧ (Com V j [V.T.val hd] V2) ∧ (Rl (A3.ret j) A4 (V2.rs.map RN.root ++ []))) := by
  refine Sp.enter Tryz.func29 rfl (by kernel_rfl) (by kernel_rfl) ?_
  have _ := hcc
  refine WC.seq ?_
  refine WC.region ?_
  refine WL.box rfl rfl #[.int .i64 3, .int .u64 hd, .int .u64 0, .int .i64 k, .int .i64 vv, .int .i64 0, .int .i64 0, .int .i64 0, .bool false, .string ⟨#[]⟩, .slice none 0 0, .slice none 0 0, .slice none 0 0] hS rfl rfl (fun b1 w hS => ?_)
  refine WL.new rfl rfl zv_60 hS (fun b2 w hS => ?_)
  refine WL.nil ?_
  refine WC.seq ?_
  refine WC.region ?_
  refine WL.run 2 [.int .u64 hd] rfl (by exact hS.ld 1 rfl rfl) ?_
  refine WL.lit rfl rfl (u64s [hd]) el_130 hS (by exact ⟨rfl, rfl⟩) (u64s_ok _) rfl (by decide) (fun b3 w hS => ?_)
  refine WL.r 1 rfl ?_
  refine WL.nil ?_
  refine WC.seq ?_
  refine WC.region ?_
  refine WL.new rfl rfl zv_60 hS (fun b4 w hS => ?_)
  refine WL.nil ?_
  refine WC.seq ?_
  refine WC.region ?_
  refine WL.r 1 rfl ?_
  refine WL.nil ?_
  refine WC.seq ?_
  refine WC.region ?_
  refine WL.run 3 [.int .u64 hd] rfl (by exact hS.ld 3 rfl rfl) ?_
  refine WL.call rfl rfl (root_h (p := p) (s := s) (a := a) (V := V) (A := A) (R := []) (h := hd) (hV := hF.vi) (hh := hF.rng) (hn := hF.opn) (hS := (hS.sel 5 [4, 0, 0, 0, 0] rfl))) rfl ?_
  clear hS; rintro _ w ⟨rfl, hS⟩
  replace hS : St g (Sto p s a V :: cel b4 #[.int .i64 0, .int .u64 0, .int .i64 0, .bool false, .int .i64 0, .int .i64 0, .int .i64 0, .int .i64 0, .int .i64 0, .int .i64 0, .int .i64 0, .slice none 0 0, .slice none 0 0, .slice none 0 0, .slice none 0 0] 60 :: Own 50 1 (u64s [hd]) (some ⟨b3, 0, none⟩) (List.length (u64s [hd])) :: cel b2 #[.int .i64 0, .int .u64 0, .int .i64 0, .bool false, .int .i64 0, .int .i64 0, .int .i64 0, .int .i64 0, .int .i64 0, .int .i64 0, .int .i64 0, .slice none 0 0, .slice none 0 0, .slice none 0 0, .slice none 0 0] 60 :: cel b1 #[.int .i64 3, .int .u64 hd, .int .u64 0, .int .i64 k, .int .i64 vv, .int .i64 0, .int .i64 0, .int .i64 0, .bool false, .string ⟨#[]⟩, .slice none 0 0, .slice none 0 0, .slice none 0 0] 63 :: Arn a A :: L) w := hS
  refine WL.r 1 rfl ?_
  refine WL.nil ?_
  as_aux_lemma =>
    refine WC.seq ?_
    refine WC.seq ?_
    refine WC.region ?_
    refine WL.run 2 [.int .i64 3] rfl (by exact hS.ld 4 rfl rfl) ?_
    refine WL.nil ?_
    refine WC.block ?_
    refine WC.seq ?_
    refine WC.region ?_
    refine WL.r 2 rfl ?_
    refine WL.nil ?_
    refine WC.ifF rfl (decide_eq_false ((by decide))) ?_
    refine WC.seq ?_
    refine WC.region ?_
    refine WL.r 2 rfl ?_
    refine WL.nil ?_
    refine WC.ifF rfl (decide_eq_false ((by decide))) ?_
    refine WC.seq ?_
    refine WC.region ?_
    refine WL.r 2 rfl ?_
    refine WL.nil ?_
    refine WC.ifF rfl (decide_eq_false ((by decide))) ?_
    refine WC.seq ?_
    refine WC.region ?_
    refine WL.r 2 rfl ?_
    refine WL.nil ?_
    as_aux_lemma =>
      refine WC.ifT rfl (decide_eq_true ((by decide))) ?_
      refine WC.plan [([0, 2, 3, 5, 4, 6, 7], some (1, [2, 3, 4, 5, 6, 7])), ([], some (8, [])), ([9, 10, 11, 12, 13, 14, 15], some (16, [12, 13])), ([17], some (18, [13])), ([19], some (20, []))] (by kernel_rfl) (by kernel_rfl) ?_
      have hrt := hF.root; have hrs1 : V.rs.length = 1 := (by obtain ⟨b, hb⟩ := hF.rs; rw [hb]; rfl)
      refine WQ.run 6 [.int .i64 k, .int .i64 vv] rfl (by exact ⟨hS.ld 4 rfl rfl, hS.ld 4 rfl rfl⟩) ?_
      refine WQ.build rfl rfl (cs := [.int .i64 k, .int .i64 vv]) zv_52 rfl rfl ?_
      refine WQ.nil ?_
      intro m1
      replace hS := hS.drewN m1; generalize hwm1 : World.drewN _ _ = w at *; clear hwm1
      refine WL.call rfl rfl (st_arena (p := p) (s := s) (a := a) (V := V)  (hS := hS)) rfl ?_
      clear hS; rintro _ w ⟨rfl, hS⟩
      replace hS : St g (Sto p s a V :: cel b4 #[.int .i64 0, .int .u64 0, .int .i64 0, .bool false, .int .i64 0, .int .i64 0, .int .i64 0, .int .i64 0, .int .i64 0, .int .i64 0, .int .i64 0, .slice none 0 0, .slice none 0 0, .slice none 0 0, .slice none 0 0] 60 :: Own 50 1 (u64s [hd]) (some ⟨b3, 0, none⟩) (List.length (u64s [hd])) :: cel b2 #[.int .i64 0, .int .u64 0, .int .i64 0, .bool false, .int .i64 0, .int .i64 0, .int .i64 0, .int .i64 0, .int .i64 0, .int .i64 0, .int .i64 0, .slice none 0 0, .slice none 0 0, .slice none 0 0, .slice none 0 0] 60 :: cel b1 #[.int .i64 3, .int .u64 hd, .int .u64 0, .int .i64 k, .int .i64 vv, .int .i64 0, .int .i64 0, .int .i64 0, .bool false, .string ⟨#[]⟩, .slice none 0 0, .slice none 0 0, .slice none 0 0] 63 :: Arn a A :: L) w := hS
      refine WL.nil ?_
      refine ⟨by exact ⟨RQ.pure rfl rfl rfl rfl, RQ.pure rfl rfl rfl rfl, RQ.load rfl rfl rfl rfl (hS.ld 4 rfl rfl), RQ.pure rfl rfl rfl rfl, RQ.load rfl rfl rfl rfl (hS.ld 4 rfl rfl), RQ.build rfl rfl (cs := [.int .i64 k, .int .i64 vv]) zv_52 rfl rfl rfl rfl⟩, ?_⟩
      refine WQ.nil ?_
      intro m2
      replace hS := hS.drewN m2; generalize hwm2 : World.drewN _ _ = w at *; clear hwm2
      refine WL.call rfl rfl (up_ins (a := a) (A := A) (R := List.map RN.root V.rs ++ []) (i := V.rootOf (V.T.val hd)) (k := k) (z := vv) (t := t) (hA := hF.vi.ref) (hi := (by rw [hrt]; exact hF.is)) (hb := hF.ok) (hn := hn) (hf := hf) (hz := (by simp; omega)) (hS := (hS.sel 6 [5, 0, 0, 0, 0, 0] rfl))) rfl ?_
      clear hS; rintro _ w ⟨A1, j1, rfl, hS, f1⟩
      replace hS : St g (Arn a A1 :: Sto p s a V :: cel b4 #[.int .i64 0, .int .u64 0, .int .i64 0, .bool false, .int .i64 0, .int .i64 0, .int .i64 0, .int .i64 0, .int .i64 0, .int .i64 0, .int .i64 0, .slice none 0 0, .slice none 0 0, .slice none 0 0, .slice none 0 0] 60 :: Own 50 1 (u64s [hd]) (some ⟨b3, 0, none⟩) (List.length (u64s [hd])) :: cel b2 #[.int .i64 0, .int .u64 0, .int .i64 0, .bool false, .int .i64 0, .int .i64 0, .int .i64 0, .int .i64 0, .int .i64 0, .int .i64 0, .int .i64 0, .slice none 0 0, .slice none 0 0, .slice none 0 0, .slice none 0 0] 60 :: cel b1 #[.int .i64 3, .int .u64 hd, .int .u64 0, .int .i64 k, .int .i64 vv, .int .i64 0, .int .i64 0, .int .i64 0, .bool false, .string ⟨#[]⟩, .slice none 0 0, .slice none 0 0, .slice none 0 0] 63 :: L) w := hS
      refine WL.nil ?_
      refine ⟨by exact trivial, ?_⟩
      refine WQ.r 7 rfl ?_
      refine WQ.nil ?_
      intro m3
      replace hS := hS.drewN m3; generalize hwm3 : World.drewN _ _ = w at *; clear hwm3
      refine WL.st rfl rfl rfl 2 hS rfl rfl rfl rfl rfl rfl (fun w hS => ?_)
      replace hS : St g (Arn a A1 :: Sto p s a V :: cel b4 #[.int .i64 0, .int .u64 0, .int .i64 ((Tr.get k t).getD 0), .bool false, .int .i64 0, .int .i64 0, .int .i64 0, .int .i64 0, .int .i64 0, .int .i64 0, .int .i64 0, .slice none 0 0, .slice none 0 0, .slice none 0 0, .slice none 0 0] 60 :: Own 50 1 (u64s [hd]) (some ⟨b3, 0, none⟩) (List.length (u64s [hd])) :: cel b2 #[.int .i64 0, .int .u64 0, .int .i64 0, .bool false, .int .i64 0, .int .i64 0, .int .i64 0, .int .i64 0, .int .i64 0, .int .i64 0, .int .i64 0, .slice none 0 0, .slice none 0 0, .slice none 0 0, .slice none 0 0] 60 :: cel b1 #[.int .i64 3, .int .u64 hd, .int .u64 0, .int .i64 k, .int .i64 vv, .int .i64 0, .int .i64 0, .int .i64 0, .bool false, .string ⟨#[]⟩, .slice none 0 0, .slice none 0 0, .slice none 0 0] 63 :: L) w := hS
      refine WL.nil ?_
      refine ⟨by exact ⟨RQ.pure rfl rfl rfl rfl, RQ.pure rfl rfl rfl rfl⟩, ?_⟩
      refine WQ.r 1 rfl ?_
      refine WQ.nil ?_
      intro m4
      replace hS := hS.drewN m4; generalize hwm4 : World.drewN _ _ = w at *; clear hwm4
      refine WL.st rfl rfl rfl 2 hS rfl rfl rfl rfl rfl rfl (fun w hS => ?_)
      replace hS : St g (Arn a A1 :: Sto p s a V :: cel b4 #[.int .i64 0, .int .u64 0, .int .i64 ((Tr.get k t).getD 0), .bool (Tr.get k t).isSome, .int .i64 0, .int .i64 0, .int .i64 0, .int .i64 0, .int .i64 0, .int .i64 0, .int .i64 0, .slice none 0 0, .slice none 0 0, .slice none 0 0, .slice none 0 0] 60 :: Own 50 1 (u64s [hd]) (some ⟨b3, 0, none⟩) (List.length (u64s [hd])) :: cel b2 #[.int .i64 0, .int .u64 0, .int .i64 0, .bool false, .int .i64 0, .int .i64 0, .int .i64 0, .int .i64 0, .int .i64 0, .int .i64 0, .int .i64 0, .slice none 0 0, .slice none 0 0, .slice none 0 0, .slice none 0 0] 60 :: cel b1 #[.int .i64 3, .int .u64 hd, .int .u64 0, .int .i64 k, .int .i64 vv, .int .i64 0, .int .i64 0, .int .i64 0, .bool false, .string ⟨#[]⟩, .slice none 0 0, .slice none 0 0, .slice none 0 0] 63 :: L) w := hS
      refine WL.nil ?_
      refine ⟨by exact RQ.pure rfl rfl rfl rfl, ?_⟩
      refine WQ.r 1 rfl ?_
      refine WQ.nil ?_
      intro m5
      replace hS := hS.drewN m5; generalize hwm5 : World.drewN _ _ = w at *; clear hwm5
      refine WL.st rfl rfl rfl 2 hS rfl rfl rfl rfl rfl rfl (fun w hS => ?_)
      replace hS : St g (Arn a A1 :: Sto p s a V :: cel b4 #[.int .i64 0, .int .u64 0, .int .i64 ((Tr.get k t).getD 0), .bool (Tr.get k t).isSome, .int .i64 0, .int .i64 0, .int .i64 0, .int .i64 0, .int .i64 0, .int .i64 0, .int .i64 0, .slice none 0 0, .slice none 0 0, .slice none 0 0, .slice none 0 0] 60 :: Own 50 1 (u64s [hd]) (some ⟨b3, 0, none⟩) (List.length (u64s [hd])) :: cel b2 #[.int .i64 0, .int .u64 0, .int .i64 0, .bool false, .int .i64 0, .int .i64 0, .int .i64 0, .int .i64 0, .int .i64 0, .int .i64 0, .int .i64 0, .slice none 0 0, .slice none 0 0, .slice none 0 0, .slice none 0 0] 60 :: cel b1 #[.int .i64 3, .int .u64 hd, .int .u64 0, .int .i64 k, .int .i64 vv, .int .i64 0, .int .i64 0, .int .i64 0, .bool false, .string ⟨#[]⟩, .slice none 0 0, .slice none 0 0, .slice none 0 0] 63 :: L) w := hS
      refine WL.nil ?_
      refine ⟨by exact trivial, ?_⟩
      intro m6
      replace hS := hS.drewN m6; generalize hwm6 : World.drewN _ _ = w at *; clear hwm6
      as_aux_lemma =>
        refine WC.seq ?_
        refine WC.seq ?_
        refine WC.region ?_
        refine WL.run 3 [.int .i64 0] rfl (by exact hS.ld 2 rfl rfl) ?_
        refine WL.nil ?_
        refine WC.ifF rfl (decide_eq_false ((by decide))) ?_
        refine WC.skip ?_
        refine WC.seq ?_
        refine WC.region ?_
        have hV1 : VI V A1 [j1] := hF.vi.ar (f1.ref.perm (by simpa using (List.perm_middle (a := j1) (l₁ := V.rs.map RN.root) (l₂ := [])).symm)); have hrm := hF.room
        obtain ⟨⟨nm, c, x, m⟩, hS⟩ := St.exOpen (f := stoF p s a V) (hS.at_ 1 rfl)
        replace hS : St g (cel p #[.pointer (some ⟨s, 0, none⟩), .pointer (some ⟨nm, 0, none⟩), .pointer (some ⟨c, 0, none⟩), .pointer (some ⟨x, 0, none⟩), .map (some m)] 49 :: Vst s a V :: blk m (.map (mE []) 0) :: Arn a A1 :: cel b4 #[.int .i64 0, .int .u64 0, .int .i64 ((Tr.get k t).getD 0), .bool (Tr.get k t).isSome, .int .i64 0, .int .i64 0, .int .i64 0, .int .i64 0, .int .i64 0, .int .i64 0, .int .i64 0, .slice none 0 0, .slice none 0 0, .slice none 0 0, .slice none 0 0] 60 :: Own 50 1 (u64s [hd]) (some ⟨b3, 0, none⟩) (List.length (u64s [hd])) :: cel b2 #[.int .i64 0, .int .u64 0, .int .i64 0, .bool false, .int .i64 0, .int .i64 0, .int .i64 0, .int .i64 0, .int .i64 0, .int .i64 0, .int .i64 0, .slice none 0 0, .slice none 0 0, .slice none 0 0, .slice none 0 0] 60 :: cel b1 #[.int .i64 3, .int .u64 hd, .int .u64 0, .int .i64 k, .int .i64 vv, .int .i64 0, .int .i64 0, .int .i64 0, .bool false, .string ⟨#[]⟩, .slice none 0 0, .slice none 0 0, .slice none 0 0] 63 :: L) w := hS
        refine WL.run 6 [.pointer (some ⟨s, 0, none⟩)] rfl (by exact hS.ld 0 rfl rfl) ?_
        replace hS := (hS.at_ 5 rfl).share
        replace hS : St g (Sh 50 1 (u64s [hd]) (some ⟨b3, 0, none⟩) (List.length (u64s [hd])) :: cel p #[.pointer (some ⟨s, 0, none⟩), .pointer (some ⟨nm, 0, none⟩), .pointer (some ⟨c, 0, none⟩), .pointer (some ⟨x, 0, none⟩), .map (some m)] 49 :: Vst s a V :: blk m (.map (mE []) 0) :: Arn a A1 :: cel b4 #[.int .i64 0, .int .u64 0, .int .i64 ((Tr.get k t).getD 0), .bool (Tr.get k t).isSome, .int .i64 0, .int .i64 0, .int .i64 0, .int .i64 0, .int .i64 0, .int .i64 0, .int .i64 0, .slice none 0 0, .slice none 0 0, .slice none 0 0, .slice none 0 0] 60 :: cel b2 #[.int .i64 0, .int .u64 0, .int .i64 0, .bool false, .int .i64 0, .int .i64 0, .int .i64 0, .int .i64 0, .int .i64 0, .int .i64 0, .int .i64 0, .slice none 0 0, .slice none 0 0, .slice none 0 0, .slice none 0 0] 60 :: cel b1 #[.int .i64 3, .int .u64 hd, .int .u64 0, .int .i64 k, .int .i64 vv, .int .i64 0, .int .i64 0, .int .i64 0, .bool false, .string ⟨#[]⟩, .slice none 0 0, .slice none 0 0, .slice none 0 0] 63 :: L) w := hS
        refine WL.call rfl rfl (vs_commit (s := s) (a := a) (V := V) (A := A1) (R := [j1]) (root := j1) (hs := [hd]) (pa := some ⟨b3, 0, none⟩) (pc := List.length (u64s [hd])) (hV := hV1) (hr := f1.is.ref) (hps := okPs_one hd) (hop := (fun x hx => by rw [List.mem_singleton.1 hx]; exact ⟨hF.rng, hF.opn⟩)) (hrm := (by omega)) (hla := hla) (hlen := (by simp)) (hS := (hS.sel 5 [2, 3, 0, 0, 0] rfl))) rfl ?_
        clear hS; rintro _ w ⟨V1, rfl, hS, f2, f3⟩
        replace hS : St g (Vst s a V1 :: Arn a (A1.ret j1) :: Sh 50 1 (u64s [hd]) (some ⟨b3, 0, none⟩) (List.length (u64s [hd])) :: cel p #[.pointer (some ⟨s, 0, none⟩), .pointer (some ⟨nm, 0, none⟩), .pointer (some ⟨c, 0, none⟩), .pointer (some ⟨x, 0, none⟩), .map (some m)] 49 :: blk m (.map (mE []) 0) :: cel b4 #[.int .i64 0, .int .u64 0, .int .i64 ((Tr.get k t).getD 0), .bool (Tr.get k t).isSome, .int .i64 0, .int .i64 0, .int .i64 0, .int .i64 0, .int .i64 0, .int .i64 0, .int .i64 0, .slice none 0 0, .slice none 0 0, .slice none 0 0, .slice none 0 0] 60 :: cel b2 #[.int .i64 0, .int .u64 0, .int .i64 0, .bool false, .int .i64 0, .int .i64 0, .int .i64 0, .int .i64 0, .int .i64 0, .int .i64 0, .int .i64 0, .slice none 0 0, .slice none 0 0, .slice none 0 0, .slice none 0 0] 60 :: cel b1 #[.int .i64 3, .int .u64 hd, .int .u64 0, .int .i64 k, .int .i64 vv, .int .i64 0, .int .i64 0, .int .i64 0, .bool false, .string ⟨#[]⟩, .slice none 0 0, .slice none 0 0, .slice none 0 0] 63 :: L) w := hS
        refine WL.r 4 rfl ?_
        refine WL.st rfl rfl rfl 5 hS rfl rfl rfl rfl rfl rfl (fun w hS => ?_)
        replace hS : St g (Vst s a V1 :: Arn a (A1.ret j1) :: Sh 50 1 (u64s [hd]) (some ⟨b3, 0, none⟩) (List.length (u64s [hd])) :: cel p #[.pointer (some ⟨s, 0, none⟩), .pointer (some ⟨nm, 0, none⟩), .pointer (some ⟨c, 0, none⟩), .pointer (some ⟨x, 0, none⟩), .map (some m)] 49 :: blk m (.map (mE []) 0) :: cel b4 #[.int .i64 0, .int .u64 V.T.newH, .int .i64 ((Tr.get k t).getD 0), .bool (Tr.get k t).isSome, .int .i64 0, .int .i64 0, .int .i64 0, .int .i64 0, .int .i64 0, .int .i64 0, .int .i64 0, .slice none 0 0, .slice none 0 0, .slice none 0 0, .slice none 0 0] 60 :: cel b2 #[.int .i64 0, .int .u64 0, .int .i64 0, .bool false, .int .i64 0, .int .i64 0, .int .i64 0, .int .i64 0, .int .i64 0, .int .i64 0, .int .i64 0, .slice none 0 0, .slice none 0 0, .slice none 0 0, .slice none 0 0] 60 :: cel b1 #[.int .i64 3, .int .u64 hd, .int .u64 0, .int .i64 k, .int .i64 vv, .int .i64 0, .int .i64 0, .int .i64 0, .bool false, .string ⟨#[]⟩, .slice none 0 0, .slice none 0 0, .slice none 0 0] 63 :: L) w := hS
        refine WL.r 1 rfl ?_
        refine WL.st rfl rfl rfl 5 hS rfl rfl rfl rfl rfl rfl (fun w hS => ?_)
        replace hS : St g (Vst s a V1 :: Arn a (A1.ret j1) :: Sh 50 1 (u64s [hd]) (some ⟨b3, 0, none⟩) (List.length (u64s [hd])) :: cel p #[.pointer (some ⟨s, 0, none⟩), .pointer (some ⟨nm, 0, none⟩), .pointer (some ⟨c, 0, none⟩), .pointer (some ⟨x, 0, none⟩), .map (some m)] 49 :: blk m (.map (mE []) 0) :: cel b4 #[.int .i64 0, .int .u64 V.T.newH, .int .i64 ((Tr.get k t).getD 0), .bool (Tr.get k t).isSome, .int .i64 0, .int .i64 0, .int .i64 0, .int .i64 0, .int .i64 0, .int .i64 0, .int .i64 0, .slice none 0 0, .slice none 0 0, .slice none 0 0, .slice none 0 0] 60 :: cel b2 #[.int .i64 0, .int .u64 0, .int .i64 0, .bool false, .int .i64 0, .int .i64 0, .int .i64 0, .int .i64 0, .int .i64 0, .int .i64 0, .int .i64 0, .slice none 0 0, .slice none 0 0, .slice none 0 0, .slice none 0 0] 60 :: cel b1 #[.int .i64 3, .int .u64 hd, .int .u64 0, .int .i64 k, .int .i64 vv, .int .i64 0, .int .i64 0, .int .i64 0, .bool false, .string ⟨#[]⟩, .slice none 0 0, .slice none 0 0, .slice none 0 0] 63 :: L) w := hS
        refine WL.nil ?_
        as_aux_lemma =>
          refine WC.seq ?_
          refine WC.region ?_
          have hcp := Com.pre hV1 f3; have hrs2 : V1.rs.length = 2 := (by rw [hcp.2.2]; simp [hrs1]); have hp2 : ARf (A1.ret j1) (j1 :: (List.map RN.root V1.rs ++ [])) := f2.ref.perm (by simp)
          replace hS := St.exClose (f := stoF p s a V1) (L := Arn a (A1.ret j1) :: Sh 50 1 (u64s [hd]) (some ⟨b3, 0, none⟩) (List.length (u64s [hd])) :: cel b4 #[.int .i64 0, .int .u64 V.T.newH, .int .i64 ((Tr.get k t).getD 0), .bool (Tr.get k t).isSome, .int .i64 0, .int .i64 0, .int .i64 0, .int .i64 0, .int .i64 0, .int .i64 0, .int .i64 0, .slice none 0 0, .slice none 0 0, .slice none 0 0, .slice none 0 0] 60 :: cel b2 #[.int .i64 0, .int .u64 0, .int .i64 0, .bool false, .int .i64 0, .int .i64 0, .int .i64 0, .int .i64 0, .int .i64 0, .int .i64 0, .int .i64 0, .slice none 0 0, .slice none 0 0, .slice none 0 0, .slice none 0 0] 60 :: cel b1 #[.int .i64 3, .int .u64 hd, .int .u64 0, .int .i64 k, .int .i64 vv, .int .i64 0, .int .i64 0, .int .i64 0, .bool false, .string ⟨#[]⟩, .slice none 0 0, .slice none 0 0, .slice none 0 0] 63 :: L) ⟨nm, c, x, m⟩ ((hS.sel 5 [3, 0, 2, 0, 0] rfl))
          replace hS : St g (Sto p s a V1 :: Arn a (A1.ret j1) :: Sh 50 1 (u64s [hd]) (some ⟨b3, 0, none⟩) (List.length (u64s [hd])) :: cel b4 #[.int .i64 0, .int .u64 V.T.newH, .int .i64 ((Tr.get k t).getD 0), .bool (Tr.get k t).isSome, .int .i64 0, .int .i64 0, .int .i64 0, .int .i64 0, .int .i64 0, .int .i64 0, .int .i64 0, .slice none 0 0, .slice none 0 0, .slice none 0 0, .slice none 0 0] 60 :: cel b2 #[.int .i64 0, .int .u64 0, .int .i64 0, .bool false, .int .i64 0, .int .i64 0, .int .i64 0, .int .i64 0, .int .i64 0, .int .i64 0, .int .i64 0, .slice none 0 0, .slice none 0 0, .slice none 0 0, .slice none 0 0] 60 :: cel b1 #[.int .i64 3, .int .u64 hd, .int .u64 0, .int .i64 k, .int .i64 vv, .int .i64 0, .int .i64 0, .int .i64 0, .bool false, .string ⟨#[]⟩, .slice none 0 0, .slice none 0 0, .slice none 0 0] 63 :: L) w := hS
          refine WL.r 1 rfl ?_
          refine WL.call rfl rfl (st_arena (p := p) (s := s) (a := a) (V := V1)  (hS := hS)) rfl ?_
          clear hS; rintro _ w ⟨rfl, hS⟩
          replace hS : St g (Sto p s a V1 :: Arn a (A1.ret j1) :: Sh 50 1 (u64s [hd]) (some ⟨b3, 0, none⟩) (List.length (u64s [hd])) :: cel b4 #[.int .i64 0, .int .u64 V.T.newH, .int .i64 ((Tr.get k t).getD 0), .bool (Tr.get k t).isSome, .int .i64 0, .int .i64 0, .int .i64 0, .int .i64 0, .int .i64 0, .int .i64 0, .int .i64 0, .slice none 0 0, .slice none 0 0, .slice none 0 0, .slice none 0 0] 60 :: cel b2 #[.int .i64 0, .int .u64 0, .int .i64 0, .bool false, .int .i64 0, .int .i64 0, .int .i64 0, .int .i64 0, .int .i64 0, .int .i64 0, .int .i64 0, .slice none 0 0, .slice none 0 0, .slice none 0 0, .slice none 0 0] 60 :: cel b1 #[.int .i64 3, .int .u64 hd, .int .u64 0, .int .i64 k, .int .i64 vv, .int .i64 0, .int .i64 0, .int .i64 0, .bool false, .string ⟨#[]⟩, .slice none 0 0, .slice none 0 0, .slice none 0 0] 63 :: L) w := hS
          refine WL.r 1 rfl ?_
          refine WL.call rfl rfl (tr_rel (a := a) (A := A1.ret j1) (R := List.map RN.root V1.rs ++ []) (i := j1) (hA := hp2) (hR := (by simp [hrs2])) (hS := (hS.sel 2 [1, 0] rfl))) rfl ?_
          clear hS; rintro _ w ⟨A2, f4, rfl, hS, f5, f6⟩
          replace hS : St g (Arn a A2 :: Sto p s a V1 :: Sh 50 1 (u64s [hd]) (some ⟨b3, 0, none⟩) (List.length (u64s [hd])) :: cel b4 #[.int .i64 0, .int .u64 V.T.newH, .int .i64 ((Tr.get k t).getD 0), .bool (Tr.get k t).isSome, .int .i64 0, .int .i64 0, .int .i64 0, .int .i64 0, .int .i64 0, .int .i64 0, .int .i64 0, .slice none 0 0, .slice none 0 0, .slice none 0 0, .slice none 0 0] 60 :: cel b2 #[.int .i64 0, .int .u64 0, .int .i64 0, .bool false, .int .i64 0, .int .i64 0, .int .i64 0, .int .i64 0, .int .i64 0, .int .i64 0, .int .i64 0, .slice none 0 0, .slice none 0 0, .slice none 0 0, .slice none 0 0] 60 :: cel b1 #[.int .i64 3, .int .u64 hd, .int .u64 0, .int .i64 k, .int .i64 vv, .int .i64 0, .int .i64 0, .int .i64 0, .bool false, .string ⟨#[]⟩, .slice none 0 0, .slice none 0 0, .slice none 0 0] 63 :: L) w := hS
          refine WL.nil ?_
          refine WC.seq ?_
          refine WC.region ?_
          refine WL.ldF rfl rfl 3 hS rfl rfl ag_60 ?_
          refine WL.stF rfl rfl rfl 4 hS rfl rfl rfl rfl rfl ag_60 (fun w hS => ?_)
          replace hS : St g (Arn a A2 :: Sto p s a V1 :: Sh 50 1 (u64s [hd]) (some ⟨b3, 0, none⟩) (List.length (u64s [hd])) :: cel b4 #[.int .i64 0, .int .u64 V.T.newH, .int .i64 ((Tr.get k t).getD 0), .bool (Tr.get k t).isSome, .int .i64 0, .int .i64 0, .int .i64 0, .int .i64 0, .int .i64 0, .int .i64 0, .int .i64 0, .slice none 0 0, .slice none 0 0, .slice none 0 0, .slice none 0 0] 60 :: cel b2 #[.int .i64 0, .int .u64 V.T.newH, .int .i64 ((Tr.get k t).getD 0), .bool (Tr.get k t).isSome, .int .i64 0, .int .i64 0, .int .i64 0, .int .i64 0, .int .i64 0, .int .i64 0, .int .i64 0, .slice none 0 0, .slice none 0 0, .slice none 0 0, .slice none 0 0] 60 :: cel b1 #[.int .i64 3, .int .u64 hd, .int .u64 0, .int .i64 k, .int .i64 vv, .int .i64 0, .int .i64 0, .int .i64 0, .bool false, .string ⟨#[]⟩, .slice none 0 0, .slice none 0 0, .slice none 0 0] 63 :: L) w := hS
          refine WL.nil ?_
          refine WC.ret ?_
          refine ⟨[.agg #[.int .i64 0, .int .u64 V.T.newH, .int .i64 ((Tr.get k t).getD 0), .bool (Tr.get k t).isSome, .int .i64 0, .int .i64 0, .int .i64 0, .int .i64 0, .int .i64 0, .int .i64 0, .int .i64 0, .slice none 0 0, .slice none 0 0, .slice none 0 0, .slice none 0 0]], ⟨⟨_, rfl, hS.lvF 4 rfl ag_60⟩, trivial⟩, ?_⟩
          replace hS := (hS.sel 6 [1, 0] rfl)
          exact ⟨V1, A1, _, j1, rfl, hS, f1, f2, f3, f5⟩
set_option maxRecDepth 8192 in
theorem do_put {g w : World} {L : List HP} (p s a : Nat) (V : VM) (A : AM) (cc uu hd root k vv : Int) (t : Tr) (hF : FZ cc uu V A hd root t) (hcc : 2 ≤ cc) (hla : V.last < 1000000000) (hn : t.n ≤ 65535) (hf : 4 * ((Tr.mxH (t.n + 1) : Int) + 2) ≤ A.s.free) (hS : St g (Sto p s a V :: Arn a A :: L) w) :
    Sp Tryz.prog 14 [.pointer (some ⟨p, 0, none⟩), .agg #[.int .i64 3, .int .u64 hd, .int .u64 0, .int .i64 k, .int .i64 vv, .int .i64 0, .int .i64 0, .int .i64 0, .bool false, .string ⟨#[]⟩, .slice none 0 0, .slice none 0 0, .slice none 0 0]] w (fun v w' => ∃ (V2 : VM) (A3 A4 : AM) (j : Int), v = .agg #[.int .i64 0, .int .u64 V.T.newH, .int .i64 ((Tr.get k t).getD 0), .bool (Tr.get k t).isSome, .int .i64 0, .int .i64 0, .int .i64 0, .int .i64 0, .int .i64 0, .int .i64 0, .int .i64 0, .slice none 0 0, .slice none 0 0, .slice none 0 0, .slice none 0 0] ∧ St g (Sto p s a V2 :: Arn a A4 :: L) w' ∧ (TOp A A3 (V.rs.map RN.root ++ []) j (Tr.ins k vv t) (4 * (Tr.mxH (t.n + 1) + 2))) ∧ (VI V2 (A3.ret j) [j]) ∧ (Com V j [V.T.val hd] V2) ∧ (Rl (A3.ret j) A4 (V2.rs.map RN.root ++ []))) := by
  refine Sp.enter Tryz.func14 rfl (by kernel_rfl) (by kernel_rfl) ?_
  refine WC.seq ?_
  refine WC.region ?_
  refine WL.box rfl rfl #[.int .i64 3, .int .u64 hd, .int .u64 0, .int .i64 k, .int .i64 vv, .int .i64 0, .int .i64 0, .int .i64 0, .bool false, .string ⟨#[]⟩, .slice none 0 0, .slice none 0 0, .slice none 0 0] hS rfl rfl (fun b1 w hS => ?_)
  refine WL.new rfl rfl zv_60 hS (fun b2 w hS => ?_)
  refine WL.nil ?_
  refine WC.seq ?_
  refine WC.seq ?_
  refine WC.region ?_
  refine WL.ldF rfl rfl 1 hS rfl rfl ag_63 ?_
  refine WL.call rfl rfl (valid_h (oc := 3) (h := hd) (k := k) (vv := vv) (hc := .inr (.inl rfl)) (hS := hS)) rfl ?_
  clear hS; rintro _ w ⟨rfl, hS⟩
  replace hS : St g (cel b2 #[.int .i64 0, .int .u64 0, .int .i64 0, .bool false, .int .i64 0, .int .i64 0, .int .i64 0, .int .i64 0, .int .i64 0, .int .i64 0, .int .i64 0, .slice none 0 0, .slice none 0 0, .slice none 0 0, .slice none 0 0] 60 :: cel b1 #[.int .i64 3, .int .u64 hd, .int .u64 0, .int .i64 k, .int .i64 vv, .int .i64 0, .int .i64 0, .int .i64 0, .bool false, .string ⟨#[]⟩, .slice none 0 0, .slice none 0 0, .slice none 0 0] 63 :: Sto p s a V :: Arn a A :: L) w := hS
  refine WL.r 2 rfl ?_
  refine WL.ung rfl rfl rfl ?_
  refine WL.ldF rfl rfl 1 hS rfl rfl ag_63 ?_
  refine WL.ung rfl rfl rfl ?_
  refine WL.call rfl rfl (snd_h (oc := 3) (h := hd) (k := k) (vv := vv) (hc := .inr (.inl rfl)) (hS := hS)) rfl ?_
  clear hS; rintro _ w ⟨rfl, hS⟩
  replace hS : St g (cel b2 #[.int .i64 0, .int .u64 0, .int .i64 0, .bool false, .int .i64 0, .int .i64 0, .int .i64 0, .int .i64 0, .int .i64 0, .int .i64 0, .int .i64 0, .slice none 0 0, .slice none 0 0, .slice none 0 0, .slice none 0 0] 60 :: cel b1 #[.int .i64 3, .int .u64 hd, .int .u64 0, .int .i64 k, .int .i64 vv, .int .i64 0, .int .i64 0, .int .i64 0, .bool false, .string ⟨#[]⟩, .slice none 0 0, .slice none 0 0, .slice none 0 0] 63 :: Sto p s a V :: Arn a A :: L) w := hS
  refine WL.ung rfl rfl rfl ?_
  refine WL.r 2 rfl ?_
  refine WL.nil ?_
  refine WC.ifF rfl rfl ?_
  refine WC.skip ?_
  as_aux_lemma =>
    refine WC.seq ?_
    refine WC.seq ?_
    refine WC.region ?_
    refine WL.r 1 rfl ?_
    refine WL.ldF rfl rfl 1 hS rfl rfl ag_63 ?_
    refine WL.call rfl rfl (open_h (p := p) (s := s) (a := a) (V := V) (A := A) (R := []) (oc := 3) (h := hd) (k := k) (vv := vv) (hc := .inr (.inl rfl)) (hV := hF.vi) (hh := hF.rng) (hn := hF.opn) (hS := (hS.sel 3 [2, 0, 0] rfl))) rfl ?_
    clear hS; rintro _ w ⟨rfl, hS⟩
    replace hS : St g (Sto p s a V :: cel b2 #[.int .i64 0, .int .u64 0, .int .i64 0, .bool false, .int .i64 0, .int .i64 0, .int .i64 0, .int .i64 0, .int .i64 0, .int .i64 0, .int .i64 0, .slice none 0 0, .slice none 0 0, .slice none 0 0, .slice none 0 0] 60 :: cel b1 #[.int .i64 3, .int .u64 hd, .int .u64 0, .int .i64 k, .int .i64 vv, .int .i64 0, .int .i64 0, .int .i64 0, .bool false, .string ⟨#[]⟩, .slice none 0 0, .slice none 0 0, .slice none 0 0] 63 :: Arn a A :: L) w := hS
    refine WL.r 1 rfl ?_
    refine WL.nil ?_
    refine WC.seq ?_
    refine WC.region ?_
    refine WL.r 2 rfl ?_
    refine WL.nil ?_
    refine WC.ifF rfl (decide_eq_false ((by decide))) ?_
    refine WC.skip ?_
    refine WC.seq ?_
    refine WC.seq ?_
    refine WC.region ?_
    refine WL.run 2 [.int .i64 3] rfl (by exact hS.ld 2 rfl rfl) ?_
    refine WL.call rfl rfl (creates_3   (hS := hS)) rfl ?_
    clear hS; rintro _ w ⟨rfl, hS⟩
    replace hS : St g (Sto p s a V :: cel b2 #[.int .i64 0, .int .u64 0, .int .i64 0, .bool false, .int .i64 0, .int .i64 0, .int .i64 0, .int .i64 0, .int .i64 0, .int .i64 0, .int .i64 0, .slice none 0 0, .slice none 0 0, .slice none 0 0, .slice none 0 0] 60 :: cel b1 #[.int .i64 3, .int .u64 hd, .int .u64 0, .int .i64 k, .int .i64 vv, .int .i64 0, .int .i64 0, .int .i64 0, .bool false, .string ⟨#[]⟩, .slice none 0 0, .slice none 0 0, .slice none 0 0] 63 :: Arn a A :: L) w := hS
    refine WL.nil ?_
    refine WC.ifT rfl rfl ?_
    refine WC.seq ?_
    refine WC.seq ?_
    refine WC.region ?_
    obtain ⟨⟨nm, c, x, m⟩, hS⟩ := St.exOpen (f := stoF p s a V) hS
    replace hS : St g (cel p #[.pointer (some ⟨s, 0, none⟩), .pointer (some ⟨nm, 0, none⟩), .pointer (some ⟨c, 0, none⟩), .pointer (some ⟨x, 0, none⟩), .map (some m)] 49 :: Vst s a V :: blk m (.map (mE []) 0) :: cel b2 #[.int .i64 0, .int .u64 0, .int .i64 0, .bool false, .int .i64 0, .int .i64 0, .int .i64 0, .int .i64 0, .int .i64 0, .int .i64 0, .int .i64 0, .slice none 0 0, .slice none 0 0, .slice none 0 0, .slice none 0 0] 60 :: cel b1 #[.int .i64 3, .int .u64 hd, .int .u64 0, .int .i64 k, .int .i64 vv, .int .i64 0, .int .i64 0, .int .i64 0, .bool false, .string ⟨#[]⟩, .slice none 0 0, .slice none 0 0, .slice none 0 0] 63 :: Arn a A :: L) w := hS
    obtain ⟨ss, hK⟩ := keys_ex hF.vi.g.ok.uniq; have hrm := hF.room
    refine WL.run 4 [.pointer (some ⟨s, 0, none⟩)] rfl (by exact hS.ld 0 rfl rfl) ?_
    refine WL.call rfl rfl (vs_room (s := s) (a := a) (V := V) (ss := ss) (hT := hF.vi.t) (hG := hF.vi.g) (hp := hK.perm) (hs := hK.le) (hS := (hS.sel 2 [1, 0] rfl))) rfl ?_
    clear hS; rintro _ w ⟨rfl, hS⟩
    replace hS : St g (Vst s a V :: cel p #[.pointer (some ⟨s, 0, none⟩), .pointer (some ⟨nm, 0, none⟩), .pointer (some ⟨c, 0, none⟩), .pointer (some ⟨x, 0, none⟩), .map (some m)] 49 :: blk m (.map (mE []) 0) :: cel b2 #[.int .i64 0, .int .u64 0, .int .i64 0, .bool false, .int .i64 0, .int .i64 0, .int .i64 0, .int .i64 0, .int .i64 0, .int .i64 0, .int .i64 0, .slice none 0 0, .slice none 0 0, .slice none 0 0, .slice none 0 0] 60 :: cel b1 #[.int .i64 3, .int .u64 hd, .int .u64 0, .int .i64 k, .int .i64 vv, .int .i64 0, .int .i64 0, .int .i64 0, .bool false, .string ⟨#[]⟩, .slice none 0 0, .slice none 0 0, .slice none 0 0] 63 :: Arn a A :: L) w := hS
    refine WL.r 1 rfl ?_
    refine WL.nil ?_
    as_aux_lemma =>
      refine WC.ifF rfl (decide_eq_false ((by omega))) ?_
      refine WC.skip ?_
      refine WC.seq ?_
      refine WC.region ?_
      replace hS := St.exClose (f := stoF p s a V) (L := cel b2 #[.int .i64 0, .int .u64 0, .int .i64 0, .bool false, .int .i64 0, .int .i64 0, .int .i64 0, .int .i64 0, .int .i64 0, .int .i64 0, .int .i64 0, .slice none 0 0, .slice none 0 0, .slice none 0 0, .slice none 0 0] 60 :: cel b1 #[.int .i64 3, .int .u64 hd, .int .u64 0, .int .i64 k, .int .i64 vv, .int .i64 0, .int .i64 0, .int .i64 0, .bool false, .string ⟨#[]⟩, .slice none 0 0, .slice none 0 0, .slice none 0 0] 63 :: Arn a A :: L) ⟨nm, c, x, m⟩ ((hS.sel 2 [1, 0] rfl))
      replace hS : St g (Sto p s a V :: cel b2 #[.int .i64 0, .int .u64 0, .int .i64 0, .bool false, .int .i64 0, .int .i64 0, .int .i64 0, .int .i64 0, .int .i64 0, .int .i64 0, .int .i64 0, .slice none 0 0, .slice none 0 0, .slice none 0 0, .slice none 0 0] 60 :: cel b1 #[.int .i64 3, .int .u64 hd, .int .u64 0, .int .i64 k, .int .i64 vv, .int .i64 0, .int .i64 0, .int .i64 0, .bool false, .string ⟨#[]⟩, .slice none 0 0, .slice none 0 0, .slice none 0 0] 63 :: Arn a A :: L) w := hS
      refine WL.r 1 rfl ?_
      refine WL.ldF rfl rfl 2 hS rfl rfl ag_63 ?_
      refine WL.call rfl rfl (create_put (p := p) (s := s) (a := a) (V := V) (A := A) (cc := cc) (uu := uu) (hd := hd) (root := root) (k := k) (vv := vv) (t := t) (hF := hF) (hcc := hcc) (hla := hla) (hn := hn) (hf := hf) (hS := (hS.sel 4 [0, 2, 0, 0] rfl))) rfl ?_
      clear hS; rintro _ w ⟨V1, A1, A2, j1, rfl, hS, f1, f2, f3, f4⟩
      replace hS : St g (Sto p s a V1 :: Arn a A2 :: cel b2 #[.int .i64 0, .int .u64 0, .int .i64 0, .bool false, .int .i64 0, .int .i64 0, .int .i64 0, .int .i64 0, .int .i64 0, .int .i64 0, .int .i64 0, .slice none 0 0, .slice none 0 0, .slice none 0 0, .slice none 0 0] 60 :: cel b1 #[.int .i64 3, .int .u64 hd, .int .u64 0, .int .i64 k, .int .i64 vv, .int .i64 0, .int .i64 0, .int .i64 0, .bool false, .string ⟨#[]⟩, .slice none 0 0, .slice none 0 0, .slice none 0 0] 63 :: L) w := hS
      refine WL.stF rfl rfl rfl 2 hS rfl rfl rfl rfl rfl ag_60 (fun w hS => ?_)
      replace hS : St g (Sto p s a V1 :: Arn a A2 :: cel b2 #[.int .i64 0, .int .u64 V.T.newH, .int .i64 ((Tr.get k t).getD 0), .bool (Tr.get k t).isSome, .int .i64 0, .int .i64 0, .int .i64 0, .int .i64 0, .int .i64 0, .int .i64 0, .int .i64 0, .slice none 0 0, .slice none 0 0, .slice none 0 0, .slice none 0 0] 60 :: cel b1 #[.int .i64 3, .int .u64 hd, .int .u64 0, .int .i64 k, .int .i64 vv, .int .i64 0, .int .i64 0, .int .i64 0, .bool false, .string ⟨#[]⟩, .slice none 0 0, .slice none 0 0, .slice none 0 0] 63 :: L) w := hS
      refine WL.nil ?_
      refine WC.ret ?_
      refine ⟨[.agg #[.int .i64 0, .int .u64 V.T.newH, .int .i64 ((Tr.get k t).getD 0), .bool (Tr.get k t).isSome, .int .i64 0, .int .i64 0, .int .i64 0, .int .i64 0, .int .i64 0, .int .i64 0, .int .i64 0, .slice none 0 0, .slice none 0 0, .slice none 0 0, .slice none 0 0]], ⟨⟨_, rfl, hS.lvF 2 rfl ag_60⟩, trivial⟩, ?_⟩
      replace hS := (hS.sel 4 [0, 0] rfl)
      exact ⟨_, _, _, _, rfl, hS, f1, f2, f3, f4⟩
set_option maxRecDepth 8192 in
theorem fail_e {g w : World} {L : List HP} (e : Int) (hS : St g (L) w) :
    Sp Tryz.prog 25 [.int .i64 e] w (fun v w' => v = .agg #[.int .i64 e, .int .u64 0, .int .i64 0, .bool false, .int .i64 0, .int .i64 0, .int .i64 0, .int .i64 0, .int .i64 0, .int .i64 0, .int .i64 0, .slice none 0 0, .slice none 0 0, .slice none 0 0, .slice none 0 0] ∧ St g (L) w') := by
  refine Sp.enter Tryz.func25 rfl (by kernel_rfl) (by kernel_rfl) ?_
  refine WC.seq ?_
  refine WC.region ?_
  refine WL.new rfl rfl zv_60 hS (fun b1 w hS => ?_)
  refine WL.nil ?_
  refine WC.seq ?_
  refine WC.region ?_
  refine WL.r 1 rfl ?_
  refine WL.build rfl rfl (cs := [.int .i64 e, .int .u64 0, .int .i64 0, .bool false, .int .i64 0, .int .i64 0, .int .i64 0, .int .i64 0, .int .i64 0, .int .i64 0, .int .i64 0, .slice none 0 0, .slice none 0 0, .slice none 0 0, .slice none 0 0]) zv_60 rfl rfl ?_
  refine WL.stF rfl rfl rfl 0 hS rfl rfl rfl rfl rfl ag_60 (fun w hS => ?_)
  replace hS : St g (cel b1 #[.int .i64 e, .int .u64 0, .int .i64 0, .bool false, .int .i64 0, .int .i64 0, .int .i64 0, .int .i64 0, .int .i64 0, .int .i64 0, .int .i64 0, .slice none 0 0, .slice none 0 0, .slice none 0 0, .slice none 0 0] 60 :: L) w := hS
  refine WL.nil ?_
  refine WC.ret ?_
  refine ⟨[.agg #[.int .i64 e, .int .u64 0, .int .i64 0, .bool false, .int .i64 0, .int .i64 0, .int .i64 0, .int .i64 0, .int .i64 0, .int .i64 0, .int .i64 0, .slice none 0 0, .slice none 0 0, .slice none 0 0, .slice none 0 0]], ⟨⟨_, rfl, hS.lvF 0 rfl ag_60⟩, trivial⟩, ?_⟩
  replace hS := (hS.sel 1 [] rfl)
  exact ⟨rfl, hS⟩
set_option maxRecDepth 8192 in
theorem do_rel {g w : World} {L : List HP} (p s a : Nat) (V : VM) (A : AM) (R : List Int) (h : Int) (hV : VI V A R) (hh : 0 ≤ h ∧ h ≤ 18446744073709551615) (hn : V.T.s.opn h = true) (hlen : R.length ≤ 800000000) (hS : St g (Sto p s a V :: Arn a A :: L) w) :
    Sp Tryz.prog 14 [.pointer (some ⟨p, 0, none⟩), .agg #[.int .i64 9, .int .u64 h, .int .u64 0, .int .i64 0, .int .i64 0, .int .i64 0, .int .i64 0, .int .i64 0, .bool false, .string ⟨#[]⟩, .slice none 0 0, .slice none 0 0, .slice none 0 0]] w (fun v w' => ∃ (V2 : VM) (A2 : AM), v = .agg #[.int .i64 0, .int .u64 0, .int .i64 0, .bool false, .int .i64 0, .int .i64 0, .int .i64 0, .int .i64 0, .int .i64 0, .int .i64 0, .int .i64 0, .slice none 0 0, .slice none 0 0, .slice none 0 0, .slice none 0 0] ∧ St g (Sto p s a V2 :: Arn a A2 :: L) w' ∧ (VI V2 A2 R) ∧ (Rls V h V2) ∧ (Kp A A2 (V2.rs.map RN.root ++ R)) ∧ (A2.s.used.length = A.s.used.length)) := by
  refine Sp.enter Tryz.func14 rfl (by kernel_rfl) (by kernel_rfl) ?_
  refine WC.seq ?_
  refine WC.region ?_
  refine WL.box rfl rfl #[.int .i64 9, .int .u64 h, .int .u64 0, .int .i64 0, .int .i64 0, .int .i64 0, .int .i64 0, .int .i64 0, .bool false, .string ⟨#[]⟩, .slice none 0 0, .slice none 0 0, .slice none 0 0] hS rfl rfl (fun b1 w hS => ?_)
  refine WL.new rfl rfl zv_60 hS (fun b2 w hS => ?_)
  refine WL.nil ?_
  refine WC.seq ?_
  refine WC.seq ?_
  refine WC.region ?_
  refine WL.ldF rfl rfl 1 hS rfl rfl ag_63 ?_
  refine WL.call rfl rfl (valid_h (oc := 9) (h := h) (k := 0) (vv := 0) (hc := .inr (.inr ⟨rfl, rfl, rfl⟩)) (hS := hS)) rfl ?_
  clear hS; rintro _ w ⟨rfl, hS⟩
  replace hS : St g (cel b2 #[.int .i64 0, .int .u64 0, .int .i64 0, .bool false, .int .i64 0, .int .i64 0, .int .i64 0, .int .i64 0, .int .i64 0, .int .i64 0, .int .i64 0, .slice none 0 0, .slice none 0 0, .slice none 0 0, .slice none 0 0] 60 :: cel b1 #[.int .i64 9, .int .u64 h, .int .u64 0, .int .i64 0, .int .i64 0, .int .i64 0, .int .i64 0, .int .i64 0, .bool false, .string ⟨#[]⟩, .slice none 0 0, .slice none 0 0, .slice none 0 0] 63 :: Sto p s a V :: Arn a A :: L) w := hS
  refine WL.r 2 rfl ?_
  refine WL.ung rfl rfl rfl ?_
  refine WL.ldF rfl rfl 1 hS rfl rfl ag_63 ?_
  refine WL.ung rfl rfl rfl ?_
  refine WL.call rfl rfl (snd_h (oc := 9) (h := h) (k := 0) (vv := 0) (hc := .inr (.inr rfl)) (hS := hS)) rfl ?_
  clear hS; rintro _ w ⟨rfl, hS⟩
  replace hS : St g (cel b2 #[.int .i64 0, .int .u64 0, .int .i64 0, .bool false, .int .i64 0, .int .i64 0, .int .i64 0, .int .i64 0, .int .i64 0, .int .i64 0, .int .i64 0, .slice none 0 0, .slice none 0 0, .slice none 0 0, .slice none 0 0] 60 :: cel b1 #[.int .i64 9, .int .u64 h, .int .u64 0, .int .i64 0, .int .i64 0, .int .i64 0, .int .i64 0, .int .i64 0, .bool false, .string ⟨#[]⟩, .slice none 0 0, .slice none 0 0, .slice none 0 0] 63 :: Sto p s a V :: Arn a A :: L) w := hS
  refine WL.ung rfl rfl rfl ?_
  refine WL.r 2 rfl ?_
  refine WL.nil ?_
  refine WC.ifF rfl rfl ?_
  refine WC.skip ?_
  as_aux_lemma =>
    refine WC.seq ?_
    refine WC.seq ?_
    refine WC.region ?_
    refine WL.r 1 rfl ?_
    refine WL.ldF rfl rfl 1 hS rfl rfl ag_63 ?_
    refine WL.call rfl rfl (open_h (p := p) (s := s) (a := a) (V := V) (A := A) (R := R) (oc := 9) (h := h) (k := 0) (vv := 0) (hc := .inr (.inr rfl)) (hV := hV) (hh := hh) (hn := hn) (hS := (hS.sel 3 [2, 0, 0] rfl))) rfl ?_
    clear hS; rintro _ w ⟨rfl, hS⟩
    replace hS : St g (Sto p s a V :: cel b2 #[.int .i64 0, .int .u64 0, .int .i64 0, .bool false, .int .i64 0, .int .i64 0, .int .i64 0, .int .i64 0, .int .i64 0, .int .i64 0, .int .i64 0, .slice none 0 0, .slice none 0 0, .slice none 0 0, .slice none 0 0] 60 :: cel b1 #[.int .i64 9, .int .u64 h, .int .u64 0, .int .i64 0, .int .i64 0, .int .i64 0, .int .i64 0, .int .i64 0, .bool false, .string ⟨#[]⟩, .slice none 0 0, .slice none 0 0, .slice none 0 0] 63 :: Arn a A :: L) w := hS
    refine WL.r 1 rfl ?_
    refine WL.nil ?_
    refine WC.seq ?_
    refine WC.region ?_
    refine WL.r 2 rfl ?_
    refine WL.nil ?_
    refine WC.ifF rfl (decide_eq_false ((by decide))) ?_
    refine WC.skip ?_
    refine WC.seq ?_
    refine WC.seq ?_
    refine WC.region ?_
    refine WL.run 2 [.int .i64 9] rfl (by exact hS.ld 2 rfl rfl) ?_
    refine WL.call rfl rfl (creates_no (oc := 9) (hc := .inr rfl) (hS := hS)) rfl ?_
    clear hS; rintro _ w ⟨rfl, hS⟩
    replace hS : St g (Sto p s a V :: cel b2 #[.int .i64 0, .int .u64 0, .int .i64 0, .bool false, .int .i64 0, .int .i64 0, .int .i64 0, .int .i64 0, .int .i64 0, .int .i64 0, .int .i64 0, .slice none 0 0, .slice none 0 0, .slice none 0 0, .slice none 0 0] 60 :: cel b1 #[.int .i64 9, .int .u64 h, .int .u64 0, .int .i64 0, .int .i64 0, .int .i64 0, .int .i64 0, .int .i64 0, .bool false, .string ⟨#[]⟩, .slice none 0 0, .slice none 0 0, .slice none 0 0] 63 :: Arn a A :: L) w := hS
    refine WL.nil ?_
    refine WC.ifF rfl rfl ?_
    refine WC.skip ?_
    as_aux_lemma =>
      refine WC.seq ?_
      refine WC.seq ?_
      refine WC.region ?_
      refine WL.run 2 [.int .i64 9] rfl (by exact hS.ld 2 rfl rfl) ?_
      refine WL.nil ?_
      refine WC.block ?_
      refine WC.seq ?_
      refine WC.region ?_
      refine WL.r 2 rfl ?_
      refine WL.nil ?_
      refine WC.ifT rfl (decide_eq_true ((by decide))) ?_
      refine WC.seq ?_
      refine WC.plan [([0, 4, 1, 5, 2, 3], some (6, [])), ([7, 8, 9, 10, 11], none)] (by kernel_rfl) (by kernel_rfl) ?_
      obtain ⟨⟨nm, c, x, m⟩, hS⟩ := St.exOpen (f := stoF p s a V) hS
      replace hS : St g (cel p #[.pointer (some ⟨s, 0, none⟩), .pointer (some ⟨nm, 0, none⟩), .pointer (some ⟨c, 0, none⟩), .pointer (some ⟨x, 0, none⟩), .map (some m)] 49 :: Vst s a V :: blk m (.map (mE []) 0) :: cel b2 #[.int .i64 0, .int .u64 0, .int .i64 0, .bool false, .int .i64 0, .int .i64 0, .int .i64 0, .int .i64 0, .int .i64 0, .int .i64 0, .int .i64 0, .slice none 0 0, .slice none 0 0, .slice none 0 0, .slice none 0 0] 60 :: cel b1 #[.int .i64 9, .int .u64 h, .int .u64 0, .int .i64 0, .int .i64 0, .int .i64 0, .int .i64 0, .int .i64 0, .bool false, .string ⟨#[]⟩, .slice none 0 0, .slice none 0 0, .slice none 0 0] 63 :: Arn a A :: L) w := hS
      refine WQ.run 6 [.int .u64 h, .pointer (some ⟨s, 0, none⟩)] rfl (by exact ⟨hS.ld 4 rfl rfl, hS.ld 0 rfl rfl⟩) ?_
      refine WQ.nil ?_
      intro m1
      replace hS := hS.drewN m1; generalize hwm1 : World.drewN _ _ = w at *; clear hwm1
      refine WL.call rfl rfl (vs_release (s := s) (a := a) (V := V) (A := A) (R := R) (h := h) (hV := hV) (hh := hh) (hn := hn) (hlen := hlen) (hS := (hS.sel 6 [1, 4, 0, 0, 0, 0] rfl))) rfl ?_
      clear hS; rintro _ w ⟨V1, A1, f1, rfl, hS, f2, f3, f4, f5⟩
      replace hS : St g (Vst s a V1 :: Arn a A1 :: cel p #[.pointer (some ⟨s, 0, none⟩), .pointer (some ⟨nm, 0, none⟩), .pointer (some ⟨c, 0, none⟩), .pointer (some ⟨x, 0, none⟩), .map (some m)] 49 :: blk m (.map (mE []) 0) :: cel b2 #[.int .i64 0, .int .u64 0, .int .i64 0, .bool false, .int .i64 0, .int .i64 0, .int .i64 0, .int .i64 0, .int .i64 0, .int .i64 0, .int .i64 0, .slice none 0 0, .slice none 0 0, .slice none 0 0, .slice none 0 0] 60 :: cel b1 #[.int .i64 9, .int .u64 h, .int .u64 0, .int .i64 0, .int .i64 0, .int .i64 0, .int .i64 0, .int .i64 0, .bool false, .string ⟨#[]⟩, .slice none 0 0, .slice none 0 0, .slice none 0 0] 63 :: L) w := hS
      refine WL.nil ?_
      refine ⟨by exact trivial, ?_⟩
      refine WQ.r 5 rfl ?_
      refine WQ.nil ?_
      intro m2
      replace hS := hS.drewN m2; generalize hwm2 : World.drewN _ _ = w at *; clear hwm2
      as_aux_lemma =>
        refine WC.seq ?_
        refine WC.region ?_
        replace hS := St.exClose (f := stoF p s a V1) (L := Arn a A1 :: cel b2 #[.int .i64 0, .int .u64 0, .int .i64 0, .bool false, .int .i64 0, .int .i64 0, .int .i64 0, .int .i64 0, .int .i64 0, .int .i64 0, .int .i64 0, .slice none 0 0, .slice none 0 0, .slice none 0 0, .slice none 0 0] 60 :: cel b1 #[.int .i64 9, .int .u64 h, .int .u64 0, .int .i64 0, .int .i64 0, .int .i64 0, .int .i64 0, .int .i64 0, .bool false, .string ⟨#[]⟩, .slice none 0 0, .slice none 0 0, .slice none 0 0] 63 :: L) ⟨nm, c, x, m⟩ ((hS.sel 4 [2, 0, 1, 0] rfl))
        replace hS : St g (Sto p s a V1 :: Arn a A1 :: cel b2 #[.int .i64 0, .int .u64 0, .int .i64 0, .bool false, .int .i64 0, .int .i64 0, .int .i64 0, .int .i64 0, .int .i64 0, .int .i64 0, .int .i64 0, .slice none 0 0, .slice none 0 0, .slice none 0 0, .slice none 0 0] 60 :: cel b1 #[.int .i64 9, .int .u64 h, .int .u64 0, .int .i64 0, .int .i64 0, .int .i64 0, .int .i64 0, .int .i64 0, .bool false, .string ⟨#[]⟩, .slice none 0 0, .slice none 0 0, .slice none 0 0] 63 :: L) w := hS
        refine WL.r 1 rfl ?_
        refine WL.call rfl rfl (fail_e (e := 0)  (hS := hS)) rfl ?_
        clear hS; rintro _ w ⟨rfl, hS⟩
        replace hS : St g (Sto p s a V1 :: Arn a A1 :: cel b2 #[.int .i64 0, .int .u64 0, .int .i64 0, .bool false, .int .i64 0, .int .i64 0, .int .i64 0, .int .i64 0, .int .i64 0, .int .i64 0, .int .i64 0, .slice none 0 0, .slice none 0 0, .slice none 0 0, .slice none 0 0] 60 :: cel b1 #[.int .i64 9, .int .u64 h, .int .u64 0, .int .i64 0, .int .i64 0, .int .i64 0, .int .i64 0, .int .i64 0, .bool false, .string ⟨#[]⟩, .slice none 0 0, .slice none 0 0, .slice none 0 0] 63 :: L) w := hS
        refine WL.stF rfl rfl rfl 2 hS rfl rfl rfl rfl rfl ag_60 (fun w hS => ?_)
        replace hS : St g (Sto p s a V1 :: Arn a A1 :: cel b2 #[.int .i64 0, .int .u64 0, .int .i64 0, .bool false, .int .i64 0, .int .i64 0, .int .i64 0, .int .i64 0, .int .i64 0, .int .i64 0, .int .i64 0, .slice none 0 0, .slice none 0 0, .slice none 0 0, .slice none 0 0] 60 :: cel b1 #[.int .i64 9, .int .u64 h, .int .u64 0, .int .i64 0, .int .i64 0, .int .i64 0, .int .i64 0, .int .i64 0, .bool false, .string ⟨#[]⟩, .slice none 0 0, .slice none 0 0, .slice none 0 0] 63 :: L) w := hS
        refine WL.nil ?_
        refine WC.ret ?_
        refine ⟨[.agg #[.int .i64 0, .int .u64 0, .int .i64 0, .bool false, .int .i64 0, .int .i64 0, .int .i64 0, .int .i64 0, .int .i64 0, .int .i64 0, .int .i64 0, .slice none 0 0, .slice none 0 0, .slice none 0 0, .slice none 0 0]], ⟨⟨_, rfl, hS.lvF 2 rfl ag_60⟩, trivial⟩, ?_⟩
        replace hS := (hS.sel 4 [0, 0] rfl)
        exact ⟨_, _, rfl, hS, f2, f3, f5, f4.2⟩
set_option maxRecDepth 8192 in
theorem query_get {g w : World} {L : List HP} (p s a : Nat) (V : VM) (A : AM) (R : List Int) (h k : Int) (t : Tr) (hV : VI V A R) (hh : 0 ≤ h ∧ h ≤ 18446744073709551615) (hn : V.T.s.opn h = true) (hi : Is A t (V.rootOf (V.T.val h))) (hS : St g (Sto p s a V :: Arn a A :: L) w) :
    Sp Tryz.prog 36 [.pointer (some ⟨p, 0, none⟩), .agg #[.int .i64 2, .int .u64 h, .int .u64 0, .int .i64 k, .int .i64 0, .int .i64 0, .int .i64 0, .int .i64 0, .bool false, .string ⟨#[]⟩, .slice none 0 0, .slice none 0 0, .slice none 0 0]] w (fun v w' => v = .agg #[.int .i64 0, .int .u64 0, .int .i64 ((Tr.get k t).getD 0), .bool (Tr.get k t).isSome, .int .i64 0, .int .i64 0, .int .i64 0, .int .i64 0, .int .i64 0, .int .i64 0, .int .i64 0, .slice none 0 0, .slice none 0 0, .slice none 0 0, .slice none 0 0] ∧ St g (Sto p s a V :: Arn a A :: L) w') := by
  refine Sp.enter Tryz.func36 rfl (by kernel_rfl) (by kernel_rfl) ?_
  refine WC.seq ?_
  refine WC.region ?_
  refine WL.box rfl rfl #[.int .i64 2, .int .u64 h, .int .u64 0, .int .i64 k, .int .i64 0, .int .i64 0, .int .i64 0, .int .i64 0, .bool false, .string ⟨#[]⟩, .slice none 0 0, .slice none 0 0, .slice none 0 0] hS rfl rfl (fun b1 w hS => ?_)
  refine WL.new rfl rfl zv_60 hS (fun b2 w hS => ?_)
  refine WL.nil ?_
  refine WC.seq ?_
  refine WC.region ?_
  refine WL.new rfl rfl zv_60 hS (fun b3 w hS => ?_)
  refine WL.nil ?_
  refine WC.seq ?_
  refine WC.plan [([0, 1, 4, 5, 2, 6], some (3, [4, 5, 6])), ([], some (7, [])), ([8, 9], none)] (by kernel_rfl) (by kernel_rfl) ?_
  refine WQ.run 6 [.int .u64 h, .int .u64 0] rfl (by exact ⟨hS.ld 2 rfl rfl, hS.ld 2 rfl rfl⟩) ?_
  refine WQ.nil ?_
  intro m1
  replace hS := hS.drewN m1; generalize hwm1 : World.drewN _ _ = w at *; clear hwm1
  refine WL.call rfl rfl (root_h (p := p) (s := s) (a := a) (V := V) (A := A) (R := R) (h := h) (hV := hV) (hh := hh) (hn := hn) (hS := (hS.sel 4 [3, 0, 0, 0] rfl))) rfl ?_
  clear hS; rintro _ w ⟨rfl, hS⟩
  replace hS : St g (Sto p s a V :: cel b3 #[.int .i64 0, .int .u64 0, .int .i64 0, .bool false, .int .i64 0, .int .i64 0, .int .i64 0, .int .i64 0, .int .i64 0, .int .i64 0, .int .i64 0, .slice none 0 0, .slice none 0 0, .slice none 0 0, .slice none 0 0] 60 :: cel b2 #[.int .i64 0, .int .u64 0, .int .i64 0, .bool false, .int .i64 0, .int .i64 0, .int .i64 0, .int .i64 0, .int .i64 0, .int .i64 0, .int .i64 0, .slice none 0 0, .slice none 0 0, .slice none 0 0, .slice none 0 0] 60 :: cel b1 #[.int .i64 2, .int .u64 h, .int .u64 0, .int .i64 k, .int .i64 0, .int .i64 0, .int .i64 0, .int .i64 0, .bool false, .string ⟨#[]⟩, .slice none 0 0, .slice none 0 0, .slice none 0 0] 63 :: Arn a A :: L) w := hS
  refine WL.nil ?_
  refine ⟨by exact ⟨RQ.pure rfl rfl rfl rfl, RQ.pure rfl rfl rfl rfl, RQ.load rfl rfl rfl rfl (hS.ld 3 rfl rfl)⟩, ?_⟩
  refine WQ.nil ?_
  intro m2
  replace hS := hS.drewN m2; generalize hwm2 : World.drewN _ _ = w at *; clear hwm2
  refine WL.call rfl rfl (root_0 (p := p) (s := s) (a := a) (V := V) (hT := hV.t) (hS := hS)) rfl ?_
  clear hS; rintro _ w ⟨rfl, hS⟩
  replace hS : St g (Sto p s a V :: cel b3 #[.int .i64 0, .int .u64 0, .int .i64 0, .bool false, .int .i64 0, .int .i64 0, .int .i64 0, .int .i64 0, .int .i64 0, .int .i64 0, .int .i64 0, .slice none 0 0, .slice none 0 0, .slice none 0 0, .slice none 0 0] 60 :: cel b2 #[.int .i64 0, .int .u64 0, .int .i64 0, .bool false, .int .i64 0, .int .i64 0, .int .i64 0, .int .i64 0, .int .i64 0, .int .i64 0, .int .i64 0, .slice none 0 0, .slice none 0 0, .slice none 0 0, .slice none 0 0] 60 :: cel b1 #[.int .i64 2, .int .u64 h, .int .u64 0, .int .i64 k, .int .i64 0, .int .i64 0, .int .i64 0, .int .i64 0, .bool false, .string ⟨#[]⟩, .slice none 0 0, .slice none 0 0, .slice none 0 0] 63 :: Arn a A :: L) w := hS
  refine WL.nil ?_
  refine ⟨by exact trivial, ?_⟩
  refine WQ.r 2 rfl ?_
  refine WQ.nil ?_
  intro m3
  replace hS := hS.drewN m3; generalize hwm3 : World.drewN _ _ = w at *; clear hwm3
  as_aux_lemma =>
    refine WC.seq ?_
    refine WC.seq ?_
    refine WC.region ?_
    refine WL.run 2 [.int .i64 2] rfl (by exact hS.ld 3 rfl rfl) ?_
    refine WL.nil ?_
    refine WC.block ?_
    refine WC.seq ?_
    refine WC.region ?_
    refine WL.r 2 rfl ?_
    refine WL.nil ?_
    refine WC.ifT rfl (decide_eq_true ((by decide))) ?_
    refine WC.plan [([0, 2, 3, 4], some (1, [2, 3, 4])), ([], some (5, [])), ([6, 7, 8, 9], some (10, [8])), ([11], some (12, []))] (by kernel_rfl) (by kernel_rfl) ?_
    refine WQ.run 4 [.int .i64 k] rfl (by exact hS.ld 3 rfl rfl) ?_
    refine WQ.nil ?_
    intro m4
    replace hS := hS.drewN m4; generalize hwm4 : World.drewN _ _ = w at *; clear hwm4
    refine WL.call rfl rfl (st_arena (p := p) (s := s) (a := a) (V := V)  (hS := hS)) rfl ?_
    clear hS; rintro _ w ⟨rfl, hS⟩
    replace hS : St g (Sto p s a V :: cel b3 #[.int .i64 0, .int .u64 0, .int .i64 0, .bool false, .int .i64 0, .int .i64 0, .int .i64 0, .int .i64 0, .int .i64 0, .int .i64 0, .int .i64 0, .slice none 0 0, .slice none 0 0, .slice none 0 0, .slice none 0 0] 60 :: cel b2 #[.int .i64 0, .int .u64 0, .int .i64 0, .bool false, .int .i64 0, .int .i64 0, .int .i64 0, .int .i64 0, .int .i64 0, .int .i64 0, .int .i64 0, .slice none 0 0, .slice none 0 0, .slice none 0 0, .slice none 0 0] 60 :: cel b1 #[.int .i64 2, .int .u64 h, .int .u64 0, .int .i64 k, .int .i64 0, .int .i64 0, .int .i64 0, .int .i64 0, .bool false, .string ⟨#[]⟩, .slice none 0 0, .slice none 0 0, .slice none 0 0] 63 :: Arn a A :: L) w := hS
    refine WL.nil ?_
    refine ⟨by exact ⟨RQ.pure rfl rfl rfl rfl, RQ.pure rfl rfl rfl rfl, RQ.load rfl rfl rfl rfl (hS.ld 3 rfl rfl)⟩, ?_⟩
    refine WQ.nil ?_
    intro m5
    replace hS := hS.drewN m5; generalize hwm5 : World.drewN _ _ = w at *; clear hwm5
    refine WL.call rfl rfl (lk_get (a := a) (A := A) (R := List.map RN.root V.rs ++ R) (i := V.rootOf (V.T.val h)) (k := k) (t := t) (hA := hV.ref) (hi := hi) (hS := (hS.sel 5 [4, 0, 0, 0, 0] rfl))) rfl ?_
    clear hS; rintro _ w ⟨rfl, hS⟩
    replace hS : St g (Arn a A :: Sto p s a V :: cel b3 #[.int .i64 0, .int .u64 0, .int .i64 0, .bool false, .int .i64 0, .int .i64 0, .int .i64 0, .int .i64 0, .int .i64 0, .int .i64 0, .int .i64 0, .slice none 0 0, .slice none 0 0, .slice none 0 0, .slice none 0 0] 60 :: cel b2 #[.int .i64 0, .int .u64 0, .int .i64 0, .bool false, .int .i64 0, .int .i64 0, .int .i64 0, .int .i64 0, .int .i64 0, .int .i64 0, .int .i64 0, .slice none 0 0, .slice none 0 0, .slice none 0 0, .slice none 0 0] 60 :: cel b1 #[.int .i64 2, .int .u64 h, .int .u64 0, .int .i64 k, .int .i64 0, .int .i64 0, .int .i64 0, .int .i64 0, .bool false, .string ⟨#[]⟩, .slice none 0 0, .slice none 0 0, .slice none 0 0] 63 :: L) w := hS
    refine WL.nil ?_
    refine ⟨by exact trivial, ?_⟩
    refine WQ.r 4 rfl ?_
    refine WQ.nil ?_
    intro m6
    replace hS := hS.drewN m6; generalize hwm6 : World.drewN _ _ = w at *; clear hwm6
    refine WL.st rfl rfl rfl 2 hS rfl rfl rfl rfl rfl rfl (fun w hS => ?_)
    replace hS : St g (Arn a A :: Sto p s a V :: cel b3 #[.int .i64 0, .int .u64 0, .int .i64 ((Tr.get k t).getD 0), .bool false, .int .i64 0, .int .i64 0, .int .i64 0, .int .i64 0, .int .i64 0, .int .i64 0, .int .i64 0, .slice none 0 0, .slice none 0 0, .slice none 0 0, .slice none 0 0] 60 :: cel b2 #[.int .i64 0, .int .u64 0, .int .i64 0, .bool false, .int .i64 0, .int .i64 0, .int .i64 0, .int .i64 0, .int .i64 0, .int .i64 0, .int .i64 0, .slice none 0 0, .slice none 0 0, .slice none 0 0, .slice none 0 0] 60 :: cel b1 #[.int .i64 2, .int .u64 h, .int .u64 0, .int .i64 k, .int .i64 0, .int .i64 0, .int .i64 0, .int .i64 0, .bool false, .string ⟨#[]⟩, .slice none 0 0, .slice none 0 0, .slice none 0 0] 63 :: L) w := hS
    refine WL.nil ?_
    refine ⟨by exact RQ.pure rfl rfl rfl rfl, ?_⟩
    refine WQ.r 1 rfl ?_
    refine WQ.nil ?_
    intro m7
    replace hS := hS.drewN m7; generalize hwm7 : World.drewN _ _ = w at *; clear hwm7
    refine WL.st rfl rfl rfl 2 hS rfl rfl rfl rfl rfl rfl (fun w hS => ?_)
    replace hS : St g (Arn a A :: Sto p s a V :: cel b3 #[.int .i64 0, .int .u64 0, .int .i64 ((Tr.get k t).getD 0), .bool (Tr.get k t).isSome, .int .i64 0, .int .i64 0, .int .i64 0, .int .i64 0, .int .i64 0, .int .i64 0, .int .i64 0, .slice none 0 0, .slice none 0 0, .slice none 0 0, .slice none 0 0] 60 :: cel b2 #[.int .i64 0, .int .u64 0, .int .i64 0, .bool false, .int .i64 0, .int .i64 0, .int .i64 0, .int .i64 0, .int .i64 0, .int .i64 0, .int .i64 0, .slice none 0 0, .slice none 0 0, .slice none 0 0, .slice none 0 0] 60 :: cel b1 #[.int .i64 2, .int .u64 h, .int .u64 0, .int .i64 k, .int .i64 0, .int .i64 0, .int .i64 0, .int .i64 0, .bool false, .string ⟨#[]⟩, .slice none 0 0, .slice none 0 0, .slice none 0 0] 63 :: L) w := hS
    refine WL.nil ?_
    refine ⟨by exact trivial, ?_⟩
    intro m8
    replace hS := hS.drewN m8; generalize hwm8 : World.drewN _ _ = w at *; clear hwm8
    as_aux_lemma =>
      refine WC.seq ?_
      refine WC.region ?_
      refine WL.ldF rfl rfl 2 hS rfl rfl ag_60 ?_
      refine WL.stF rfl rfl rfl 3 hS rfl rfl rfl rfl rfl ag_60 (fun w hS => ?_)
      replace hS : St g (Arn a A :: Sto p s a V :: cel b3 #[.int .i64 0, .int .u64 0, .int .i64 ((Tr.get k t).getD 0), .bool (Tr.get k t).isSome, .int .i64 0, .int .i64 0, .int .i64 0, .int .i64 0, .int .i64 0, .int .i64 0, .int .i64 0, .slice none 0 0, .slice none 0 0, .slice none 0 0, .slice none 0 0] 60 :: cel b2 #[.int .i64 0, .int .u64 0, .int .i64 ((Tr.get k t).getD 0), .bool (Tr.get k t).isSome, .int .i64 0, .int .i64 0, .int .i64 0, .int .i64 0, .int .i64 0, .int .i64 0, .int .i64 0, .slice none 0 0, .slice none 0 0, .slice none 0 0, .slice none 0 0] 60 :: cel b1 #[.int .i64 2, .int .u64 h, .int .u64 0, .int .i64 k, .int .i64 0, .int .i64 0, .int .i64 0, .int .i64 0, .bool false, .string ⟨#[]⟩, .slice none 0 0, .slice none 0 0, .slice none 0 0] 63 :: L) w := hS
      refine WL.nil ?_
      refine WC.ret ?_
      refine ⟨[.agg #[.int .i64 0, .int .u64 0, .int .i64 ((Tr.get k t).getD 0), .bool (Tr.get k t).isSome, .int .i64 0, .int .i64 0, .int .i64 0, .int .i64 0, .int .i64 0, .int .i64 0, .int .i64 0, .slice none 0 0, .slice none 0 0, .slice none 0 0, .slice none 0 0]], ⟨⟨_, rfl, hS.lvF 3 rfl ag_60⟩, trivial⟩, ?_⟩
      replace hS := (hS.sel 5 [1, 0] rfl)
      exact ⟨rfl, hS⟩
set_option maxRecDepth 8192 in
theorem do_get {g w : World} {L : List HP} (p s a : Nat) (V : VM) (A : AM) (R : List Int) (h k : Int) (t : Tr) (hV : VI V A R) (hh : 0 ≤ h ∧ h ≤ 18446744073709551615) (hn : V.T.s.opn h = true) (hi : Is A t (V.rootOf (V.T.val h))) (hS : St g (Sto p s a V :: Arn a A :: L) w) :
    Sp Tryz.prog 14 [.pointer (some ⟨p, 0, none⟩), .agg #[.int .i64 2, .int .u64 h, .int .u64 0, .int .i64 k, .int .i64 0, .int .i64 0, .int .i64 0, .int .i64 0, .bool false, .string ⟨#[]⟩, .slice none 0 0, .slice none 0 0, .slice none 0 0]] w (fun v w' => v = .agg #[.int .i64 0, .int .u64 0, .int .i64 ((Tr.get k t).getD 0), .bool (Tr.get k t).isSome, .int .i64 0, .int .i64 0, .int .i64 0, .int .i64 0, .int .i64 0, .int .i64 0, .int .i64 0, .slice none 0 0, .slice none 0 0, .slice none 0 0, .slice none 0 0] ∧ St g (Sto p s a V :: Arn a A :: L) w') := by
  refine Sp.enter Tryz.func14 rfl (by kernel_rfl) (by kernel_rfl) ?_
  refine WC.seq ?_
  refine WC.region ?_
  refine WL.box rfl rfl #[.int .i64 2, .int .u64 h, .int .u64 0, .int .i64 k, .int .i64 0, .int .i64 0, .int .i64 0, .int .i64 0, .bool false, .string ⟨#[]⟩, .slice none 0 0, .slice none 0 0, .slice none 0 0] hS rfl rfl (fun b1 w hS => ?_)
  refine WL.new rfl rfl zv_60 hS (fun b2 w hS => ?_)
  refine WL.nil ?_
  refine WC.seq ?_
  refine WC.seq ?_
  refine WC.region ?_
  refine WL.ldF rfl rfl 1 hS rfl rfl ag_63 ?_
  refine WL.call rfl rfl (valid_h (oc := 2) (h := h) (k := k) (vv := 0) (hc := .inl ⟨rfl, rfl⟩) (hS := hS)) rfl ?_
  clear hS; rintro _ w ⟨rfl, hS⟩
  replace hS : St g (cel b2 #[.int .i64 0, .int .u64 0, .int .i64 0, .bool false, .int .i64 0, .int .i64 0, .int .i64 0, .int .i64 0, .int .i64 0, .int .i64 0, .int .i64 0, .slice none 0 0, .slice none 0 0, .slice none 0 0, .slice none 0 0] 60 :: cel b1 #[.int .i64 2, .int .u64 h, .int .u64 0, .int .i64 k, .int .i64 0, .int .i64 0, .int .i64 0, .int .i64 0, .bool false, .string ⟨#[]⟩, .slice none 0 0, .slice none 0 0, .slice none 0 0] 63 :: Sto p s a V :: Arn a A :: L) w := hS
  refine WL.r 2 rfl ?_
  refine WL.ung rfl rfl rfl ?_
  refine WL.ldF rfl rfl 1 hS rfl rfl ag_63 ?_
  refine WL.ung rfl rfl rfl ?_
  refine WL.call rfl rfl (snd_h (oc := 2) (h := h) (k := k) (vv := 0) (hc := .inl rfl) (hS := hS)) rfl ?_
  clear hS; rintro _ w ⟨rfl, hS⟩
  replace hS : St g (cel b2 #[.int .i64 0, .int .u64 0, .int .i64 0, .bool false, .int .i64 0, .int .i64 0, .int .i64 0, .int .i64 0, .int .i64 0, .int .i64 0, .int .i64 0, .slice none 0 0, .slice none 0 0, .slice none 0 0, .slice none 0 0] 60 :: cel b1 #[.int .i64 2, .int .u64 h, .int .u64 0, .int .i64 k, .int .i64 0, .int .i64 0, .int .i64 0, .int .i64 0, .bool false, .string ⟨#[]⟩, .slice none 0 0, .slice none 0 0, .slice none 0 0] 63 :: Sto p s a V :: Arn a A :: L) w := hS
  refine WL.ung rfl rfl rfl ?_
  refine WL.r 2 rfl ?_
  refine WL.nil ?_
  refine WC.ifF rfl rfl ?_
  refine WC.skip ?_
  as_aux_lemma =>
    refine WC.seq ?_
    refine WC.seq ?_
    refine WC.region ?_
    refine WL.r 1 rfl ?_
    refine WL.ldF rfl rfl 1 hS rfl rfl ag_63 ?_
    refine WL.call rfl rfl (open_h (p := p) (s := s) (a := a) (V := V) (A := A) (R := R) (oc := 2) (h := h) (k := k) (vv := 0) (hc := .inl rfl) (hV := hV) (hh := hh) (hn := hn) (hS := (hS.sel 3 [2, 0, 0] rfl))) rfl ?_
    clear hS; rintro _ w ⟨rfl, hS⟩
    replace hS : St g (Sto p s a V :: cel b2 #[.int .i64 0, .int .u64 0, .int .i64 0, .bool false, .int .i64 0, .int .i64 0, .int .i64 0, .int .i64 0, .int .i64 0, .int .i64 0, .int .i64 0, .slice none 0 0, .slice none 0 0, .slice none 0 0, .slice none 0 0] 60 :: cel b1 #[.int .i64 2, .int .u64 h, .int .u64 0, .int .i64 k, .int .i64 0, .int .i64 0, .int .i64 0, .int .i64 0, .bool false, .string ⟨#[]⟩, .slice none 0 0, .slice none 0 0, .slice none 0 0] 63 :: Arn a A :: L) w := hS
    refine WL.r 1 rfl ?_
    refine WL.nil ?_
    refine WC.seq ?_
    refine WC.region ?_
    refine WL.r 2 rfl ?_
    refine WL.nil ?_
    refine WC.ifF rfl (decide_eq_false ((by decide))) ?_
    refine WC.skip ?_
    refine WC.seq ?_
    refine WC.seq ?_
    refine WC.region ?_
    refine WL.run 2 [.int .i64 2] rfl (by exact hS.ld 2 rfl rfl) ?_
    refine WL.call rfl rfl (creates_no (oc := 2) (hc := .inl rfl) (hS := hS)) rfl ?_
    clear hS; rintro _ w ⟨rfl, hS⟩
    replace hS : St g (Sto p s a V :: cel b2 #[.int .i64 0, .int .u64 0, .int .i64 0, .bool false, .int .i64 0, .int .i64 0, .int .i64 0, .int .i64 0, .int .i64 0, .int .i64 0, .int .i64 0, .slice none 0 0, .slice none 0 0, .slice none 0 0, .slice none 0 0] 60 :: cel b1 #[.int .i64 2, .int .u64 h, .int .u64 0, .int .i64 k, .int .i64 0, .int .i64 0, .int .i64 0, .int .i64 0, .bool false, .string ⟨#[]⟩, .slice none 0 0, .slice none 0 0, .slice none 0 0] 63 :: Arn a A :: L) w := hS
    refine WL.nil ?_
    refine WC.ifF rfl rfl ?_
    refine WC.skip ?_
    as_aux_lemma =>
      refine WC.seq ?_
      refine WC.seq ?_
      refine WC.region ?_
      refine WL.run 2 [.int .i64 2] rfl (by exact hS.ld 2 rfl rfl) ?_
      refine WL.nil ?_
      refine WC.block ?_
      refine WC.seq ?_
      refine WC.region ?_
      refine WL.r 2 rfl ?_
      refine WL.nil ?_
      refine WC.ifF rfl (decide_eq_false ((by decide))) ?_
      refine WC.seq ?_
      refine WC.seq ?_
      refine WC.region ?_
      refine WL.r 2 rfl ?_
      refine WL.nil ?_
      refine WC.ifF rfl (decide_eq_false ((by decide))) ?_
      refine WC.seq ?_
      refine WC.region ?_
      refine WL.r 2 rfl ?_
      refine WL.nil ?_
      refine WC.ifF rfl (decide_eq_false ((by decide))) ?_
      refine WC.region ?_
      refine WL.r 2 rfl ?_
      refine WL.nil ?_
      as_aux_lemma =>
        refine WC.ifF rfl (decide_eq_false ((by decide))) ?_
        refine WC.seq ?_
        refine WC.region ?_
        refine WL.r 2 rfl ?_
        refine WL.nil ?_
        refine WC.ifF rfl (decide_eq_false ((by decide))) ?_
        refine WC.seq ?_
        refine WC.region ?_
        refine WL.r 2 rfl ?_
        refine WL.nil ?_
        refine WC.ifF rfl (decide_eq_false ((by decide))) ?_
        refine WC.seq ?_
        refine WC.seq ?_
        refine WC.region ?_
        refine WL.r 2 rfl ?_
        refine WL.nil ?_
        refine WC.ifF rfl (decide_eq_false ((by decide))) ?_
        refine WC.seq ?_
        refine WC.region ?_
        refine WL.r 2 rfl ?_
        refine WL.nil ?_
        refine WC.ifF rfl (decide_eq_false ((by decide))) ?_
        refine WC.seq ?_
        refine WC.region ?_
        refine WL.r 2 rfl ?_
        refine WL.nil ?_
        as_aux_lemma =>
          refine WC.ifF rfl (decide_eq_false ((by decide))) ?_
          refine WC.seq ?_
          refine WC.region ?_
          refine WL.r 2 rfl ?_
          refine WL.nil ?_
          refine WC.ifF rfl (decide_eq_false ((by decide))) ?_
          refine WC.seq ?_
          refine WC.region ?_
          refine WL.r 2 rfl ?_
          refine WL.nil ?_
          refine WC.ifF rfl (decide_eq_false ((by decide))) ?_
          refine WC.region ?_
          refine WL.r 2 rfl ?_
          refine WL.nil ?_
          refine WC.ifF rfl (decide_eq_false ((by decide))) ?_
          refine WC.seq ?_
          refine WC.region ?_
          refine WL.r 2 rfl ?_
          refine WL.nil ?_
          refine WC.ifF rfl (decide_eq_false ((by decide))) ?_
          refine WC.skip ?_
          refine WC.seq ?_
          refine WC.region ?_
          refine WL.r 1 rfl ?_
          refine WL.ldF rfl rfl 2 hS rfl rfl ag_63 ?_
          refine WL.call rfl rfl (query_get (p := p) (s := s) (a := a) (V := V) (A := A) (R := R) (h := h) (k := k) (t := t) (hV := hV) (hh := hh) (hn := hn) (hi := hi) (hS := (hS.sel 4 [0, 2, 0, 0] rfl))) rfl ?_
          clear hS; rintro _ w ⟨rfl, hS⟩
          replace hS : St g (Sto p s a V :: Arn a A :: cel b2 #[.int .i64 0, .int .u64 0, .int .i64 0, .bool false, .int .i64 0, .int .i64 0, .int .i64 0, .int .i64 0, .int .i64 0, .int .i64 0, .int .i64 0, .slice none 0 0, .slice none 0 0, .slice none 0 0, .slice none 0 0] 60 :: cel b1 #[.int .i64 2, .int .u64 h, .int .u64 0, .int .i64 k, .int .i64 0, .int .i64 0, .int .i64 0, .int .i64 0, .bool false, .string ⟨#[]⟩, .slice none 0 0, .slice none 0 0, .slice none 0 0] 63 :: L) w := hS
          refine WL.stF rfl rfl rfl 2 hS rfl rfl rfl rfl rfl ag_60 (fun w hS => ?_)
          replace hS : St g (Sto p s a V :: Arn a A :: cel b2 #[.int .i64 0, .int .u64 0, .int .i64 ((Tr.get k t).getD 0), .bool (Tr.get k t).isSome, .int .i64 0, .int .i64 0, .int .i64 0, .int .i64 0, .int .i64 0, .int .i64 0, .int .i64 0, .slice none 0 0, .slice none 0 0, .slice none 0 0, .slice none 0 0] 60 :: cel b1 #[.int .i64 2, .int .u64 h, .int .u64 0, .int .i64 k, .int .i64 0, .int .i64 0, .int .i64 0, .int .i64 0, .bool false, .string ⟨#[]⟩, .slice none 0 0, .slice none 0 0, .slice none 0 0] 63 :: L) w := hS
          refine WL.nil ?_
          as_aux_lemma =>
            refine WC.ret ?_
            refine ⟨[.agg #[.int .i64 0, .int .u64 0, .int .i64 ((Tr.get k t).getD 0), .bool (Tr.get k t).isSome, .int .i64 0, .int .i64 0, .int .i64 0, .int .i64 0, .int .i64 0, .int .i64 0, .int .i64 0, .slice none 0 0, .slice none 0 0, .slice none 0 0, .slice none 0 0]], ⟨⟨_, rfl, hS.lvF 2 rfl ag_60⟩, trivial⟩, ?_⟩
            replace hS := (hS.sel 4 [0, 0] rfl)
            exact ⟨rfl, hS⟩
set_option maxRecDepth 8192 in
theorem do_get_bad {g w : World} {L : List HP} (p s a : Nat) (V : VM) (h k : Int) (hT : TOk V.T) (hh : 0 ≤ h ∧ h ≤ 18446744073709551615) (hn : V.T.s.opn h = false) (hS : St g (Sto p s a V :: L) w) :
    Sp Tryz.prog 14 [.pointer (some ⟨p, 0, none⟩), .agg #[.int .i64 2, .int .u64 h, .int .u64 0, .int .i64 k, .int .i64 0, .int .i64 0, .int .i64 0, .int .i64 0, .bool false, .string ⟨#[]⟩, .slice none 0 0, .slice none 0 0, .slice none 0 0]] w (fun v w' => v = .agg #[.int .i64 5, .int .u64 0, .int .i64 0, .bool false, .int .i64 0, .int .i64 0, .int .i64 0, .int .i64 0, .int .i64 0, .int .i64 0, .int .i64 0, .slice none 0 0, .slice none 0 0, .slice none 0 0, .slice none 0 0] ∧ St g (Sto p s a V :: L) w') := by
  refine Sp.enter Tryz.func14 rfl (by kernel_rfl) (by kernel_rfl) ?_
  refine WC.seq ?_
  refine WC.region ?_
  refine WL.box rfl rfl #[.int .i64 2, .int .u64 h, .int .u64 0, .int .i64 k, .int .i64 0, .int .i64 0, .int .i64 0, .int .i64 0, .bool false, .string ⟨#[]⟩, .slice none 0 0, .slice none 0 0, .slice none 0 0] hS rfl rfl (fun b1 w hS => ?_)
  refine WL.new rfl rfl zv_60 hS (fun b2 w hS => ?_)
  refine WL.nil ?_
  refine WC.seq ?_
  refine WC.seq ?_
  refine WC.region ?_
  refine WL.ldF rfl rfl 1 hS rfl rfl ag_63 ?_
  refine WL.call rfl rfl (valid_h (oc := 2) (h := h) (k := k) (vv := 0) (hc := .inl ⟨rfl, rfl⟩) (hS := hS)) rfl ?_
  clear hS; rintro _ w ⟨rfl, hS⟩
  replace hS : St g (cel b2 #[.int .i64 0, .int .u64 0, .int .i64 0, .bool false, .int .i64 0, .int .i64 0, .int .i64 0, .int .i64 0, .int .i64 0, .int .i64 0, .int .i64 0, .slice none 0 0, .slice none 0 0, .slice none 0 0, .slice none 0 0] 60 :: cel b1 #[.int .i64 2, .int .u64 h, .int .u64 0, .int .i64 k, .int .i64 0, .int .i64 0, .int .i64 0, .int .i64 0, .bool false, .string ⟨#[]⟩, .slice none 0 0, .slice none 0 0, .slice none 0 0] 63 :: Sto p s a V :: L) w := hS
  refine WL.r 2 rfl ?_
  refine WL.ung rfl rfl rfl ?_
  refine WL.ldF rfl rfl 1 hS rfl rfl ag_63 ?_
  refine WL.ung rfl rfl rfl ?_
  refine WL.call rfl rfl (snd_h (oc := 2) (h := h) (k := k) (vv := 0) (hc := .inl rfl) (hS := hS)) rfl ?_
  clear hS; rintro _ w ⟨rfl, hS⟩
  replace hS : St g (cel b2 #[.int .i64 0, .int .u64 0, .int .i64 0, .bool false, .int .i64 0, .int .i64 0, .int .i64 0, .int .i64 0, .int .i64 0, .int .i64 0, .int .i64 0, .slice none 0 0, .slice none 0 0, .slice none 0 0, .slice none 0 0] 60 :: cel b1 #[.int .i64 2, .int .u64 h, .int .u64 0, .int .i64 k, .int .i64 0, .int .i64 0, .int .i64 0, .int .i64 0, .bool false, .string ⟨#[]⟩, .slice none 0 0, .slice none 0 0, .slice none 0 0] 63 :: Sto p s a V :: L) w := hS
  refine WL.ung rfl rfl rfl ?_
  refine WL.r 2 rfl ?_
  refine WL.nil ?_
  refine WC.ifF rfl rfl ?_
  refine WC.skip ?_
  as_aux_lemma =>
    refine WC.seq ?_
    refine WC.seq ?_
    refine WC.region ?_
    refine WL.r 1 rfl ?_
    refine WL.ldF rfl rfl 1 hS rfl rfl ag_63 ?_
    refine WL.call rfl rfl (open_bad (p := p) (s := s) (a := a) (V := V) (oc := 2) (h := h) (k := k) (vv := 0) (hc := .inl rfl) (hT := hT) (hh := hh) (hn := hn) (hS := (hS.sel 3 [2, 0, 0] rfl))) rfl ?_
    clear hS; rintro _ w ⟨rfl, hS⟩
    replace hS : St g (Sto p s a V :: cel b2 #[.int .i64 0, .int .u64 0, .int .i64 0, .bool false, .int .i64 0, .int .i64 0, .int .i64 0, .int .i64 0, .int .i64 0, .int .i64 0, .int .i64 0, .slice none 0 0, .slice none 0 0, .slice none 0 0, .slice none 0 0] 60 :: cel b1 #[.int .i64 2, .int .u64 h, .int .u64 0, .int .i64 k, .int .i64 0, .int .i64 0, .int .i64 0, .int .i64 0, .bool false, .string ⟨#[]⟩, .slice none 0 0, .slice none 0 0, .slice none 0 0] 63 :: L) w := hS
    refine WL.r 1 rfl ?_
    refine WL.nil ?_
    refine WC.seq ?_
    refine WC.region ?_
    refine WL.r 2 rfl ?_
    refine WL.nil ?_
    refine WC.ifT rfl (decide_eq_true ((by decide))) ?_
    refine WC.seq ?_
    refine WC.region ?_
    refine WL.r 1 rfl ?_
    refine WL.call rfl rfl (fail_e (e := 5)  (hS := hS)) rfl ?_
    clear hS; rintro _ w ⟨rfl, hS⟩
    replace hS : St g (Sto p s a V :: cel b2 #[.int .i64 0, .int .u64 0, .int .i64 0, .bool false, .int .i64 0, .int .i64 0, .int .i64 0, .int .i64 0, .int .i64 0, .int .i64 0, .int .i64 0, .slice none 0 0, .slice none 0 0, .slice none 0 0, .slice none 0 0] 60 :: cel b1 #[.int .i64 2, .int .u64 h, .int .u64 0, .int .i64 k, .int .i64 0, .int .i64 0, .int .i64 0, .int .i64 0, .bool false, .string ⟨#[]⟩, .slice none 0 0, .slice none 0 0, .slice none 0 0] 63 :: L) w := hS
    refine WL.stF rfl rfl rfl 1 hS rfl rfl rfl rfl rfl ag_60 (fun w hS => ?_)
    replace hS : St g (Sto p s a V :: cel b2 #[.int .i64 5, .int .u64 0, .int .i64 0, .bool false, .int .i64 0, .int .i64 0, .int .i64 0, .int .i64 0, .int .i64 0, .int .i64 0, .int .i64 0, .slice none 0 0, .slice none 0 0, .slice none 0 0, .slice none 0 0] 60 :: cel b1 #[.int .i64 2, .int .u64 h, .int .u64 0, .int .i64 k, .int .i64 0, .int .i64 0, .int .i64 0, .int .i64 0, .bool false, .string ⟨#[]⟩, .slice none 0 0, .slice none 0 0, .slice none 0 0] 63 :: L) w := hS
    refine WL.nil ?_
    refine WC.ret ?_
    refine ⟨[.agg #[.int .i64 5, .int .u64 0, .int .i64 0, .bool false, .int .i64 0, .int .i64 0, .int .i64 0, .int .i64 0, .int .i64 0, .int .i64 0, .int .i64 0, .slice none 0 0, .slice none 0 0, .slice none 0 0, .slice none 0 0]], ⟨⟨_, rfl, hS.lvF 1 rfl ag_60⟩, trivial⟩, ?_⟩
    replace hS := (hS.sel 3 [0] rfl)
    exact ⟨rfl, hS⟩
end Go.Proofs.YtloebjlnmdjeiaaGreatDoor
/-! ## D1 -/
namespace Go.Proofs.YtloebjlnmdjeiaaGreatDoor
open Go Go.V
def ordU (S : SM) (k : Nat) : List Int := (List.range k).map fun i : Nat => S.fresh + 1 + (i : Int)
def SM.order (S : SM) : List Int := S.rel.reverse ++ ordU S (S.cap - S.fresh).toNat
theorem rev_next {l : List Int} {k : Nat} {x : Int} (h : l[k]? = some x) : (l.drop k).reverse = (l.drop (k + 1)).reverse ++ [x] := by
  obtain ⟨hl, rfl⟩ := List.getElem?_eq_some_iff.1 h
  rw [List.drop_eq_getElem_cons hl, List.reverse_cons]
theorem ordU_next (S : SM) (k : Nat) : ordU S (k + 1) = ordU S k ++ [S.fresh + 1 + (k : Int)] := by
  unfold ordU; rw [List.range_succ, List.map_append]; rfl
set_option maxRecDepth 8192 in
theorem sl_order {g w : World} {L : List HP} (s : Nat) (S : SM) (hO : SOk S) (hS : St g (Slt s S :: L) w) :
    Sp Tryz.prog 43 [.pointer (some ⟨s, 0, none⟩)] w (fun v w' => ∃ (a2 : Option Addr) (c2 : Nat), v = .slice a2 (List.length (u32s (SM.order S))) c2 ∧ St g (Own 70 1 (u32s (SM.order S)) a2 c2 :: Slt s S :: L) w') := by
  refine Sp.enter Tryz.func43 rfl (by kernel_rfl) (by kernel_rfl) ?_
  refine WC.seq ?_
  refine WC.region ?_
  obtain ⟨⟨ua, uc, ga, gc, ra, rc⟩, hS⟩ := St.exOpen (f := sltF s S) hS
  replace hS : St g (cel s #[.slice ua (List.length (bos S.used)) uc, .slice ga (List.length (u32s S.gen)) gc, .slice ra (List.length (u32s S.rel)) rc, .int .u32 S.fresh] 121 :: Own 4 1 (bos S.used) ua uc :: Own 70 1 (u32s S.gen) ga gc :: Own 70 1 (u32s S.rel) ra rc :: L) w := hS
  have hfr := hO.fr; have hcp : S.cap = (S.used.length : Int) - 1 := rfl; have hle := hO.le; have hrl := hO.rle; have hfd : S.free = (S.rel.length : Int) + S.cap - S.fresh := rfl; have hru := u32s_len S.rel; have hbu := bos_len S.used
  refine WL.r 1 rfl ?_
  refine WL.nil ?_
  refine WC.seq ?_
  refine WC.region ?_
  refine WL.r 1 rfl ?_
  refine WL.call rfl rfl (sl_free0 (s := s) (ua := ua) (ga := ga) (ra := ra) (n := List.length (bos S.used)) (ng := List.length (u32s S.gen)) (nr := List.length (u32s S.rel)) (uc := uc) (gc := gc) (rc := rc) (fr := S.fresh) (hn := (by omega)) (hS := hS)) rfl ?_
  clear hS; rintro _ w ⟨rfl, hS⟩
  replace hS : St g (cel s #[.slice ua (List.length (bos S.used)) uc, .slice ga (List.length (u32s S.gen)) gc, .slice ra (List.length (u32s S.rel)) rc, .int .u32 S.fresh] 121 :: Own 4 1 (bos S.used) ua uc :: Own 70 1 (u32s S.gen) ga gc :: Own 70 1 (u32s S.rel) ra rc :: L) w := hS
  refine WL.make rfl rfl (v := 0) (v' := (List.length (u32s S.rel)) + ((List.length (bos S.used)) - 1) - S.fresh) (0) (S.free.toNat) el_32 hS rfl (by omega) rfl (by omega) (by omega) (Rm.of (by omega) (by decide)) (fun b1 w hS => ?_)
  replace hS : St g (Own 70 1 [] (some ⟨b1, 0, none⟩) S.free.toNat :: cel s #[.slice ua (List.length (bos S.used)) uc, .slice ga (List.length (u32s S.gen)) gc, .slice ra (List.length (u32s S.rel)) rc, .int .u32 S.fresh] 121 :: Own 4 1 (bos S.used) ua uc :: Own 70 1 (u32s S.gen) ga gc :: Own 70 1 (u32s S.rel) ra rc :: L) w := hS
  refine WL.r 1 rfl ?_
  refine WL.nil ?_
  refine WC.seq ?_
  refine WC.seq ?_
  refine WC.region ?_
  refine WL.run 6 [.slice ra (List.length (u32s S.rel)) rc] rfl (by exact hS.ld 1 rfl rfl) ?_
  refine WL.nw 14 rfl (w64 (by omega)) ?_
  refine WL.r 1 rfl ?_
  refine WL.nil ?_
  as_aux_lemma =>
    refine WC.block ?_
    refine WC.loop [0, 2, 3, 4] (fun kM vs w => ∃ (j : Int) (out : List Int) (ub : Option Addr) (ud : Nat), vs = [.pointer (some ⟨s, 0, none⟩), .slice none 0 0, .slice ub (List.length (u32s out)) ud, .int .i64 j] ∧ St g (Own 70 1 (u32s out) ub ud :: cel s #[.slice ua (List.length (bos S.used)) uc, .slice ga (List.length (u32s S.gen)) gc, .slice ra (List.length (u32s S.rel)) rc, .int .u32 S.fresh] 121 :: Own 4 1 (bos S.used) ua uc :: Own 70 1 (u32s S.gen) ga gc :: Own 70 1 (u32s S.rel) ra rc :: L) w ∧ (-1 ≤ j ∧ j < S.rel.length) ∧ (out = (S.rel.drop (j + 1).toNat).reverse) ∧ ((j + 1).toNat) = kM) ((((List.length (u32s S.rel) : Int) - 1) + 1).toNat) ⟨((u32s S.rel).length : Int) - 1, [], (some ⟨b1, 0, none⟩), S.free.toNat, rfl, hS, (by omega), (by rw [List.drop_eq_nil_of_le (by omega)]; rfl), rfl⟩ ?_
    clear hS; rintro _ _ w j ⟨j, out, ub, ud, rfl, hS, hj, ho, rfl⟩
    refine WC.seq ?_
    refine WC.seq ?_
    refine WC.region ?_
    refine WL.r 2 rfl ?_
    refine WL.nil ?_
    refine WC.ifP rfl (fun cd1 => ?_) (fun cd1 => ?_)
    · refine WC.skip ?_
      refine WC.seq ?_
      refine WC.block ?_
      refine WC.region ?_
      refine WL.run 6 [.slice ra (List.length (u32s S.rel)) rc] rfl (by exact hS.ld 1 rfl rfl) ?_
      obtain ⟨x, hx⟩ : ∃ x, S.rel[j.toNat]? = some x := ⟨_, List.getElem?_eq_getElem (by omega)⟩; have hol : out.length ≤ S.rel.length := (by rw [ho, List.length_reverse, List.length_drop]; omega); have hoe := u32s_len out
      refine WL.ix rfl rfl (i := j) (j.toNat) el_32 rfl rfl (by omega) (by omega) (hS.rdO 4 rfl (u32s_at hx)).1 ?_
      refine WL.run 1 [.int .u32 x] rfl (by exact (hS.rdO 4 rfl (u32s_at hx)).2 0 _ rfl) ?_
      refine WL.lit rfl rfl (u32s [x]) el_32 hS (by exact ⟨rfl, rfl⟩) (u32s_ok _) rfl (by decide) (fun b2 w hS => ?_)
      refine WL.app rfl rfl 1 (u32s (out ++ [x])) el_32 hS rfl (hS.srcO 0 rfl) (u32s_app _ _).symm (Rm.of (by first | omega | (simp <;> omega)) (by decide)) rfl rfl (fun a1 c1 w hS => ?_)
      replace hS : St g (Own 70 1 (u32s [x]) (some ⟨b2, 0, none⟩) (List.length (u32s [x])) :: Own 70 1 (u32s (out ++ [x])) a1 c1 :: cel s #[.slice ua (List.length (bos S.used)) uc, .slice ga (List.length (u32s S.gen)) gc, .slice ra (List.length (u32s S.rel)) rc, .int .u32 S.fresh] 121 :: Own 4 1 (bos S.used) ua uc :: Own 70 1 (u32s S.gen) ga gc :: Own 70 1 (u32s S.rel) ra rc :: L) w := hS
      refine WL.r 1 rfl ?_
      refine WL.nil ?_
      refine WC.region ?_
      refine WL.r 2 rfl ?_
      refine WL.nw 18 rfl (w64 (by omega)) ?_
      refine WL.r 1 rfl ?_
      refine WL.nil ?_
      exact ⟨_, by omega, j - 1, out ++ [x], a1, c1, rfl, (hS.sel 1 [] rfl), (by omega), (by rw [ho, show (j + 1).toNat = j.toNat + 1 by omega, show (j - 1 + 1).toNat = j.toNat by omega]; exact (rev_next hx).symm), rfl⟩
    · refine WC.exit ?_
      refine WC.seq ?_
      refine WC.seq ?_
      refine WC.region ?_
      have hor : out = S.rel.reverse := (by rw [ho, show (j + 1).toNat = 0 by omega]; rfl)
      refine WL.run 5 [.int .u32 S.fresh] rfl (by exact hS.ld 1 rfl rfl) ?_
      refine WL.nw 33 rfl (w64 (by omega)) ?_
      refine WL.r 1 rfl ?_
      refine WL.nw 34 rfl (w64 (by omega)) ?_
      refine WL.r 1 rfl ?_
      refine WL.nil ?_
      refine WC.block ?_
      refine WC.loop [0, 2, 3, 5] (fun kM vs w => ∃ (k : Nat) (j2 : Int) (acc : List Int) (uf : Option Addr) (ud2 : Nat), vs = [.pointer (some ⟨s, 0, none⟩), .slice none 0 0, .slice uf (List.length (u32s acc)) ud2, .int .i64 j2] ∧ St g (Own 70 1 (u32s acc) uf ud2 :: cel s #[.slice ua (List.length (bos S.used)) uc, .slice ga (List.length (u32s S.gen)) gc, .slice ra (List.length (u32s S.rel)) rc, .int .u32 S.fresh] 121 :: Own 4 1 (bos S.used) ua uc :: Own 70 1 (u32s S.gen) ga gc :: Own 70 1 (u32s S.rel) ra rc :: L) w ∧ ((k : Int) ≤ S.cap - S.fresh) ∧ (j2 = S.fresh + 1 + (k : Int)) ∧ (acc = S.rel.reverse ++ ordU S k) ∧ ((S.cap - S.fresh).toNat - k) = kM) ((S.cap - S.fresh).toNat - 0) ⟨0, S.fresh + 1, out, ub, ud, rfl, hS, (by omega), (by omega), (by rw [hor]; simp [ordU]), rfl⟩ ?_
      clear hS; rintro _ _ w j ⟨k, j2, acc, uf, ud2, rfl, hS, hk, hj2, ha, rfl⟩
      refine WC.seq ?_
      refine WC.seq ?_
      refine WC.region ?_
      refine WL.r 2 rfl ?_
      refine WL.call rfl rfl (sl_cap0 (s := s) (ua := ua) (ga := ga) (ra := ra) (n := List.length (bos S.used)) (ng := List.length (u32s S.gen)) (nr := List.length (u32s S.rel)) (uc := uc) (gc := gc) (rc := rc) (fr := S.fresh) (hn := (by omega)) (hS := (hS.sel 2 [1, 0] rfl))) rfl ?_
      clear hS; rintro _ w ⟨rfl, hS⟩
      replace hS : St g (cel s #[.slice ua (List.length (bos S.used)) uc, .slice ga (List.length (u32s S.gen)) gc, .slice ra (List.length (u32s S.rel)) rc, .int .u32 S.fresh] 121 :: Own 70 1 (u32s acc) uf ud2 :: Own 4 1 (bos S.used) ua uc :: Own 70 1 (u32s S.gen) ga gc :: Own 70 1 (u32s S.rel) ra rc :: L) w := hS
      refine WL.r 1 rfl ?_
      refine WL.nil ?_
      as_aux_lemma =>
        refine WC.ifP rfl (fun cd2 => ?_) (fun cd2 => ?_)
        · refine WC.skip ?_
          refine WC.seq ?_
          refine WC.block ?_
          refine WC.region ?_
          have hal : acc.length ≤ 140000 := (by rw [ha, List.length_append, List.length_reverse]; unfold ordU; simp; omega); have hac := u32s_len acc
          refine WL.r 3 rfl ?_
          refine WL.nw 43 rfl (wu32 (by omega)) ?_
          refine WL.lit rfl rfl (u32s [j2]) el_32 hS (by exact ⟨rfl, rfl⟩) (u32s_ok _) rfl (by decide) (fun b2 w hS => ?_)
          refine WL.app rfl rfl 2 (u32s (acc ++ [j2])) el_32 hS rfl (hS.srcO 0 rfl) (u32s_app _ _).symm (Rm.of (by first | omega | (simp <;> omega)) (by decide)) rfl rfl (fun a1 c1 w hS => ?_)
          replace hS : St g (Own 70 1 (u32s [j2]) (some ⟨b2, 0, none⟩) (List.length (u32s [j2])) :: cel s #[.slice ua (List.length (bos S.used)) uc, .slice ga (List.length (u32s S.gen)) gc, .slice ra (List.length (u32s S.rel)) rc, .int .u32 S.fresh] 121 :: Own 70 1 (u32s (acc ++ [j2])) a1 c1 :: Own 4 1 (bos S.used) ua uc :: Own 70 1 (u32s S.gen) ga gc :: Own 70 1 (u32s S.rel) ra rc :: L) w := hS
          refine WL.r 1 rfl ?_
          refine WL.nil ?_
          refine WC.region ?_
          refine WL.r 2 rfl ?_
          refine WL.nw 40 rfl (w64 (by omega)) ?_
          refine WL.r 1 rfl ?_
          refine WL.nil ?_
          exact ⟨_, by omega, k + 1, j2 + 1, acc ++ [j2], a1, c1, rfl, (hS.sel 3 [2, 1] rfl), (by omega), (by omega), (by rw [hj2, ha, ordU_next, List.append_assoc]), rfl⟩
        · refine WC.exit ?_
          refine WC.seq ?_
          refine WC.region ?_
          refine WL.r 2 rfl ?_
          refine WL.nil ?_
          refine WC.ret ?_
          replace hS := St.exClose (f := sltF s S) (L := Own 70 1 (u32s acc) uf ud2 :: L) ⟨ua, uc, ga, gc, ra, rc⟩ ((hS.sel 5 [0, 1, 1, 1, 0] rfl))
          replace hS : St g (Slt s S :: Own 70 1 (u32s acc) uf ud2 :: L) w := hS
          refine ⟨[.slice uf (List.length (u32s acc)) ud2], rfl, ?_⟩
          replace hS := (hS.sel 2 [1, 0] rfl)
          have hke : k = (S.cap - S.fresh).toNat := (by omega); subst hke; rw [show acc = SM.order S from ha] at hS ⊢; exact ⟨_, _, rfl, hS⟩
theorem order_n {S : SM} (hO : SOk S) : ((SM.order S).length : Int) = S.free := by
  have hfr := hO.fr
  unfold SM.order ordU SM.free
  simp only [List.length_append, List.length_reverse, List.length_map, List.length_range]; omega
end Go.Proofs.YtloebjlnmdjeiaaGreatDoor
/-! ## Dm -/
namespace Go.V
open Go Go.RowKit
structure SlE where
  al : Bool
  cn : Int
  ge : Int
  nd : Nd
def slC (x : SlE) : List Value := [.bool x.al, .int .i64 x.cn, .int .u32 x.ge, .int .i64 x.nd.key, .int .i64 x.nd.val, .int .u32 x.nd.lf, .int .u32 x.nd.rg, .int .i64 x.nd.size, .int .i64 x.nd.sum, .int .i64 x.nd.mn, .int .i64 x.nd.mx]
def sls (l : List SlE) : List (List Value) := l.map slC
@[simp] theorem sls_len (l : List SlE) : (sls l).length = l.length := by simp [sls]
theorem sls_at {l : List SlE} {k : Nat} {x : SlE} (h : l[k]? = some x) : (sls l)[k]? = some (slC x) := by simp [sls, h]
theorem sls_set (l : List SlE) (k : Nat) (x : SlE) : (sls l).set k (slC x) = sls (l.set k x) := by simp [sls, List.map_set]
def SlE.zero : SlE := ⟨false, 0, 0, Nd.zero⟩
def AM.cntD (A : AM) (i : Int) : Int := if A.s.ok i = true then A.cntOf i else 0
def AM.dmpAt (A : AM) (i : Int) : SlE := ⟨A.s.ok i, A.cntD i, A.s.genOf i, (A.nodes[i.toNat]?).getD Nd.zero⟩
def AM.dmp (A : AM) : List SlE := (List.range A.s.cap.toNat).map fun j : Nat => A.dmpAt ((j : Int) + 1)
def AM.dmpK (A : AM) (k : Nat) : List SlE := (List.range A.s.cap.toNat).map fun j : Nat => if j < k then A.dmpAt ((j : Int) + 1) else SlE.zero
theorem AM.dmp_len (A : AM) : A.dmp.length = A.s.cap.toNat := by simp [AM.dmp]
theorem AM.dmpK_len (A : AM) (k : Nat) : (A.dmpK k).length = A.s.cap.toNat := by simp [AM.dmpK]
theorem AM.dmpK_0 (A : AM) : sls (A.dmpK 0) = List.replicate A.s.cap.toNat (slC SlE.zero) := by
  unfold AM.dmpK
  have : (List.range A.s.cap.toNat).map (fun j : Nat => if j < 0 then A.dmpAt ((j : Int) + 1) else SlE.zero) = List.replicate A.s.cap.toNat SlE.zero := by
    apply List.ext_getElem <;> simp
  rw [this]; simp [sls]
theorem AM.dmpK_set (A : AM) {k : Nat} : (A.dmpK k).set k (A.dmpAt ((k : Int) + 1)) = A.dmpK (k + 1) := by
  apply List.ext_getElem?
  intro i
  rw [List.getElem?_set]
  unfold AM.dmpK
  rw [List.length_map, List.length_range, List.getElem?_map, List.getElem?_map]
  by_cases hi : i < A.s.cap.toNat
  · rw [List.getElem?_range hi]
    by_cases hk : k = i
    · subst hk; rw [if_pos rfl, if_pos hi]; simp
    · rw [if_neg hk]
      simp only [Option.map_some]
      by_cases h2 : i < k
      · rw [if_pos h2, if_pos (by omega)]
      · rw [if_neg h2, if_neg (by omega)]
  · have hn : (List.range A.s.cap.toNat)[i]? = none := List.getElem?_eq_none (by simp; omega)
    rw [hn]
    by_cases hk : k = i
    · subst hk; rw [if_pos rfl, if_neg hi]; rfl
    · rw [if_neg hk]; rfl
theorem AM.dmpK_end (A : AM) : A.dmpK A.s.cap.toNat = A.dmp := by
  unfold AM.dmpK AM.dmp
  refine List.map_congr_left fun j hj => ?_
  rw [if_pos (List.mem_range.1 hj)]
end Go.V
/-! ## D2 -/
namespace Go.Proofs.YtloebjlnmdjeiaaGreatDoor
open Go Go.V
set_option maxRecDepth 8192 in
theorem ar_cap_o {g w : World} {L : List HP} (a p : Nat) (A : AM) (na : Option Addr) (nc : Nat) (ca : Option Addr) (cc : Nat) (rd : Int) (hA : AWf A) (hS : St g (cel a #[.pointer (some ⟨p, 0, none⟩), .slice na (List.length (nds A.nodes)) nc, .slice ca (List.length (i64s A.cnt)) cc, .int .u64 rd] 104 :: Slt p A.s :: Own 113 8 (nds A.nodes) na nc :: Own 3 1 (i64s A.cnt) ca cc :: L) w) :
    Sp Tryz.prog 42 [.pointer (some ⟨a, 0, none⟩)] w (fun v w' => v = .int .i64 A.s.cap ∧ St g (cel a #[.pointer (some ⟨p, 0, none⟩), .slice na (List.length (nds A.nodes)) nc, .slice ca (List.length (i64s A.cnt)) cc, .int .u64 rd] 104 :: Slt p A.s :: Own 113 8 (nds A.nodes) na nc :: Own 3 1 (i64s A.cnt) ca cc :: L) w') := by
  refine Sp.enter Tryz.func42 rfl (by kernel_rfl) (by kernel_rfl) ?_
  refine WC.seq ?_
  refine WC.region ?_
  have hs := hA.s
  refine WL.r 1 rfl ?_
  refine WL.nil ?_
  refine WC.seq ?_
  refine WC.region ?_
  refine WL.run 4 [.pointer (some ⟨p, 0, none⟩)] rfl (by exact hS.ld 0 rfl rfl) ?_
  refine WL.call rfl rfl (sl_cap (s := p) (S := A.s) (hl := hA.s.le) (hS := (hS.sel 2 [1, 0] rfl))) rfl ?_
  clear hS; rintro _ w ⟨rfl, hS⟩
  replace hS : St g (Slt p A.s :: cel a #[.pointer (some ⟨p, 0, none⟩), .slice na (List.length (nds A.nodes)) nc, .slice ca (List.length (i64s A.cnt)) cc, .int .u64 rd] 104 :: Own 113 8 (nds A.nodes) na nc :: Own 3 1 (i64s A.cnt) ca cc :: L) w := hS
  refine WL.r 1 rfl ?_
  refine WL.nil ?_
  refine WC.ret ?_
  refine ⟨[.int .i64 A.s.cap], rfl, ?_⟩
  replace hS := (hS.sel 2 [1, 0] rfl)
  exact ⟨rfl, hS⟩
set_option maxRecDepth 8192 in
theorem ar_gen_o {g w : World} {L : List HP} (a p : Nat) (A : AM) (na : Option Addr) (nc : Nat) (ca : Option Addr) (cc : Nat) (rd : Int) (i : Int) (hA : AWf A) (hi : 0 ≤ i ∧ i < 4294967296) (hS : St g (cel a #[.pointer (some ⟨p, 0, none⟩), .slice na (List.length (nds A.nodes)) nc, .slice ca (List.length (i64s A.cnt)) cc, .int .u64 rd] 104 :: Slt p A.s :: Own 113 8 (nds A.nodes) na nc :: Own 3 1 (i64s A.cnt) ca cc :: L) w) :
    Sp Tryz.prog 46 [.pointer (some ⟨a, 0, none⟩), .int .u32 i] w (fun v w' => v = .int .u32 (A.s.genOf i) ∧ St g (cel a #[.pointer (some ⟨p, 0, none⟩), .slice na (List.length (nds A.nodes)) nc, .slice ca (List.length (i64s A.cnt)) cc, .int .u64 rd] 104 :: Slt p A.s :: Own 113 8 (nds A.nodes) na nc :: Own 3 1 (i64s A.cnt) ca cc :: L) w') := by
  refine Sp.enter Tryz.func46 rfl (by kernel_rfl) (by kernel_rfl) ?_
  have _ := hi
  refine WC.seq ?_
  refine WC.region ?_
  have hs := hA.s
  refine WL.r 1 rfl ?_
  refine WL.nil ?_
  refine WC.seq ?_
  refine WC.region ?_
  refine WL.run 5 [.pointer (some ⟨p, 0, none⟩)] rfl (by exact hS.ld 0 rfl rfl) ?_
  refine WL.call rfl rfl (sl_gen (s := p) (S := A.s) (i := i) (hl := (by first | assumption | exact SOk.gle (by assumption))) (hi := (by omega)) (hS := (hS.sel 2 [1, 0] rfl))) rfl ?_
  clear hS; rintro _ w ⟨rfl, hS⟩
  replace hS : St g (Slt p A.s :: cel a #[.pointer (some ⟨p, 0, none⟩), .slice na (List.length (nds A.nodes)) nc, .slice ca (List.length (i64s A.cnt)) cc, .int .u64 rd] 104 :: Own 113 8 (nds A.nodes) na nc :: Own 3 1 (i64s A.cnt) ca cc :: L) w := hS
  refine WL.r 1 rfl ?_
  refine WL.nil ?_
  refine WC.ret ?_
  refine ⟨[.int .u32 (A.s.genOf i)], rfl, ?_⟩
  replace hS := (hS.sel 2 [1, 0] rfl)
  exact ⟨rfl, hS⟩
set_option maxRecDepth 8192 in
theorem ar_count_o {g w : World} {L : List HP} (a p : Nat) (A : AM) (na : Option Addr) (nc : Nat) (ca : Option Addr) (cc : Nat) (rd : Int) (i : Int) (hA : AWf A) (hi : 0 ≤ i ∧ i < 4294967296) (hS : St g (cel a #[.pointer (some ⟨p, 0, none⟩), .slice na (List.length (nds A.nodes)) nc, .slice ca (List.length (i64s A.cnt)) cc, .int .u64 rd] 104 :: Slt p A.s :: Own 113 8 (nds A.nodes) na nc :: Own 3 1 (i64s A.cnt) ca cc :: L) w) :
    Sp Tryz.prog 45 [.pointer (some ⟨a, 0, none⟩), .int .u32 i] w (fun v w' => v = .int .i64 (AM.cntD A i) ∧ St g (cel a #[.pointer (some ⟨p, 0, none⟩), .slice na (List.length (nds A.nodes)) nc, .slice ca (List.length (i64s A.cnt)) cc, .int .u64 rd] 104 :: Slt p A.s :: Own 113 8 (nds A.nodes) na nc :: Own 3 1 (i64s A.cnt) ca cc :: L) w') := by
  refine Sp.enter Tryz.func45 rfl (by kernel_rfl) (by kernel_rfl) ?_
  refine WC.seq ?_
  refine WC.region ?_
  refine WL.r 1 rfl ?_
  refine WL.nil ?_
  refine WC.seq ?_
  refine WC.seq ?_
  refine WC.region ?_
  have hs := hA.s; have hle := hA.s.le; have hcl := hA.cl; have hil := i64s_len A.cnt
  refine WL.run 5 [.pointer (some ⟨p, 0, none⟩)] rfl (by exact hS.ld 0 rfl rfl) ?_
  refine WL.call rfl rfl (sl_ok (s := p) (S := A.s) (i := i) (hl := hle) (hi := hi) (hS := (hS.sel 2 [1, 0] rfl))) rfl ?_
  clear hS; rintro _ w ⟨rfl, hS⟩
  replace hS : St g (Slt p A.s :: cel a #[.pointer (some ⟨p, 0, none⟩), .slice na (List.length (nds A.nodes)) nc, .slice ca (List.length (i64s A.cnt)) cc, .int .u64 rd] 104 :: Own 113 8 (nds A.nodes) na nc :: Own 3 1 (i64s A.cnt) ca cc :: L) w := hS
  refine WL.r 1 rfl ?_
  refine WL.nil ?_
  refine WC.if_ rfl (fun hc => ?_) (fun hc => ?_)
  · refine WC.seq ?_
    refine WC.region ?_
    refine WL.r 1 rfl ?_
    refine WL.nil ?_
    refine WC.ret ?_
    refine ⟨[.int .i64 0], rfl, ?_⟩
    replace hS := (hS.sel 2 [1, 0] rfl)
    exact ⟨by unfold AM.cntD; rw [if_neg (by simpa using hc)]; rfl, hS⟩
  · refine WC.skip ?_
    refine WC.seq ?_
    refine WC.region ?_
    refine WL.run 5 [.slice ca (List.length (i64s A.cnt)) cc] rfl (by exact hS.ld 1 rfl rfl) ?_
    have hr := SM.ok_rng hA.s hi.1 (by simpa using hc); obtain ⟨x, hx⟩ : ∃ x, A.cnt[i.toNat]? = some x := ⟨_, List.getElem?_eq_getElem (by omega)⟩
    refine WL.ix rfl rfl (i := i) (i.toNat) el_102 rfl rfl (by omega) (by omega) (hS.rdO 3 rfl (i64s_at hx)).1 ?_
    refine WL.run 2 [.int .i64 x] rfl (by exact (hS.rdO 3 rfl (i64s_at hx)).2 0 _ rfl) ?_
    refine WL.nil ?_
    refine WC.ret ?_
    refine ⟨[.int .i64 x], rfl, ?_⟩
    replace hS := (hS.sel 2 [1, 0] rfl)
    exact ⟨by unfold AM.cntD AM.cntOf; rw [if_pos (by simpa using hc), hx]; rfl, hS⟩
end Go.Proofs.YtloebjlnmdjeiaaGreatDoor
/-! ## D3 -/
namespace Go.Proofs.YtloebjlnmdjeiaaGreatDoor
open Go Go.V
theorem dmp_nd {A : AM} (h : AWf A) {k : Nat} (hk : (k : Int) < A.s.cap) : ∃ nd, A.nodes[k + 1]? = some nd ∧ (A.dmpAt ((k : Int) + 1)).nd = nd := by
  have hn := h.nl
  have hc : A.s.cap = (A.s.used.length : Int) - 1 := rfl
  have h1 : A.nodes[k + 1]? = some (A.nodes[k + 1]'(by omega)) := List.getElem?_eq_getElem (by omega)
  refine ⟨_, h1, ?_⟩
  show (A.nodes[((k : Int) + 1).toNat]?).getD Nd.zero = _
  rw [show ((k : Int) + 1).toNat = k + 1 by omega, h1]; rfl
theorem dmp_zero (A : AM) : List.replicate A.s.cap.toNat [.bool false, .int .i64 0, .int .u32 0, .int .i64 0, .int .i64 0, .int .u32 0, .int .u32 0, .int .i64 0, .int .i64 0, .int .i64 0, .int .i64 0] = sls (A.dmpK 0) := A.dmpK_0.symm
theorem dmp_st {A : AM} {k : Nat} {nd : Nd} (h : (A.dmpAt ((k : Int) + 1)).nd = nd) : (sls (A.dmpK k)).set k [.bool (A.s.ok ((k : Int) + 1)), .int .i64 (A.cntD ((k : Int) + 1)), .int .u32 (A.s.genOf ((k : Int) + 1)), .int .i64 nd.key, .int .i64 nd.val, .int .u32 nd.lf, .int .u32 nd.rg, .int .i64 nd.size, .int .i64 nd.sum, .int .i64 nd.mn, .int .i64 nd.mx] = sls (A.dmpK (k + 1)) := by
  subst h
  exact (sls_set (A.dmpK k) k (A.dmpAt ((k : Int) + 1))).trans (congrArg sls A.dmpK_set)
set_option maxHeartbeats 2000000 in
set_option maxRecDepth 8192 in
theorem ar_dump {g w : World} {L : List HP} (a : Nat) (A : AM) (hA : AWf A) (hS : St g (Arn a A :: L) w) :
    Sp Tryz.prog 19 [.pointer (some ⟨a, 0, none⟩)] w (fun v w' => ∃ (a2 : Option Addr) (c2 : Nat) (a4 : Option Addr) (c4 : Nat), v = .agg #[.slice a2 (List.length (sls (AM.dmp A))) c2, .slice a4 (List.length (u32s (SM.order A.s))) c4] ∧ St g (Own 115 11 (sls (AM.dmp A)) a2 c2 :: Own 70 1 (u32s (SM.order A.s)) a4 c4 :: Arn a A :: L) w') := by
  refine Sp.enter Tryz.func19 rfl (by kernel_rfl) (by kernel_rfl) ?_
  refine WC.seq ?_
  refine WC.region ?_
  obtain ⟨⟨xp, xna, xnc, xca, xcc, xrd⟩, hS⟩ := St.exOpen (f := arnF a A) hS
  replace hS : St g (cel a #[.pointer (some ⟨xp, 0, none⟩), .slice xna (List.length (nds A.nodes)) xnc, .slice xca (List.length (i64s A.cnt)) xcc, .int .u64 xrd] 104 :: Slt xp A.s :: Own 113 8 (nds A.nodes) xna xnc :: Own 3 1 (i64s A.cnt) xca xcc :: L) w := hS
  have hs := hA.s; have hle := hA.s.le; have hcp : A.s.cap = (A.s.used.length : Int) - 1 := rfl; have hce := hA.s.cap
  refine WL.new rfl rfl zv_36 hS (fun b1 w hS => ?_)
  refine WL.nil ?_
  refine WC.seq ?_
  refine WC.cut [0, 2, 3] (fun vs w => ∃ (b : Nat) (ua : Option Addr) (ub : Option Addr) (ud : Nat), vs = [.pointer (some ⟨a, 0, none⟩), .pointer (some ⟨b1, 0, none⟩), .pointer (some ⟨b, 0, none⟩)] ∧ St g (cel b #[.slice ua A.s.cap.toNat A.s.cap.toNat, .slice ub (List.length (u32s (SM.order A.s))) ud] 36 :: Own 115 11 (List.replicate A.s.cap.toNat [.bool false, .int .i64 0, .int .u32 0, .int .i64 0, .int .i64 0, .int .u32 0, .int .u32 0, .int .i64 0, .int .i64 0, .int .i64 0, .int .i64 0]) ua A.s.cap.toNat :: Own 70 1 (u32s (SM.order A.s)) ub ud :: cel b1 #[.slice none 0 0, .slice none 0 0] 36 :: cel a #[.pointer (some ⟨xp, 0, none⟩), .slice xna (List.length (nds A.nodes)) xnc, .slice xca (List.length (i64s A.cnt)) xcc, .int .u64 xrd] 104 :: Slt xp A.s :: Own 113 8 (nds A.nodes) xna xnc :: Own 3 1 (i64s A.cnt) xca xcc :: L) w) ?_ ?_
  · refine WC.tree (.two [0, 3, 4, 5, 6] 1 [3, 4, 5, 6] (.three [] 2 [3, 4, 5, 6] (.two [] 7 [] (.one [8] 9 [0, 3, 4, 5, 6, 8] (.one [] 10 [] .nil)) 9 [0, 3, 4, 5, 6] (.one [] 7 [] (.one [8] 10 [] .nil))) 7 [] (.two [] 2 [3, 4, 5, 6] (.one [8] 9 [0, 3, 4, 5, 6, 8] (.one [] 10 [] .nil)) 9 [0, 3, 4, 5, 6] (.one [] 2 [3, 4, 5, 6] (.one [8] 10 [] .nil))) 9 [0, 3, 4, 5, 6] (.two [] 2 [3, 4, 5, 6] (.one [] 7 [] (.one [8] 10 [] .nil)) 7 [] (.one [] 2 [3, 4, 5, 6] (.one [8] 10 [] .nil)))) 9 [0, 3, 4, 5, 6] (.one [] 1 [3, 4, 5, 6] (.two [] 2 [3, 4, 5, 6] (.one [] 7 [] (.one [8] 10 [] .nil)) 7 [] (.one [] 2 [3, 4, 5, 6] (.one [8] 10 [] .nil))))) (by kernel_rfl) (by kernel_rfl) ?_
    refine WQ.run 5 [.pointer (some ⟨xp, 0, none⟩)] rfl (by exact hS.ld 1 rfl rfl) ?_
    refine WQ.nil ?_
    intro m1
    replace hS := hS.drewN m1; generalize hwm1 : World.drewN _ _ = w at *; clear hwm1
    refine ⟨?_, ?_⟩
    · refine WL.call rfl rfl (ar_cap_o (a := a) (p := xp) (A := A) (na := xna) (nc := xnc) (ca := xca) (cc := xcc) (rd := xrd) (hA := hA) (hS := (hS.sel 5 [1, 1, 1, 1, 0] rfl))) rfl ?_
      clear hS; rintro _ w ⟨rfl, hS⟩
      replace hS : St g (cel a #[.pointer (some ⟨xp, 0, none⟩), .slice xna (List.length (nds A.nodes)) xnc, .slice xca (List.length (i64s A.cnt)) xcc, .int .u64 xrd] 104 :: Slt xp A.s :: Own 113 8 (nds A.nodes) xna xnc :: Own 3 1 (i64s A.cnt) xca xcc :: cel b1 #[.slice none 0 0, .slice none 0 0] 36 :: L) w := hS
      refine WL.nil ?_
      refine ⟨by exact ⟨RQ.pure rfl rfl rfl rfl, RQ.pure rfl rfl rfl rfl, RQ.pure rfl rfl rfl rfl, RQ.load rfl rfl rfl rfl (hS.ld 0 rfl rfl)⟩, ?_⟩
      refine WQ.nil ?_
      intro m2
      replace hS := hS.drewN m2; generalize hwm2 : World.drewN _ _ = w at *; clear hwm2
      refine ⟨?_, ?_, ?_⟩
      · refine WL.make rfl rfl (v := A.s.cap) (v' := A.s.cap) (A.s.cap.toNat) (A.s.cap.toNat) el_34 hS rfl (by omega) rfl (by omega) (by omega) (Rm.of (by omega) (by decide)) (fun b2 w hS => ?_)
        replace hS : St g (Own 115 11 (List.replicate A.s.cap.toNat [.bool false, .int .i64 0, .int .u32 0, .int .i64 0, .int .i64 0, .int .u32 0, .int .u32 0, .int .i64 0, .int .i64 0, .int .i64 0, .int .i64 0]) (some ⟨b2, 0, none⟩) A.s.cap.toNat :: cel a #[.pointer (some ⟨xp, 0, none⟩), .slice xna (List.length (nds A.nodes)) xnc, .slice xca (List.length (i64s A.cnt)) xcc, .int .u64 xrd] 104 :: Slt xp A.s :: Own 113 8 (nds A.nodes) xna xnc :: Own 3 1 (i64s A.cnt) xca xcc :: cel b1 #[.slice none 0 0, .slice none 0 0] 36 :: L) w := hS
        refine WL.nil ?_
        refine ⟨by exact ⟨RQ.pure rfl rfl rfl rfl, RQ.pure rfl rfl rfl rfl, RQ.pure rfl rfl rfl rfl, RQ.load rfl rfl rfl rfl (hS.ld 1 rfl rfl)⟩, ?_⟩
        refine WQ.nil ?_
        intro m3
        replace hS := hS.drewN m3; generalize hwm3 : World.drewN _ _ = w at *; clear hwm3
        refine ⟨?_, ?_⟩
        · refine WL.call rfl rfl (sl_order (s := xp) (S := A.s) (hO := hs) (hS := (hS.sel 3 [2, 0, 0] rfl))) rfl ?_
          clear hS; rintro _ w ⟨a1, c1, rfl, hS⟩
          replace hS : St g (Own 70 1 (u32s (SM.order A.s)) a1 c1 :: Slt xp A.s :: Own 115 11 (List.replicate A.s.cap.toNat [.bool false, .int .i64 0, .int .u32 0, .int .i64 0, .int .i64 0, .int .u32 0, .int .u32 0, .int .i64 0, .int .i64 0, .int .i64 0, .int .i64 0]) (some ⟨b2, 0, none⟩) A.s.cap.toNat :: cel a #[.pointer (some ⟨xp, 0, none⟩), .slice xna (List.length (nds A.nodes)) xnc, .slice xca (List.length (i64s A.cnt)) xcc, .int .u64 xrd] 104 :: Own 113 8 (nds A.nodes) xna xnc :: Own 3 1 (i64s A.cnt) xca xcc :: cel b1 #[.slice none 0 0, .slice none 0 0] 36 :: L) w := hS
          refine WL.nil ?_
          refine ⟨by exact trivial, ?_⟩
          refine WQ.build rfl rfl (cs := [.slice (some ⟨b2, 0, none⟩) A.s.cap.toNat A.s.cap.toNat, .slice a1 (List.length (u32s (SM.order A.s))) c1]) zv_36 rfl rfl ?_
          refine WQ.nil ?_
          intro m4
          replace hS := hS.drewN m4; generalize hwm4 : World.drewN _ _ = w at *; clear hwm4
          refine WL.new rfl rfl zv_36 hS (fun b3 w hS => ?_)
          refine WL.nil ?_
          refine ⟨by exact ⟨RQ.pure rfl rfl rfl rfl, RQ.pure rfl rfl rfl rfl, RQ.pure rfl rfl rfl rfl, RQ.pure rfl rfl rfl rfl, RQ.load rfl rfl rfl rfl (hS.ld 4 rfl rfl), RQ.build rfl rfl (cs := [.slice (some ⟨b2, 0, none⟩) A.s.cap.toNat A.s.cap.toNat, .slice a1 (List.length (u32s (SM.order A.s))) c1]) zv_36 rfl rfl rfl rfl⟩, ?_⟩
          refine WQ.nil ?_
          intro m5
          replace hS := hS.drewN m5; generalize hwm5 : World.drewN _ _ = w at *; clear hwm5
          refine WL.stF rfl rfl rfl 0 hS rfl rfl rfl rfl rfl ag_36 (fun w hS => ?_)
          replace hS : St g (cel b3 #[.slice (some ⟨b2, 0, none⟩) A.s.cap.toNat A.s.cap.toNat, .slice a1 (List.length (u32s (SM.order A.s))) c1] 36 :: Own 70 1 (u32s (SM.order A.s)) a1 c1 :: Slt xp A.s :: Own 115 11 (List.replicate A.s.cap.toNat [.bool false, .int .i64 0, .int .u32 0, .int .i64 0, .int .i64 0, .int .u32 0, .int .u32 0, .int .i64 0, .int .i64 0, .int .i64 0, .int .i64 0]) (some ⟨b2, 0, none⟩) A.s.cap.toNat :: cel a #[.pointer (some ⟨xp, 0, none⟩), .slice xna (List.length (nds A.nodes)) xnc, .slice xca (List.length (i64s A.cnt)) xcc, .int .u64 xrd] 104 :: Own 113 8 (nds A.nodes) xna xnc :: Own 3 1 (i64s A.cnt) xca xcc :: cel b1 #[.slice none 0 0, .slice none 0 0] 36 :: L) w := hS
          refine WL.nil ?_
          refine ⟨by exact trivial, ?_⟩
          intro m6
          replace hS := hS.drewN m6; generalize hwm6 : World.drewN _ _ = w at *; clear hwm6
          exact ⟨b3, (some ⟨b2, 0, none⟩), a1, c1, rfl, (hS.sel 8 [0, 2, 0, 4, 1, 0, 0, 0] rfl)⟩
        · refine WL.new rfl rfl zv_36 hS (fun b3 w hS => ?_)
          refine WL.nil ?_
          refine ⟨by exact ⟨RQ.pure rfl rfl rfl rfl, RQ.pure rfl rfl rfl rfl, RQ.pure rfl rfl rfl rfl, RQ.pure rfl rfl rfl rfl, RQ.load rfl rfl rfl rfl (hS.ld 2 rfl rfl)⟩, ?_⟩
          refine WQ.nil ?_
          intro m4
          replace hS := hS.drewN m4; generalize hwm4 : World.drewN _ _ = w at *; clear hwm4
          refine WL.call rfl rfl (sl_order (s := xp) (S := A.s) (hO := hs) (hS := (hS.sel 4 [3, 0, 0, 0] rfl))) rfl ?_
          clear hS; rintro _ w ⟨a1, c1, rfl, hS⟩
          replace hS : St g (Own 70 1 (u32s (SM.order A.s)) a1 c1 :: Slt xp A.s :: cel b3 #[.slice none 0 0, .slice none 0 0] 36 :: Own 115 11 (List.replicate A.s.cap.toNat [.bool false, .int .i64 0, .int .u32 0, .int .i64 0, .int .i64 0, .int .u32 0, .int .u32 0, .int .i64 0, .int .i64 0, .int .i64 0, .int .i64 0]) (some ⟨b2, 0, none⟩) A.s.cap.toNat :: cel a #[.pointer (some ⟨xp, 0, none⟩), .slice xna (List.length (nds A.nodes)) xnc, .slice xca (List.length (i64s A.cnt)) xcc, .int .u64 xrd] 104 :: Own 113 8 (nds A.nodes) xna xnc :: Own 3 1 (i64s A.cnt) xca xcc :: cel b1 #[.slice none 0 0, .slice none 0 0] 36 :: L) w := hS
          refine WL.nil ?_
          refine ⟨by exact trivial, ?_⟩
          refine WQ.build rfl rfl (cs := [.slice (some ⟨b2, 0, none⟩) A.s.cap.toNat A.s.cap.toNat, .slice a1 (List.length (u32s (SM.order A.s))) c1]) zv_36 rfl rfl ?_
          refine WQ.nil ?_
          intro m5
          replace hS := hS.drewN m5; generalize hwm5 : World.drewN _ _ = w at *; clear hwm5
          refine WL.stF rfl rfl rfl 2 hS rfl rfl rfl rfl rfl ag_36 (fun w hS => ?_)
          replace hS : St g (Own 70 1 (u32s (SM.order A.s)) a1 c1 :: Slt xp A.s :: cel b3 #[.slice (some ⟨b2, 0, none⟩) A.s.cap.toNat A.s.cap.toNat, .slice a1 (List.length (u32s (SM.order A.s))) c1] 36 :: Own 115 11 (List.replicate A.s.cap.toNat [.bool false, .int .i64 0, .int .u32 0, .int .i64 0, .int .i64 0, .int .u32 0, .int .u32 0, .int .i64 0, .int .i64 0, .int .i64 0, .int .i64 0]) (some ⟨b2, 0, none⟩) A.s.cap.toNat :: cel a #[.pointer (some ⟨xp, 0, none⟩), .slice xna (List.length (nds A.nodes)) xnc, .slice xca (List.length (i64s A.cnt)) xcc, .int .u64 xrd] 104 :: Own 113 8 (nds A.nodes) xna xnc :: Own 3 1 (i64s A.cnt) xca xcc :: cel b1 #[.slice none 0 0, .slice none 0 0] 36 :: L) w := hS
          refine WL.nil ?_
          refine ⟨by exact trivial, ?_⟩
          intro m6
          replace hS := hS.drewN m6; generalize hwm6 : World.drewN _ _ = w at *; clear hwm6
          exact ⟨b3, (some ⟨b2, 0, none⟩), a1, c1, rfl, (hS.sel 8 [2, 2, 0, 4, 1, 0, 0, 0] rfl)⟩
      · refine WL.call rfl rfl (sl_order (s := xp) (S := A.s) (hO := hs) (hS := (hS.sel 2 [1, 0] rfl))) rfl ?_
        clear hS; rintro _ w ⟨a1, c1, rfl, hS⟩
        replace hS : St g (Own 70 1 (u32s (SM.order A.s)) a1 c1 :: Slt xp A.s :: cel a #[.pointer (some ⟨xp, 0, none⟩), .slice xna (List.length (nds A.nodes)) xnc, .slice xca (List.length (i64s A.cnt)) xcc, .int .u64 xrd] 104 :: Own 113 8 (nds A.nodes) xna xnc :: Own 3 1 (i64s A.cnt) xca xcc :: cel b1 #[.slice none 0 0, .slice none 0 0] 36 :: L) w := hS
        refine WL.nil ?_
        refine ⟨by exact trivial, ?_⟩
        refine WQ.nil ?_
        intro m3
        replace hS := hS.drewN m3; generalize hwm3 : World.drewN _ _ = w at *; clear hwm3
        refine ⟨?_, ?_⟩
        · refine WL.make rfl rfl (v := A.s.cap) (v' := A.s.cap) (A.s.cap.toNat) (A.s.cap.toNat) el_34 hS rfl (by omega) rfl (by omega) (by omega) (Rm.of (by omega) (by decide)) (fun b2 w hS => ?_)
          replace hS : St g (Own 115 11 (List.replicate A.s.cap.toNat [.bool false, .int .i64 0, .int .u32 0, .int .i64 0, .int .i64 0, .int .u32 0, .int .u32 0, .int .i64 0, .int .i64 0, .int .i64 0, .int .i64 0]) (some ⟨b2, 0, none⟩) A.s.cap.toNat :: Own 70 1 (u32s (SM.order A.s)) a1 c1 :: Slt xp A.s :: cel a #[.pointer (some ⟨xp, 0, none⟩), .slice xna (List.length (nds A.nodes)) xnc, .slice xca (List.length (i64s A.cnt)) xcc, .int .u64 xrd] 104 :: Own 113 8 (nds A.nodes) xna xnc :: Own 3 1 (i64s A.cnt) xca xcc :: cel b1 #[.slice none 0 0, .slice none 0 0] 36 :: L) w := hS
          refine WL.nil ?_
          refine ⟨by exact ⟨RQ.pure rfl rfl rfl rfl, RQ.pure rfl rfl rfl rfl, RQ.pure rfl rfl rfl rfl, RQ.load rfl rfl rfl rfl (hS.ld 3 rfl rfl)⟩, ?_⟩
          refine WQ.build rfl rfl (cs := [.slice (some ⟨b2, 0, none⟩) A.s.cap.toNat A.s.cap.toNat, .slice a1 (List.length (u32s (SM.order A.s))) c1]) zv_36 rfl rfl ?_
          refine WQ.nil ?_
          intro m4
          replace hS := hS.drewN m4; generalize hwm4 : World.drewN _ _ = w at *; clear hwm4
          refine WL.new rfl rfl zv_36 hS (fun b3 w hS => ?_)
          refine WL.nil ?_
          refine ⟨by exact ⟨RQ.pure rfl rfl rfl rfl, RQ.pure rfl rfl rfl rfl, RQ.pure rfl rfl rfl rfl, RQ.pure rfl rfl rfl rfl, RQ.load rfl rfl rfl rfl (hS.ld 4 rfl rfl), RQ.build rfl rfl (cs := [.slice (some ⟨b2, 0, none⟩) A.s.cap.toNat A.s.cap.toNat, .slice a1 (List.length (u32s (SM.order A.s))) c1]) zv_36 rfl rfl rfl rfl⟩, ?_⟩
          refine WQ.nil ?_
          intro m5
          replace hS := hS.drewN m5; generalize hwm5 : World.drewN _ _ = w at *; clear hwm5
          refine WL.stF rfl rfl rfl 0 hS rfl rfl rfl rfl rfl ag_36 (fun w hS => ?_)
          replace hS : St g (cel b3 #[.slice (some ⟨b2, 0, none⟩) A.s.cap.toNat A.s.cap.toNat, .slice a1 (List.length (u32s (SM.order A.s))) c1] 36 :: Own 115 11 (List.replicate A.s.cap.toNat [.bool false, .int .i64 0, .int .u32 0, .int .i64 0, .int .i64 0, .int .u32 0, .int .u32 0, .int .i64 0, .int .i64 0, .int .i64 0, .int .i64 0]) (some ⟨b2, 0, none⟩) A.s.cap.toNat :: Own 70 1 (u32s (SM.order A.s)) a1 c1 :: Slt xp A.s :: cel a #[.pointer (some ⟨xp, 0, none⟩), .slice xna (List.length (nds A.nodes)) xnc, .slice xca (List.length (i64s A.cnt)) xcc, .int .u64 xrd] 104 :: Own 113 8 (nds A.nodes) xna xnc :: Own 3 1 (i64s A.cnt) xca xcc :: cel b1 #[.slice none 0 0, .slice none 0 0] 36 :: L) w := hS
          refine WL.nil ?_
          refine ⟨by exact trivial, ?_⟩
          intro m6
          replace hS := hS.drewN m6; generalize hwm6 : World.drewN _ _ = w at *; clear hwm6
          exact ⟨b3, (some ⟨b2, 0, none⟩), a1, c1, rfl, (hS.sel 8 [0, 0, 0, 4, 1, 0, 0, 0] rfl)⟩
        · refine WL.new rfl rfl zv_36 hS (fun b2 w hS => ?_)
          refine WL.nil ?_
          refine ⟨by exact ⟨RQ.pure rfl rfl rfl rfl, RQ.pure rfl rfl rfl rfl, RQ.pure rfl rfl rfl rfl, RQ.pure rfl rfl rfl rfl, RQ.load rfl rfl rfl rfl (hS.ld 3 rfl rfl)⟩, ?_⟩
          refine WQ.nil ?_
          intro m4
          replace hS := hS.drewN m4; generalize hwm4 : World.drewN _ _ = w at *; clear hwm4
          refine WL.make rfl rfl (v := A.s.cap) (v' := A.s.cap) (A.s.cap.toNat) (A.s.cap.toNat) el_34 hS rfl (by omega) rfl (by omega) (by omega) (Rm.of (by omega) (by decide)) (fun b3 w hS => ?_)
          replace hS : St g (Own 115 11 (List.replicate A.s.cap.toNat [.bool false, .int .i64 0, .int .u32 0, .int .i64 0, .int .i64 0, .int .u32 0, .int .u32 0, .int .i64 0, .int .i64 0, .int .i64 0, .int .i64 0]) (some ⟨b3, 0, none⟩) A.s.cap.toNat :: cel b2 #[.slice none 0 0, .slice none 0 0] 36 :: Own 70 1 (u32s (SM.order A.s)) a1 c1 :: Slt xp A.s :: cel a #[.pointer (some ⟨xp, 0, none⟩), .slice xna (List.length (nds A.nodes)) xnc, .slice xca (List.length (i64s A.cnt)) xcc, .int .u64 xrd] 104 :: Own 113 8 (nds A.nodes) xna xnc :: Own 3 1 (i64s A.cnt) xca xcc :: cel b1 #[.slice none 0 0, .slice none 0 0] 36 :: L) w := hS
          refine WL.nil ?_
          refine ⟨by exact ⟨RQ.pure rfl rfl rfl rfl, RQ.pure rfl rfl rfl rfl, RQ.pure rfl rfl rfl rfl, RQ.load rfl rfl rfl rfl (hS.ld 4 rfl rfl)⟩, ?_⟩
          refine WQ.build rfl rfl (cs := [.slice (some ⟨b3, 0, none⟩) A.s.cap.toNat A.s.cap.toNat, .slice a1 (List.length (u32s (SM.order A.s))) c1]) zv_36 rfl rfl ?_
          refine WQ.nil ?_
          intro m5
          replace hS := hS.drewN m5; generalize hwm5 : World.drewN _ _ = w at *; clear hwm5
          refine WL.stF rfl rfl rfl 1 hS rfl rfl rfl rfl rfl ag_36 (fun w hS => ?_)
          replace hS : St g (Own 115 11 (List.replicate A.s.cap.toNat [.bool false, .int .i64 0, .int .u32 0, .int .i64 0, .int .i64 0, .int .u32 0, .int .u32 0, .int .i64 0, .int .i64 0, .int .i64 0, .int .i64 0]) (some ⟨b3, 0, none⟩) A.s.cap.toNat :: cel b2 #[.slice (some ⟨b3, 0, none⟩) A.s.cap.toNat A.s.cap.toNat, .slice a1 (List.length (u32s (SM.order A.s))) c1] 36 :: Own 70 1 (u32s (SM.order A.s)) a1 c1 :: Slt xp A.s :: cel a #[.pointer (some ⟨xp, 0, none⟩), .slice xna (List.length (nds A.nodes)) xnc, .slice xca (List.length (i64s A.cnt)) xcc, .int .u64 xrd] 104 :: Own 113 8 (nds A.nodes) xna xnc :: Own 3 1 (i64s A.cnt) xca xcc :: cel b1 #[.slice none 0 0, .slice none 0 0] 36 :: L) w := hS
          refine WL.nil ?_
          refine ⟨by exact trivial, ?_⟩
          intro m6
          replace hS := hS.drewN m6; generalize hwm6 : World.drewN _ _ = w at *; clear hwm6
          exact ⟨b2, (some ⟨b3, 0, none⟩), a1, c1, rfl, (hS.sel 8 [1, 0, 0, 4, 1, 0, 0, 0] rfl)⟩
      · refine WL.new rfl rfl zv_36 hS (fun b2 w hS => ?_)
        refine WL.nil ?_
        refine ⟨by exact ⟨RQ.pure rfl rfl rfl rfl, RQ.pure rfl rfl rfl rfl, RQ.pure rfl rfl rfl rfl, RQ.pure rfl rfl rfl rfl, RQ.load rfl rfl rfl rfl (hS.ld 1 rfl rfl)⟩, ?_⟩
        refine WQ.nil ?_
        intro m3
        replace hS := hS.drewN m3; generalize hwm3 : World.drewN _ _ = w at *; clear hwm3
        refine ⟨?_, ?_⟩
        · refine WL.make rfl rfl (v := A.s.cap) (v' := A.s.cap) (A.s.cap.toNat) (A.s.cap.toNat) el_34 hS rfl (by omega) rfl (by omega) (by omega) (Rm.of (by omega) (by decide)) (fun b3 w hS => ?_)
          replace hS : St g (Own 115 11 (List.replicate A.s.cap.toNat [.bool false, .int .i64 0, .int .u32 0, .int .i64 0, .int .i64 0, .int .u32 0, .int .u32 0, .int .i64 0, .int .i64 0, .int .i64 0, .int .i64 0]) (some ⟨b3, 0, none⟩) A.s.cap.toNat :: cel b2 #[.slice none 0 0, .slice none 0 0] 36 :: cel a #[.pointer (some ⟨xp, 0, none⟩), .slice xna (List.length (nds A.nodes)) xnc, .slice xca (List.length (i64s A.cnt)) xcc, .int .u64 xrd] 104 :: Slt xp A.s :: Own 113 8 (nds A.nodes) xna xnc :: Own 3 1 (i64s A.cnt) xca xcc :: cel b1 #[.slice none 0 0, .slice none 0 0] 36 :: L) w := hS
          refine WL.nil ?_
          refine ⟨by exact ⟨RQ.pure rfl rfl rfl rfl, RQ.pure rfl rfl rfl rfl, RQ.pure rfl rfl rfl rfl, RQ.load rfl rfl rfl rfl (hS.ld 2 rfl rfl)⟩, ?_⟩
          refine WQ.nil ?_
          intro m4
          replace hS := hS.drewN m4; generalize hwm4 : World.drewN _ _ = w at *; clear hwm4
          refine WL.call rfl rfl (sl_order (s := xp) (S := A.s) (hO := hs) (hS := (hS.sel 4 [3, 0, 0, 0] rfl))) rfl ?_
          clear hS; rintro _ w ⟨a1, c1, rfl, hS⟩
          replace hS : St g (Own 70 1 (u32s (SM.order A.s)) a1 c1 :: Slt xp A.s :: Own 115 11 (List.replicate A.s.cap.toNat [.bool false, .int .i64 0, .int .u32 0, .int .i64 0, .int .i64 0, .int .u32 0, .int .u32 0, .int .i64 0, .int .i64 0, .int .i64 0, .int .i64 0]) (some ⟨b3, 0, none⟩) A.s.cap.toNat :: cel b2 #[.slice none 0 0, .slice none 0 0] 36 :: cel a #[.pointer (some ⟨xp, 0, none⟩), .slice xna (List.length (nds A.nodes)) xnc, .slice xca (List.length (i64s A.cnt)) xcc, .int .u64 xrd] 104 :: Own 113 8 (nds A.nodes) xna xnc :: Own 3 1 (i64s A.cnt) xca xcc :: cel b1 #[.slice none 0 0, .slice none 0 0] 36 :: L) w := hS
          refine WL.nil ?_
          refine ⟨by exact trivial, ?_⟩
          refine WQ.build rfl rfl (cs := [.slice (some ⟨b3, 0, none⟩) A.s.cap.toNat A.s.cap.toNat, .slice a1 (List.length (u32s (SM.order A.s))) c1]) zv_36 rfl rfl ?_
          refine WQ.nil ?_
          intro m5
          replace hS := hS.drewN m5; generalize hwm5 : World.drewN _ _ = w at *; clear hwm5
          refine WL.stF rfl rfl rfl 3 hS rfl rfl rfl rfl rfl ag_36 (fun w hS => ?_)
          replace hS : St g (Own 70 1 (u32s (SM.order A.s)) a1 c1 :: Slt xp A.s :: Own 115 11 (List.replicate A.s.cap.toNat [.bool false, .int .i64 0, .int .u32 0, .int .i64 0, .int .i64 0, .int .u32 0, .int .u32 0, .int .i64 0, .int .i64 0, .int .i64 0, .int .i64 0]) (some ⟨b3, 0, none⟩) A.s.cap.toNat :: cel b2 #[.slice (some ⟨b3, 0, none⟩) A.s.cap.toNat A.s.cap.toNat, .slice a1 (List.length (u32s (SM.order A.s))) c1] 36 :: cel a #[.pointer (some ⟨xp, 0, none⟩), .slice xna (List.length (nds A.nodes)) xnc, .slice xca (List.length (i64s A.cnt)) xcc, .int .u64 xrd] 104 :: Own 113 8 (nds A.nodes) xna xnc :: Own 3 1 (i64s A.cnt) xca xcc :: cel b1 #[.slice none 0 0, .slice none 0 0] 36 :: L) w := hS
          refine WL.nil ?_
          refine ⟨by exact trivial, ?_⟩
          intro m6
          replace hS := hS.drewN m6; generalize hwm6 : World.drewN _ _ = w at *; clear hwm6
          exact ⟨b2, (some ⟨b3, 0, none⟩), a1, c1, rfl, (hS.sel 8 [3, 2, 0, 4, 1, 0, 0, 0] rfl)⟩
        · refine WL.call rfl rfl (sl_order (s := xp) (S := A.s) (hO := hs) (hS := (hS.sel 3 [2, 0, 0] rfl))) rfl ?_
          clear hS; rintro _ w ⟨a1, c1, rfl, hS⟩
          replace hS : St g (Own 70 1 (u32s (SM.order A.s)) a1 c1 :: Slt xp A.s :: cel b2 #[.slice none 0 0, .slice none 0 0] 36 :: cel a #[.pointer (some ⟨xp, 0, none⟩), .slice xna (List.length (nds A.nodes)) xnc, .slice xca (List.length (i64s A.cnt)) xcc, .int .u64 xrd] 104 :: Own 113 8 (nds A.nodes) xna xnc :: Own 3 1 (i64s A.cnt) xca xcc :: cel b1 #[.slice none 0 0, .slice none 0 0] 36 :: L) w := hS
          refine WL.nil ?_
          refine ⟨by exact trivial, ?_⟩
          refine WQ.nil ?_
          intro m4
          replace hS := hS.drewN m4; generalize hwm4 : World.drewN _ _ = w at *; clear hwm4
          refine WL.make rfl rfl (v := A.s.cap) (v' := A.s.cap) (A.s.cap.toNat) (A.s.cap.toNat) el_34 hS rfl (by omega) rfl (by omega) (by omega) (Rm.of (by omega) (by decide)) (fun b3 w hS => ?_)
          replace hS : St g (Own 115 11 (List.replicate A.s.cap.toNat [.bool false, .int .i64 0, .int .u32 0, .int .i64 0, .int .i64 0, .int .u32 0, .int .u32 0, .int .i64 0, .int .i64 0, .int .i64 0, .int .i64 0]) (some ⟨b3, 0, none⟩) A.s.cap.toNat :: Own 70 1 (u32s (SM.order A.s)) a1 c1 :: Slt xp A.s :: cel b2 #[.slice none 0 0, .slice none 0 0] 36 :: cel a #[.pointer (some ⟨xp, 0, none⟩), .slice xna (List.length (nds A.nodes)) xnc, .slice xca (List.length (i64s A.cnt)) xcc, .int .u64 xrd] 104 :: Own 113 8 (nds A.nodes) xna xnc :: Own 3 1 (i64s A.cnt) xca xcc :: cel b1 #[.slice none 0 0, .slice none 0 0] 36 :: L) w := hS
          refine WL.nil ?_
          refine ⟨by exact ⟨RQ.pure rfl rfl rfl rfl, RQ.pure rfl rfl rfl rfl, RQ.pure rfl rfl rfl rfl, RQ.load rfl rfl rfl rfl (hS.ld 4 rfl rfl)⟩, ?_⟩
          refine WQ.build rfl rfl (cs := [.slice (some ⟨b3, 0, none⟩) A.s.cap.toNat A.s.cap.toNat, .slice a1 (List.length (u32s (SM.order A.s))) c1]) zv_36 rfl rfl ?_
          refine WQ.nil ?_
          intro m5
          replace hS := hS.drewN m5; generalize hwm5 : World.drewN _ _ = w at *; clear hwm5
          refine WL.stF rfl rfl rfl 3 hS rfl rfl rfl rfl rfl ag_36 (fun w hS => ?_)
          replace hS : St g (Own 115 11 (List.replicate A.s.cap.toNat [.bool false, .int .i64 0, .int .u32 0, .int .i64 0, .int .i64 0, .int .u32 0, .int .u32 0, .int .i64 0, .int .i64 0, .int .i64 0, .int .i64 0]) (some ⟨b3, 0, none⟩) A.s.cap.toNat :: Own 70 1 (u32s (SM.order A.s)) a1 c1 :: Slt xp A.s :: cel b2 #[.slice (some ⟨b3, 0, none⟩) A.s.cap.toNat A.s.cap.toNat, .slice a1 (List.length (u32s (SM.order A.s))) c1] 36 :: cel a #[.pointer (some ⟨xp, 0, none⟩), .slice xna (List.length (nds A.nodes)) xnc, .slice xca (List.length (i64s A.cnt)) xcc, .int .u64 xrd] 104 :: Own 113 8 (nds A.nodes) xna xnc :: Own 3 1 (i64s A.cnt) xca xcc :: cel b1 #[.slice none 0 0, .slice none 0 0] 36 :: L) w := hS
          refine WL.nil ?_
          refine ⟨by exact trivial, ?_⟩
          intro m6
          replace hS := hS.drewN m6; generalize hwm6 : World.drewN _ _ = w at *; clear hwm6
          exact ⟨b2, (some ⟨b3, 0, none⟩), a1, c1, rfl, (hS.sel 8 [3, 0, 0, 4, 1, 0, 0, 0] rfl)⟩
    · refine WL.new rfl rfl zv_36 hS (fun b2 w hS => ?_)
      refine WL.nil ?_
      refine ⟨by exact ⟨RQ.pure rfl rfl rfl rfl, RQ.pure rfl rfl rfl rfl, RQ.pure rfl rfl rfl rfl, RQ.pure rfl rfl rfl rfl, RQ.load rfl rfl rfl rfl (hS.ld 2 rfl rfl)⟩, ?_⟩
      refine WQ.nil ?_
      intro m2
      replace hS := hS.drewN m2; generalize hwm2 : World.drewN _ _ = w at *; clear hwm2
      refine WL.call rfl rfl (ar_cap_o (a := a) (p := xp) (A := A) (na := xna) (nc := xnc) (ca := xca) (cc := xcc) (rd := xrd) (hA := hA) (hS := (hS.sel 6 [2, 2, 2, 2, 0, 0] rfl))) rfl ?_
      clear hS; rintro _ w ⟨rfl, hS⟩
      replace hS : St g (cel a #[.pointer (some ⟨xp, 0, none⟩), .slice xna (List.length (nds A.nodes)) xnc, .slice xca (List.length (i64s A.cnt)) xcc, .int .u64 xrd] 104 :: Slt xp A.s :: Own 113 8 (nds A.nodes) xna xnc :: Own 3 1 (i64s A.cnt) xca xcc :: cel b2 #[.slice none 0 0, .slice none 0 0] 36 :: cel b1 #[.slice none 0 0, .slice none 0 0] 36 :: L) w := hS
      refine WL.nil ?_
      refine ⟨by exact ⟨RQ.pure rfl rfl rfl rfl, RQ.pure rfl rfl rfl rfl, RQ.pure rfl rfl rfl rfl, RQ.load rfl rfl rfl rfl (hS.ld 0 rfl rfl)⟩, ?_⟩
      refine WQ.nil ?_
      intro m3
      replace hS := hS.drewN m3; generalize hwm3 : World.drewN _ _ = w at *; clear hwm3
      refine ⟨?_, ?_⟩
      · refine WL.make rfl rfl (v := A.s.cap) (v' := A.s.cap) (A.s.cap.toNat) (A.s.cap.toNat) el_34 hS rfl (by omega) rfl (by omega) (by omega) (Rm.of (by omega) (by decide)) (fun b3 w hS => ?_)
        replace hS : St g (Own 115 11 (List.replicate A.s.cap.toNat [.bool false, .int .i64 0, .int .u32 0, .int .i64 0, .int .i64 0, .int .u32 0, .int .u32 0, .int .i64 0, .int .i64 0, .int .i64 0, .int .i64 0]) (some ⟨b3, 0, none⟩) A.s.cap.toNat :: cel a #[.pointer (some ⟨xp, 0, none⟩), .slice xna (List.length (nds A.nodes)) xnc, .slice xca (List.length (i64s A.cnt)) xcc, .int .u64 xrd] 104 :: Slt xp A.s :: Own 113 8 (nds A.nodes) xna xnc :: Own 3 1 (i64s A.cnt) xca xcc :: cel b2 #[.slice none 0 0, .slice none 0 0] 36 :: cel b1 #[.slice none 0 0, .slice none 0 0] 36 :: L) w := hS
        refine WL.nil ?_
        refine ⟨by exact ⟨RQ.pure rfl rfl rfl rfl, RQ.pure rfl rfl rfl rfl, RQ.pure rfl rfl rfl rfl, RQ.load rfl rfl rfl rfl (hS.ld 1 rfl rfl)⟩, ?_⟩
        refine WQ.nil ?_
        intro m4
        replace hS := hS.drewN m4; generalize hwm4 : World.drewN _ _ = w at *; clear hwm4
        refine WL.call rfl rfl (sl_order (s := xp) (S := A.s) (hO := hs) (hS := (hS.sel 3 [2, 0, 0] rfl))) rfl ?_
        clear hS; rintro _ w ⟨a1, c1, rfl, hS⟩
        replace hS : St g (Own 70 1 (u32s (SM.order A.s)) a1 c1 :: Slt xp A.s :: Own 115 11 (List.replicate A.s.cap.toNat [.bool false, .int .i64 0, .int .u32 0, .int .i64 0, .int .i64 0, .int .u32 0, .int .u32 0, .int .i64 0, .int .i64 0, .int .i64 0, .int .i64 0]) (some ⟨b3, 0, none⟩) A.s.cap.toNat :: cel a #[.pointer (some ⟨xp, 0, none⟩), .slice xna (List.length (nds A.nodes)) xnc, .slice xca (List.length (i64s A.cnt)) xcc, .int .u64 xrd] 104 :: Own 113 8 (nds A.nodes) xna xnc :: Own 3 1 (i64s A.cnt) xca xcc :: cel b2 #[.slice none 0 0, .slice none 0 0] 36 :: cel b1 #[.slice none 0 0, .slice none 0 0] 36 :: L) w := hS
        refine WL.nil ?_
        refine ⟨by exact trivial, ?_⟩
        refine WQ.build rfl rfl (cs := [.slice (some ⟨b3, 0, none⟩) A.s.cap.toNat A.s.cap.toNat, .slice a1 (List.length (u32s (SM.order A.s))) c1]) zv_36 rfl rfl ?_
        refine WQ.nil ?_
        intro m5
        replace hS := hS.drewN m5; generalize hwm5 : World.drewN _ _ = w at *; clear hwm5
        refine WL.stF rfl rfl rfl 6 hS rfl rfl rfl rfl rfl ag_36 (fun w hS => ?_)
        replace hS : St g (Own 70 1 (u32s (SM.order A.s)) a1 c1 :: Slt xp A.s :: Own 115 11 (List.replicate A.s.cap.toNat [.bool false, .int .i64 0, .int .u32 0, .int .i64 0, .int .i64 0, .int .u32 0, .int .u32 0, .int .i64 0, .int .i64 0, .int .i64 0, .int .i64 0]) (some ⟨b3, 0, none⟩) A.s.cap.toNat :: cel a #[.pointer (some ⟨xp, 0, none⟩), .slice xna (List.length (nds A.nodes)) xnc, .slice xca (List.length (i64s A.cnt)) xcc, .int .u64 xrd] 104 :: Own 113 8 (nds A.nodes) xna xnc :: Own 3 1 (i64s A.cnt) xca xcc :: cel b2 #[.slice (some ⟨b3, 0, none⟩) A.s.cap.toNat A.s.cap.toNat, .slice a1 (List.length (u32s (SM.order A.s))) c1] 36 :: cel b1 #[.slice none 0 0, .slice none 0 0] 36 :: L) w := hS
        refine WL.nil ?_
        refine ⟨by exact trivial, ?_⟩
        intro m6
        replace hS := hS.drewN m6; generalize hwm6 : World.drewN _ _ = w at *; clear hwm6
        exact ⟨b2, (some ⟨b3, 0, none⟩), a1, c1, rfl, (hS.sel 8 [6, 2, 0, 4, 1, 0, 0, 0] rfl)⟩
      · refine WL.call rfl rfl (sl_order (s := xp) (S := A.s) (hO := hs) (hS := (hS.sel 2 [1, 0] rfl))) rfl ?_
        clear hS; rintro _ w ⟨a1, c1, rfl, hS⟩
        replace hS : St g (Own 70 1 (u32s (SM.order A.s)) a1 c1 :: Slt xp A.s :: cel a #[.pointer (some ⟨xp, 0, none⟩), .slice xna (List.length (nds A.nodes)) xnc, .slice xca (List.length (i64s A.cnt)) xcc, .int .u64 xrd] 104 :: Own 113 8 (nds A.nodes) xna xnc :: Own 3 1 (i64s A.cnt) xca xcc :: cel b2 #[.slice none 0 0, .slice none 0 0] 36 :: cel b1 #[.slice none 0 0, .slice none 0 0] 36 :: L) w := hS
        refine WL.nil ?_
        refine ⟨by exact trivial, ?_⟩
        refine WQ.nil ?_
        intro m4
        replace hS := hS.drewN m4; generalize hwm4 : World.drewN _ _ = w at *; clear hwm4
        refine WL.make rfl rfl (v := A.s.cap) (v' := A.s.cap) (A.s.cap.toNat) (A.s.cap.toNat) el_34 hS rfl (by omega) rfl (by omega) (by omega) (Rm.of (by omega) (by decide)) (fun b3 w hS => ?_)
        replace hS : St g (Own 115 11 (List.replicate A.s.cap.toNat [.bool false, .int .i64 0, .int .u32 0, .int .i64 0, .int .i64 0, .int .u32 0, .int .u32 0, .int .i64 0, .int .i64 0, .int .i64 0, .int .i64 0]) (some ⟨b3, 0, none⟩) A.s.cap.toNat :: Own 70 1 (u32s (SM.order A.s)) a1 c1 :: Slt xp A.s :: cel a #[.pointer (some ⟨xp, 0, none⟩), .slice xna (List.length (nds A.nodes)) xnc, .slice xca (List.length (i64s A.cnt)) xcc, .int .u64 xrd] 104 :: Own 113 8 (nds A.nodes) xna xnc :: Own 3 1 (i64s A.cnt) xca xcc :: cel b2 #[.slice none 0 0, .slice none 0 0] 36 :: cel b1 #[.slice none 0 0, .slice none 0 0] 36 :: L) w := hS
        refine WL.nil ?_
        refine ⟨by exact ⟨RQ.pure rfl rfl rfl rfl, RQ.pure rfl rfl rfl rfl, RQ.pure rfl rfl rfl rfl, RQ.load rfl rfl rfl rfl (hS.ld 3 rfl rfl)⟩, ?_⟩
        refine WQ.build rfl rfl (cs := [.slice (some ⟨b3, 0, none⟩) A.s.cap.toNat A.s.cap.toNat, .slice a1 (List.length (u32s (SM.order A.s))) c1]) zv_36 rfl rfl ?_
        refine WQ.nil ?_
        intro m5
        replace hS := hS.drewN m5; generalize hwm5 : World.drewN _ _ = w at *; clear hwm5
        refine WL.stF rfl rfl rfl 6 hS rfl rfl rfl rfl rfl ag_36 (fun w hS => ?_)
        replace hS : St g (Own 115 11 (List.replicate A.s.cap.toNat [.bool false, .int .i64 0, .int .u32 0, .int .i64 0, .int .i64 0, .int .u32 0, .int .u32 0, .int .i64 0, .int .i64 0, .int .i64 0, .int .i64 0]) (some ⟨b3, 0, none⟩) A.s.cap.toNat :: Own 70 1 (u32s (SM.order A.s)) a1 c1 :: Slt xp A.s :: cel a #[.pointer (some ⟨xp, 0, none⟩), .slice xna (List.length (nds A.nodes)) xnc, .slice xca (List.length (i64s A.cnt)) xcc, .int .u64 xrd] 104 :: Own 113 8 (nds A.nodes) xna xnc :: Own 3 1 (i64s A.cnt) xca xcc :: cel b2 #[.slice (some ⟨b3, 0, none⟩) A.s.cap.toNat A.s.cap.toNat, .slice a1 (List.length (u32s (SM.order A.s))) c1] 36 :: cel b1 #[.slice none 0 0, .slice none 0 0] 36 :: L) w := hS
        refine WL.nil ?_
        refine ⟨by exact trivial, ?_⟩
        intro m6
        replace hS := hS.drewN m6; generalize hwm6 : World.drewN _ _ = w at *; clear hwm6
        exact ⟨b2, (some ⟨b3, 0, none⟩), a1, c1, rfl, (hS.sel 8 [6, 0, 0, 4, 1, 0, 0, 0] rfl)⟩
  clear hS; rintro _ w j ⟨b, ua, ub, ud, rfl, hS⟩
  refine WC.seq ?_
  refine WC.seq ?_
  refine WC.region ?_
  rw [dmp_zero] at hS
  refine WL.run 4 [.slice ua A.s.cap.toNat A.s.cap.toNat] rfl (by exact hS.ld 0 rfl rfl) ?_
  refine WL.nil ?_
  refine WC.block ?_
  refine WC.loop [0, 2, 3, 17, 18] (fun kM vs w => ∃ (k : Nat), vs = [.pointer (some ⟨a, 0, none⟩), .pointer (some ⟨b1, 0, none⟩), .pointer (some ⟨b, 0, none⟩), .int .i64 (A.s.cap.toNat : Int), .int .i64 (k : Int)] ∧ St g (cel b #[.slice ua A.s.cap.toNat A.s.cap.toNat, .slice ub (List.length (u32s (SM.order A.s))) ud] 36 :: Own 115 11 (sls (AM.dmpK A k)) ua A.s.cap.toNat :: Own 70 1 (u32s (SM.order A.s)) ub ud :: cel b1 #[.slice none 0 0, .slice none 0 0] 36 :: cel a #[.pointer (some ⟨xp, 0, none⟩), .slice xna (List.length (nds A.nodes)) xnc, .slice xca (List.length (i64s A.cnt)) xcc, .int .u64 xrd] 104 :: Slt xp A.s :: Own 113 8 (nds A.nodes) xna xnc :: Own 3 1 (i64s A.cnt) xca xcc :: L) w ∧ (k ≤ A.s.cap.toNat) ∧ (A.s.cap.toNat - k) = kM) (A.s.cap.toNat - 0) ⟨0, rfl, hS, (Nat.zero_le _), rfl⟩ ?_
  clear hS; rintro _ _ w j ⟨k, rfl, hS, hk, rfl⟩
  refine WC.seq ?_
  refine WC.region ?_
  refine WL.r 1 rfl ?_
  refine WL.nil ?_
  refine WC.seq ?_
  refine WC.ifP rfl (fun cd1 => ?_) (fun cd1 => ?_)
  · refine WC.skip ?_
    as_aux_lemma =>
      refine WC.seq ?_
      refine WC.block ?_
      refine WC.seq ?_
      refine WC.region ?_
      refine WL.r 2 rfl ?_
      refine WL.nil ?_
      refine WC.seq ?_
      refine WC.region ?_
      obtain ⟨nd, hnd, hne⟩ := dmp_nd hA (k := k) (by omega); have hnl := nds_len A.nodes; have hnn := hA.nl; have hkl := AM.dmpK_len A k; have hsl := sls_len (AM.dmpK A k); obtain ⟨z, hz⟩ : ∃ z, (AM.dmpK A k)[k]? = some z := ⟨_, List.getElem?_eq_getElem (by omega)⟩
      refine WL.r 2 rfl ?_
      refine WL.nw 22 rfl (w64 (by omega)) ?_
      refine WL.r 1 rfl ?_
      refine WL.nw 23 rfl (wu32 (by omega)) ?_
      refine WL.r 1 rfl ?_
      refine WL.nil ?_
      refine WC.plan [([0, 2, 3, 7, 9, 10, 12, 13, 15, 19, 1, 4, 16, 5, 17, 6, 18, 20, 21], some (8, [0, 1, 2, 9, 10, 12, 13, 15, 16, 17, 18, 19, 20, 21])), ([], some (11, [0, 1, 2, 12, 13, 15, 16, 17, 18, 19, 20, 21])), ([], some (14, [0, 1, 2, 15, 16, 17, 18, 19, 20, 21])), ([22, 23], some (24, []))] (by kernel_rfl) (by kernel_rfl) ?_
      refine WQ.run 17 [.slice ua A.s.cap.toNat A.s.cap.toNat, .pointer (some ⟨xp, 0, none⟩), .slice xna (List.length (nds A.nodes)) xnc] rfl (by exact ⟨hS.ld 0 rfl rfl, hS.ld 4 rfl rfl, hS.ld 4 rfl rfl⟩) ?_
      refine WQ.ix rfl rfl (i := (k : Int) + 1) (k + 1) el_101 rfl rfl (by omega) (by omega) (hS.rdO 6 rfl (nds_at hnd)).1 ?_
      refine WQ.ldC rfl rfl [.int .i64 nd.key, .int .i64 nd.val, .int .u32 nd.lf, .int .u32 nd.rg, .int .i64 nd.size, .int .i64 nd.sum, .int .i64 nd.mn, .int .i64 nd.mx] ag_113 rfl (hS.rdO 6 rfl (nds_at hnd)).2 ?_
      refine WQ.nil ?_
      intro m1
      replace hS := hS.drewN m1; generalize hwm1 : World.drewN _ _ = w at *; clear hwm1
      refine WL.call rfl rfl (sl_ok (s := xp) (S := A.s) (i := (k : Int) + 1) (hl := hle) (hi := (by omega)) (hS := (hS.sel 6 [5, 0, 0, 0, 0, 0] rfl))) rfl ?_
      clear hS; rintro _ w ⟨rfl, hS⟩
      replace hS : St g (Slt xp A.s :: cel b #[.slice ua A.s.cap.toNat A.s.cap.toNat, .slice ub (List.length (u32s (SM.order A.s))) ud] 36 :: Own 115 11 (sls (AM.dmpK A k)) ua A.s.cap.toNat :: Own 70 1 (u32s (SM.order A.s)) ub ud :: cel b1 #[.slice none 0 0, .slice none 0 0] 36 :: cel a #[.pointer (some ⟨xp, 0, none⟩), .slice xna (List.length (nds A.nodes)) xnc, .slice xca (List.length (i64s A.cnt)) xcc, .int .u64 xrd] 104 :: Own 113 8 (nds A.nodes) xna xnc :: Own 3 1 (i64s A.cnt) xca xcc :: L) w := hS
      refine WL.nil ?_
      refine ⟨by exact ⟨RQ.pure rfl rfl rfl rfl, RQ.load rfl rfl rfl rfl (hS.ld 1 rfl rfl), RQ.pure rfl rfl rfl rfl, RQ.pure rfl rfl rfl rfl, RQ.pure rfl rfl rfl rfl, RQ.pure rfl rfl rfl rfl, RQ.pure rfl rfl rfl rfl, RQ.pure rfl rfl rfl rfl, RQ.pure rfl rfl rfl rfl, RQ.pure rfl rfl rfl rfl, RQ.load rfl rfl rfl rfl (hS.ld 5 rfl rfl), RQ.pure rfl rfl rfl rfl, RQ.ix rfl rfl (i := (k : Int) + 1) (k + 1) el_101 rfl rfl (by omega) (by omega) (hS.rdO 6 rfl (nds_at hnd)).1 rfl rfl, RQ.ldC rfl rfl [.int .i64 nd.key, .int .i64 nd.val, .int .u32 nd.lf, .int .u32 nd.rg, .int .i64 nd.size, .int .i64 nd.sum, .int .i64 nd.mn, .int .i64 nd.mx] ag_113 rfl (hS.rdO 6 rfl (nds_at hnd)).2 rfl rfl⟩, ?_⟩
      refine WQ.nil ?_
      intro m2
      replace hS := hS.drewN m2; generalize hwm2 : World.drewN _ _ = w at *; clear hwm2
      refine WL.call rfl rfl (ar_count_o (a := a) (p := xp) (A := A) (na := xna) (nc := xnc) (ca := xca) (cc := xcc) (rd := xrd) (i := (k : Int) + 1) (hA := hA) (hi := (by omega)) (hS := (hS.sel 8 [5, 0, 4, 4, 0, 0, 0, 0] rfl))) rfl ?_
      clear hS; rintro _ w ⟨rfl, hS⟩
      replace hS : St g (cel a #[.pointer (some ⟨xp, 0, none⟩), .slice xna (List.length (nds A.nodes)) xnc, .slice xca (List.length (i64s A.cnt)) xcc, .int .u64 xrd] 104 :: Slt xp A.s :: Own 113 8 (nds A.nodes) xna xnc :: Own 3 1 (i64s A.cnt) xca xcc :: cel b #[.slice ua A.s.cap.toNat A.s.cap.toNat, .slice ub (List.length (u32s (SM.order A.s))) ud] 36 :: Own 115 11 (sls (AM.dmpK A k)) ua A.s.cap.toNat :: Own 70 1 (u32s (SM.order A.s)) ub ud :: cel b1 #[.slice none 0 0, .slice none 0 0] 36 :: L) w := hS
      refine WL.nil ?_
      refine ⟨by exact ⟨RQ.pure rfl rfl rfl rfl, RQ.load rfl rfl rfl rfl (hS.ld 4 rfl rfl), RQ.pure rfl rfl rfl rfl, RQ.pure rfl rfl rfl rfl, RQ.pure rfl rfl rfl rfl, RQ.pure rfl rfl rfl rfl, RQ.pure rfl rfl rfl rfl, RQ.pure rfl rfl rfl rfl, RQ.load rfl rfl rfl rfl (hS.ld 0 rfl rfl), RQ.pure rfl rfl rfl rfl, RQ.ix rfl rfl (i := (k : Int) + 1) (k + 1) el_101 rfl rfl (by omega) (by omega) (hS.rdO 2 rfl (nds_at hnd)).1 rfl rfl, RQ.ldC rfl rfl [.int .i64 nd.key, .int .i64 nd.val, .int .u32 nd.lf, .int .u32 nd.rg, .int .i64 nd.size, .int .i64 nd.sum, .int .i64 nd.mn, .int .i64 nd.mx] ag_113 rfl (hS.rdO 2 rfl (nds_at hnd)).2 rfl rfl⟩, ?_⟩
      refine WQ.nil ?_
      intro m3
      replace hS := hS.drewN m3; generalize hwm3 : World.drewN _ _ = w at *; clear hwm3
      refine WL.call rfl rfl (ar_gen_o (a := a) (p := xp) (A := A) (na := xna) (nc := xnc) (ca := xca) (cc := xcc) (rd := xrd) (i := (k : Int) + 1) (hA := hA) (hi := (by omega)) (hS := hS)) rfl ?_
      clear hS; rintro _ w ⟨rfl, hS⟩
      replace hS : St g (cel a #[.pointer (some ⟨xp, 0, none⟩), .slice xna (List.length (nds A.nodes)) xnc, .slice xca (List.length (i64s A.cnt)) xcc, .int .u64 xrd] 104 :: Slt xp A.s :: Own 113 8 (nds A.nodes) xna xnc :: Own 3 1 (i64s A.cnt) xca xcc :: cel b #[.slice ua A.s.cap.toNat A.s.cap.toNat, .slice ub (List.length (u32s (SM.order A.s))) ud] 36 :: Own 115 11 (sls (AM.dmpK A k)) ua A.s.cap.toNat :: Own 70 1 (u32s (SM.order A.s)) ub ud :: cel b1 #[.slice none 0 0, .slice none 0 0] 36 :: L) w := hS
      refine WL.nil ?_
      refine ⟨by exact ⟨RQ.pure rfl rfl rfl rfl, RQ.load rfl rfl rfl rfl (hS.ld 4 rfl rfl), RQ.pure rfl rfl rfl rfl, RQ.pure rfl rfl rfl rfl, RQ.pure rfl rfl rfl rfl, RQ.pure rfl rfl rfl rfl, RQ.load rfl rfl rfl rfl (hS.ld 0 rfl rfl), RQ.pure rfl rfl rfl rfl, RQ.ix rfl rfl (i := (k : Int) + 1) (k + 1) el_101 rfl rfl (by omega) (by omega) (hS.rdO 2 rfl (nds_at hnd)).1 rfl rfl, RQ.ldC rfl rfl [.int .i64 nd.key, .int .i64 nd.val, .int .u32 nd.lf, .int .u32 nd.rg, .int .i64 nd.size, .int .i64 nd.sum, .int .i64 nd.mn, .int .i64 nd.mx] ag_113 rfl (hS.rdO 2 rfl (nds_at hnd)).2 rfl rfl⟩, ?_⟩
      refine WQ.build rfl rfl (cs := [.bool (A.s.ok ((k : Int) + 1)), .int .i64 (AM.cntD A ((k : Int) + 1)), .int .u32 (A.s.genOf ((k : Int) + 1)), .int .i64 nd.key, .int .i64 nd.val, .int .u32 nd.lf, .int .u32 nd.rg, .int .i64 nd.size, .int .i64 nd.sum, .int .i64 nd.mn, .int .i64 nd.mx]) zv_115 rfl rfl ?_
      refine WQ.ix rfl rfl (i := (k : Int)) (k) el_34 rfl rfl (by omega) (by omega) (hS.rdO 5 rfl (sls_at hz)).1 ?_
      refine WQ.nil ?_
      intro m4
      replace hS := hS.drewN m4; generalize hwm4 : World.drewN _ _ = w at *; clear hwm4
      refine WL.stS rfl rfl rfl 5 (k) [.bool z.al, .int .i64 z.cn, .int .u32 z.ge, .int .i64 z.nd.key, .int .i64 z.nd.val, .int .u32 z.nd.lf, .int .u32 z.nd.rg, .int .i64 z.nd.size, .int .i64 z.nd.sum, .int .i64 z.nd.mn, .int .i64 z.nd.mx] (sls (AM.dmpK A (k + 1))) hS rfl (sls_at hz) rfl rfl rfl rfl ag_115 (dmp_st hne) (fun w hS => ?_)
      replace hS : St g (cel a #[.pointer (some ⟨xp, 0, none⟩), .slice xna (List.length (nds A.nodes)) xnc, .slice xca (List.length (i64s A.cnt)) xcc, .int .u64 xrd] 104 :: Slt xp A.s :: Own 113 8 (nds A.nodes) xna xnc :: Own 3 1 (i64s A.cnt) xca xcc :: cel b #[.slice ua A.s.cap.toNat A.s.cap.toNat, .slice ub (List.length (u32s (SM.order A.s))) ud] 36 :: Own 115 11 (sls (AM.dmpK A (k + 1))) ua A.s.cap.toNat :: Own 70 1 (u32s (SM.order A.s)) ub ud :: cel b1 #[.slice none 0 0, .slice none 0 0] 36 :: L) w := hS
      refine WL.nil ?_
      refine ⟨by exact trivial, ?_⟩
      intro m5
      replace hS := hS.drewN m5; generalize hwm5 : World.drewN _ _ = w at *; clear hwm5
      as_aux_lemma =>
        refine WC.region ?_
        refine WL.r 1 rfl ?_
        refine WL.nw 48 rfl (w64 (by omega)) ?_
        refine WL.r 1 rfl ?_
        refine WL.nil ?_
        exact ⟨_, by omega, k + 1, rfl, (hS.sel 8 [4, 4, 4, 4, 0, 0, 0, 0] rfl), (by omega), rfl⟩
  · refine WC.exit ?_
    as_aux_lemma =>
      refine WC.seq ?_
      refine WC.region ?_
      refine WL.ldF rfl rfl 0 hS rfl rfl ag_36 ?_
      refine WL.stF rfl rfl rfl 3 hS rfl rfl rfl rfl rfl ag_36 (fun w hS => ?_)
      replace hS : St g (cel b #[.slice ua A.s.cap.toNat A.s.cap.toNat, .slice ub (List.length (u32s (SM.order A.s))) ud] 36 :: Own 115 11 (sls (AM.dmpK A k)) ua A.s.cap.toNat :: Own 70 1 (u32s (SM.order A.s)) ub ud :: cel b1 #[.slice ua A.s.cap.toNat A.s.cap.toNat, .slice ub (List.length (u32s (SM.order A.s))) ud] 36 :: cel a #[.pointer (some ⟨xp, 0, none⟩), .slice xna (List.length (nds A.nodes)) xnc, .slice xca (List.length (i64s A.cnt)) xcc, .int .u64 xrd] 104 :: Slt xp A.s :: Own 113 8 (nds A.nodes) xna xnc :: Own 3 1 (i64s A.cnt) xca xcc :: L) w := hS
      refine WL.nil ?_
      refine WC.ret ?_
      replace hS := St.exClose (f := arnF a A) (L := cel b #[.slice ua A.s.cap.toNat A.s.cap.toNat, .slice ub (List.length (u32s (SM.order A.s))) ud] 36 :: Own 115 11 (sls (AM.dmpK A k)) ua A.s.cap.toNat :: Own 70 1 (u32s (SM.order A.s)) ub ud :: cel b1 #[.slice ua A.s.cap.toNat A.s.cap.toNat, .slice ub (List.length (u32s (SM.order A.s))) ud] 36 :: L) ⟨xp, xna, xnc, xca, xcc, xrd⟩ ((hS.sel 8 [4, 4, 4, 4, 0, 0, 0, 0] rfl))
      replace hS : St g (Arn a A :: cel b #[.slice ua A.s.cap.toNat A.s.cap.toNat, .slice ub (List.length (u32s (SM.order A.s))) ud] 36 :: Own 115 11 (sls (AM.dmpK A k)) ua A.s.cap.toNat :: Own 70 1 (u32s (SM.order A.s)) ub ud :: cel b1 #[.slice ua A.s.cap.toNat A.s.cap.toNat, .slice ub (List.length (u32s (SM.order A.s))) ud] 36 :: L) w := hS
      refine ⟨[.agg #[.slice ua A.s.cap.toNat A.s.cap.toNat, .slice ub (List.length (u32s (SM.order A.s))) ud]], ⟨⟨_, rfl, hS.lvF 4 rfl ag_36⟩, trivial⟩, ?_⟩
      replace hS := (hS.sel 5 [2, 2, 0] rfl)
      have hke : k = A.s.cap.toNat := (by omega); subst hke; rw [AM.dmpK_end] at hS; exact ⟨_, _, _, _, by rw [sls_len, AM.dmp_len]; rfl, hS⟩
end Go.Proofs.YtloebjlnmdjeiaaGreatDoor
/-! ## Mr -/
namespace Go.V
open Go Go.RowKit
section
variable {P : Program} {T : Tab} [hT : TabOk P T] {n : Nat} {os l : List Oper} {K : Kt} {F : Fm} {w g : World} {L : List HP} {t kt et : TypeId} {d : TypeDesc} {z : Value} {b b2 c c2 : Nat} {es : Array MapEntry}
theorem WL.rgM {o : Oper} {x : Operand} (hg : o.guard = none) (ho : o.op = .range t x) (hM : MapT P t kt d et z) (i : Nat) (hS : St g L w) (hi : L[i]? = some (blk b (.map es c))) (hx : ev F x = .map (some b))
    (hk : ∀ b' w', St g (blk b' (.mapIter (some b) c #[] c) :: L) w' → WL P n os l K (updo F o.dst (.pointer (some ⟨b', 0, none⟩))) w') : WL P n os (o :: l) K F w := by
  refine WL.val hg (fun hok => ?_) (hk w.heap.size (w.alloc (.mapIter (some b) c #[] c)) (hS.new _))
  have e1 := okX_at (F := F) hok (x := x) (by simp [ho, Op.operands])
  simp only [execOp, ho, e1, hx, Instr.range, newObj, Sem.run_bind, run_underlying hM.und, Result.andThen_ok, MapKept.run_getObj_map (hS.heap i hi), Sem.run_pure]
  rfl
theorem WL.nx0 {o : Oper} {x : Operand} (hg : o.guard = none) (ho : o.op = .next x false) (i j : Nat) (hS : St g L w) (hi : L[i]? = some (blk b2 (.mapIter (some b) c #[] c))) (hj : L[j]? = some (blk b (.map es c2))) (he : es = #[]) (hx : ev F x = .pointer (some ⟨b2, 0, none⟩))
    (hk : WL P n os l K (updo F o.dst (.tuple #[.bool false])) w) : WL P n os (o :: l) K F w := by
  subst he
  refine WL.val hg (fun hok => ?_) hk
  have e1 := okX_at (F := F) hok (x := x) (by simp [ho, Op.operands])
  have h1 := hS.heap i hi
  have h2 := hS.heap j hj
  have hr : (Instr.next (.pointer (some ⟨b2, 0, none⟩)) false o.type).run P w = .ok (.tuple #[.bool false]) w := by
    simp [Instr.next, getObj, Sem.run, h1, h2, choose, Question.forced, Result.andThen]
  simp only [execOp, ho, e1, hx, Sem.run_bind, hr, Result.andThen_ok, Sem.run_pure]
end
end Go.V
/-! ## Sc7 -/
namespace Go.Proofs.YtloebjlnmdjeiaaGreatDoor
open Go Go.V Go.RowKit Go.Maps
set_option maxRecDepth 8192 in
theorem st_free {g w : World} {L : List HP} (p s a : Nat) (V : VM) (A : AM) (hA : AWf A) (hS : St g (Sto p s a V :: Arn a A :: L) w) :
    Sp Tryz.prog 8 [.pointer (some ⟨p, 0, none⟩)] w (fun v w' => v = .int .i64 A.s.free ∧ St g (Sto p s a V :: Arn a A :: L) w') := by
  refine Sp.enter Tryz.func8 rfl (by kernel_rfl) (by kernel_rfl) ?_
  refine WC.seq ?_
  refine WC.region ?_
  refine WL.r 1 rfl ?_
  refine WL.nil ?_
  refine WC.seq ?_
  refine WC.region ?_
  refine WL.r 1 rfl ?_
  refine WL.call rfl rfl (st_arena (p := p) (s := s) (a := a) (V := V)  (hS := hS)) rfl ?_
  clear hS; rintro _ w ⟨rfl, hS⟩
  replace hS : St g (Sto p s a V :: Arn a A :: L) w := hS
  refine WL.call rfl rfl (ar_free (a := a) (A := A) (hA := hA) (hS := (hS.sel 2 [1, 0] rfl))) rfl ?_
  clear hS; rintro _ w ⟨rfl, hS⟩
  replace hS : St g (Arn a A :: Sto p s a V :: L) w := hS
  refine WL.r 1 rfl ?_
  refine WL.nil ?_
  refine WC.ret ?_
  refine ⟨[.int .i64 A.s.free], rfl, ?_⟩
  replace hS := (hS.sel 2 [1, 0] rfl)
  exact ⟨rfl, hS⟩
set_option maxRecDepth 8192 in
theorem st_dump {g w : World} {L : List HP} (p s a : Nat) (V : VM) (A : AM) (hA : AWf A) (hS : St g (Sto p s a V :: Arn a A :: L) w) :
    Sp Tryz.prog 10 [.pointer (some ⟨p, 0, none⟩)] w (fun v w' => ∃ (a2 : Option Addr) (c2 : Nat) (a4 : Option Addr) (c4 : Nat), v = .agg #[.slice a2 (List.length (sls (AM.dmp A))) c2, .slice a4 (List.length (u32s (SM.order A.s))) c4] ∧ St g (Own 115 11 (sls (AM.dmp A)) a2 c2 :: Own 70 1 (u32s (SM.order A.s)) a4 c4 :: Sto p s a V :: Arn a A :: L) w') := by
  refine Sp.enter Tryz.func10 rfl (by kernel_rfl) (by kernel_rfl) ?_
  refine WC.seq ?_
  refine WC.region ?_
  refine WL.new rfl rfl zv_36 hS (fun b1 w hS => ?_)
  refine WL.nil ?_
  refine WC.seq ?_
  refine WC.region ?_
  refine WL.r 1 rfl ?_
  refine WL.call rfl rfl (st_arena (p := p) (s := s) (a := a) (V := V)  (hS := (hS.sel 2 [1, 0] rfl))) rfl ?_
  clear hS; rintro _ w ⟨rfl, hS⟩
  replace hS : St g (Sto p s a V :: cel b1 #[.slice none 0 0, .slice none 0 0] 36 :: Arn a A :: L) w := hS
  refine WL.call rfl rfl (ar_dump (a := a) (A := A) (hA := hA) (hS := (hS.sel 3 [2, 0, 0] rfl))) rfl ?_
  clear hS; rintro _ w ⟨a1, c1, a2, c2, rfl, hS⟩
  replace hS : St g (Own 115 11 (sls (AM.dmp A)) a1 c1 :: Own 70 1 (u32s (SM.order A.s)) a2 c2 :: Arn a A :: Sto p s a V :: cel b1 #[.slice none 0 0, .slice none 0 0] 36 :: L) w := hS
  refine WL.stF rfl rfl rfl 4 hS rfl rfl rfl rfl rfl ag_36 (fun w hS => ?_)
  replace hS : St g (Own 115 11 (sls (AM.dmp A)) a1 c1 :: Own 70 1 (u32s (SM.order A.s)) a2 c2 :: Arn a A :: Sto p s a V :: cel b1 #[.slice a1 (List.length (sls (AM.dmp A))) c1, .slice a2 (List.length (u32s (SM.order A.s))) c2] 36 :: L) w := hS
  refine WL.nil ?_
  refine WC.ret ?_
  refine ⟨[.agg #[.slice a1 (List.length (sls (AM.dmp A))) c1, .slice a2 (List.length (u32s (SM.order A.s))) c2]], ⟨⟨_, rfl, hS.lvF 4 rfl ag_36⟩, trivial⟩, ?_⟩
  replace hS := (hS.sel 5 [0, 0, 1, 0] rfl)
  exact ⟨_, _, _, _, rfl, hS⟩
set_option maxRecDepth 8192 in
theorem vs_refs0 {g w : World} {L : List HP} (s a n : Nat) (hS : St g (Vst s a (VM.new n) :: L) w) :
    Sp Tryz.prog 17 [.pointer (some ⟨s, 0, none⟩)] w (fun v w' => v = .slice none 0 0 ∧ St g (Vst s a (VM.new n) :: L) w') := by
  refine Sp.enter Tryz.func17 rfl (by kernel_rfl) (by kernel_rfl) ?_
  refine WC.seq ?_
  refine WC.region ?_
  refine WL.r 1 rfl ?_
  refine WL.nil ?_
  refine WC.seq ?_
  refine WC.region ?_
  refine WL.r 1 rfl ?_
  refine WL.nil ?_
  refine WC.seq ?_
  refine WC.seq ?_
  refine WC.region ?_
  refine WL.r 1 rfl ?_
  refine WL.call rfl rfl (vs_ret (s := s) (a := a) (V := VM.new n) (ss := []) (hk := KOk.nil) (hp := (List.Perm.refl _)) (hs := List.Pairwise.nil) (hS := hS)) rfl ?_
  clear hS; rintro _ w ⟨a1, c1, rfl, hS⟩
  replace hS : St g (Own 3 1 (i64s []) a1 c1 :: Vst s a (VM.new n) :: L) w := hS
  refine WL.r 2 rfl ?_
  refine WL.nil ?_
  refine WC.block ?_
  refine WC.loop [0, 2, 3, 7, 8, 9] (fun kM vs w => vs = [.pointer (some ⟨s, 0, none⟩), .slice none 0 0, .slice none 0 0, .slice a1 (List.length (i64s [])) c1, .int .i64 (List.length (i64s []) : Int), .int .i64 0] ∧ St g (Own 3 1 (i64s []) a1 c1 :: Vst s a (VM.new n) :: L) w ∧ (0) = kM) (0) ⟨rfl, hS, rfl⟩ ?_
  clear hS; rintro _ _ w j ⟨rfl, hS, rfl⟩
  refine WC.seq ?_
  refine WC.region ?_
  refine WL.r 1 rfl ?_
  refine WL.nil ?_
  as_aux_lemma =>
    refine WC.seq ?_
    refine WC.ifF rfl (decide_eq_false ((by decide))) ?_
    refine WC.exit ?_
    refine WC.seq ?_
    refine WC.region ?_
    refine WL.r 2 rfl ?_
    refine WL.nil ?_
    refine WC.ret ?_
    refine ⟨[.slice none 0 0], rfl, ?_⟩
    replace hS := (hS.sel 1 [] rfl)
    exact ⟨rfl, hS⟩
set_option maxRecDepth 8192 in
theorem len64_0 {g w : World} {L : List HP} (hS : St g (L) w) :
    Sp Tryz.prog 115 [.int .u64 0] w (fun v w' => v = .int .i64 0 ∧ St g (L) w') := by
  refine Sp.enter Tryz.func115 rfl (by kernel_rfl) (by kernel_rfl) ?_
  refine WC.seq ?_
  refine WC.region ?_
  refine WL.r 1 rfl ?_
  refine WL.nil ?_
  refine WC.seq ?_
  refine WC.seq ?_
  refine WC.region ?_
  refine WL.r 2 rfl ?_
  refine WL.nil ?_
  refine WC.ifF rfl (decide_eq_false ((by decide))) ?_
  refine WC.skip ?_
  refine WC.seq ?_
  refine WC.seq ?_
  refine WC.region ?_
  refine WL.r 2 rfl ?_
  refine WL.nil ?_
  refine WC.ifF rfl (decide_eq_false ((by decide))) ?_
  refine WC.skip ?_
  refine WC.seq ?_
  refine WC.seq ?_
  refine WC.region ?_
  refine WL.r 2 rfl ?_
  refine WL.nil ?_
  refine WC.ifF rfl (decide_eq_false ((by decide))) ?_
  refine WC.skip ?_
  as_aux_lemma =>
    refine WC.seq ?_
    refine WC.region ?_
    refine WL.r 3 rfl ?_
    refine WL.reb 21 (.int .u8 0) (congrArg (Value.int .u8) (by rfl)) ?_
    refine WL.ixs rfl rfl (v := 0) (0) rfl rfl rfl (by omega) (show (sb _)[0]? = some 0 from rfl) ?_
    refine WL.r 1 rfl ?_
    refine WL.reb 23 (.int .i64 0) (congrArg (Value.int .i64) (by rfl)) ?_
    refine WL.r 1 rfl ?_
    refine WL.reb 24 (.int .i64 0) (congrArg (Value.int .i64) (by decide)) ?_
    refine WL.r 1 rfl ?_
    refine WL.nil ?_
    refine WC.ret ?_
    refine ⟨[.int .i64 0], rfl, ?_⟩
    exact ⟨rfl, hS⟩
set_option maxRecDepth 8192 in
theorem len_0 {g w : World} {L : List HP} (hS : St g (L) w) :
    Sp Tryz.prog 41 [.int .u64 0] w (fun v w' => v = .int .i64 0 ∧ St g (L) w') := by
  refine Sp.enter Tryz.func41 rfl (by kernel_rfl) (by kernel_rfl) ?_
  refine WC.seq ?_
  refine WC.region ?_
  refine WL.r 1 rfl ?_
  refine WL.nil ?_
  refine WC.seq ?_
  refine WC.ifF rfl rfl ?_
  refine WC.skip ?_
  refine WC.seq ?_
  refine WC.region ?_
  refine WL.r 1 rfl ?_
  refine WL.call rfl rfl (len64_0   (hS := hS)) rfl ?_
  clear hS; rintro _ w ⟨rfl, hS⟩
  replace hS : St g (L) w := hS
  refine WL.r 1 rfl ?_
  refine WL.nil ?_
  refine WC.ret ?_
  refine ⟨[.int .i64 0], rfl, ?_⟩
  exact ⟨rfl, hS⟩
set_option maxRecDepth 8192 in
theorem ins0 {g w : World} {L : List HP} (hS : St g (L) w) :
    Sp Tryz.prog 105 [.slice none 0 0, .int .i64 0, .int .i64 0] w (fun v w' => v = .tuple #[] ∧ St g (L) w') := by
  refine Sp.enter Tryz.func105 rfl (by kernel_rfl) (by kernel_rfl) ?_
  refine WC.seq ?_
  refine WC.region ?_
  refine WL.r 2 rfl ?_
  refine WL.reb 9 (.int .i64 1) (congrArg (Value.int .i64) (by decide)) ?_
  refine WL.r 1 rfl ?_
  refine WL.nil ?_
  refine WC.block ?_
  refine WC.loop [0, 1, 2, 6] (fun kM vs w => vs = [.slice none 0 0, .int .i64 0, .int .i64 0, .int .i64 1] ∧ St g (L) w ∧ (0) = kM) (0) ⟨rfl, hS, rfl⟩ ?_
  clear hS; rintro _ _ w j ⟨rfl, hS, rfl⟩
  refine WC.seq ?_
  refine WC.seq ?_
  refine WC.region ?_
  refine WL.r 3 rfl ?_
  refine WL.nil ?_
  refine WC.ifF rfl (decide_eq_false ((by decide))) ?_
  refine WC.exit ?_
  refine ⟨[], trivial, ?_⟩
  exact ⟨rfl, hS⟩
set_option maxRecDepth 8192 in
theorem pdq0 {g w : World} {L : List HP} (hS : St g (L) w) :
    Sp Tryz.prog 40 [.slice none 0 0, .int .i64 0, .int .i64 0, .int .i64 0] w (fun v w' => v = .tuple #[] ∧ St g (L) w') := by
  refine Sp.enter Tryz.func40 rfl (by kernel_rfl) (by kernel_rfl) ?_
  refine WC.seq ?_
  refine WC.region ?_
  refine WL.r 1 rfl ?_
  refine WL.nil ?_
  refine WC.seq ?_
  refine WC.region ?_
  refine WL.r 1 rfl ?_
  refine WL.nil ?_
  refine WC.block ?_
  refine WC.loop [0, 1, 2] (fun kM vs w => vs = [.slice none 0 0, .int .i64 0, .int .i64 0] ∧ St g (L) w ∧ (0) = kM) (0) ⟨rfl, hS, rfl⟩ ?_
  clear hS; rintro _ _ w j ⟨rfl, hS, rfl⟩
  refine WC.block ?_
  refine WC.seq ?_
  refine WC.region ?_
  refine WL.r 3 rfl ?_
  refine WL.reb 21 (.int .i64 0) (congrArg (Value.int .i64) (by decide)) ?_
  refine WL.r 1 rfl ?_
  refine WL.nil ?_
  refine WC.seq ?_
  refine WC.seq ?_
  refine WC.region ?_
  refine WL.r 2 rfl ?_
  refine WL.nil ?_
  refine WC.ifT rfl (decide_eq_true ((by decide))) ?_
  refine WC.seq ?_
  refine WC.region ?_
  refine WL.r 3 rfl ?_
  refine WL.call rfl rfl (ins0   (hS := hS)) rfl ?_
  clear hS; rintro _ w ⟨rfl, hS⟩
  replace hS : St g (L) w := hS
  refine WL.nil ?_
  as_aux_lemma =>
    refine WC.ret ?_
    refine ⟨[], trivial, ?_⟩
    exact ⟨rfl, hS⟩
set_option maxRecDepth 8192 in
theorem sort0 {g w : World} {L : List HP} (hS : St g (L) w) :
    Sp Tryz.prog 18 [.slice none 0 0] w (fun v w' => v = .tuple #[] ∧ St g (L) w') := by
  refine Sp.enter Tryz.func18 rfl (by kernel_rfl) (by kernel_rfl) ?_
  refine WC.seq ?_
  refine WC.region ?_
  refine WL.r 3 rfl ?_
  refine WL.nil ?_
  refine WC.region ?_
  refine WL.r 4 rfl ?_
  refine WL.nw 8 rfl (wu64 (by omega)) ?_
  refine WL.call rfl rfl (len_0   (hS := hS)) rfl ?_
  clear hS; rintro _ w ⟨rfl, hS⟩
  replace hS : St g (L) w := hS
  refine WL.call rfl rfl (pdq0   (hS := hS)) rfl ?_
  clear hS; rintro _ w ⟨rfl, hS⟩
  replace hS : St g (L) w := hS
  refine WL.nil ?_
  refine ⟨[], trivial, ?_⟩
  exact ⟨rfl, hS⟩
set_option maxRecDepth 8192 in
theorem st_refs0 {g w : World} {L : List HP} (p s a n : Nat) (hS : St g (Sto p s a (VM.new n) :: L) w) :
    Sp Tryz.prog 9 [.pointer (some ⟨p, 0, none⟩)] w (fun v w' => v = .slice none 0 0 ∧ St g (Sto p s a (VM.new n) :: L) w') := by
  refine Sp.enter Tryz.func9 rfl (by kernel_rfl) (by kernel_rfl) ?_
  refine WC.seq ?_
  refine WC.region ?_
  refine WL.r 1 rfl ?_
  refine WL.nil ?_
  refine WC.seq ?_
  refine WC.region ?_
  obtain ⟨⟨nm, c, x, m⟩, hS⟩ := St.exOpen (f := stoF p s a (VM.new n)) hS
  replace hS : St g (cel p #[.pointer (some ⟨s, 0, none⟩), .pointer (some ⟨nm, 0, none⟩), .pointer (some ⟨c, 0, none⟩), .pointer (some ⟨x, 0, none⟩), .map (some m)] 49 :: Vst s a (VM.new n) :: blk m (.map (mE []) 0) :: L) w := hS
  refine WL.run 4 [.pointer (some ⟨s, 0, none⟩)] rfl (by exact hS.ld 0 rfl rfl) ?_
  refine WL.call rfl rfl (vs_refs0 (s := s) (a := a) (n := n)  (hS := (hS.sel 2 [1, 0] rfl))) rfl ?_
  clear hS; rintro _ w ⟨rfl, hS⟩
  replace hS : St g (Vst s a (VM.new n) :: cel p #[.pointer (some ⟨s, 0, none⟩), .pointer (some ⟨nm, 0, none⟩), .pointer (some ⟨c, 0, none⟩), .pointer (some ⟨x, 0, none⟩), .map (some m)] 49 :: blk m (.map (mE []) 0) :: L) w := hS
  refine WL.r 1 rfl ?_
  refine WL.nil ?_
  refine WC.seq ?_
  refine WC.seq ?_
  refine WC.region ?_
  refine WL.run 4 [.map (some m)] rfl (by exact hS.ld 1 rfl rfl) ?_
  refine WL.rgM rfl rfl mt_47 2 hS rfl rfl (fun b1 w hS => ?_)
  refine WL.nil ?_
  refine WC.block ?_
  refine WC.loop [2, 3, 15] (fun kM vs w => vs = [.slice none 0 0, .slice none 0 0, .pointer (some ⟨b1, 0, none⟩)] ∧ St g (blk b1 (.mapIter (some m) 0 #[] 0) :: Vst s a (VM.new n) :: cel p #[.pointer (some ⟨s, 0, none⟩), .pointer (some ⟨nm, 0, none⟩), .pointer (some ⟨c, 0, none⟩), .pointer (some ⟨x, 0, none⟩), .map (some m)] 49 :: blk m (.map (mE []) 0) :: L) w ∧ (0) = kM) (0) ⟨rfl, hS, rfl⟩ ?_
  clear hS; rintro _ _ w j ⟨rfl, hS, rfl⟩
  refine WC.seq ?_
  refine WC.region ?_
  refine WL.nx0 rfl rfl 0 3 hS rfl rfl rfl rfl ?_
  refine WL.r 1 rfl ?_
  refine WL.nil ?_
  as_aux_lemma =>
    refine WC.seq ?_
    refine WC.ifF rfl rfl ?_
    refine WC.exit ?_
    refine WC.seq ?_
    refine WC.region ?_
    refine WL.r 1 rfl ?_
    refine WL.call rfl rfl (sort0   (hS := hS)) rfl ?_
    clear hS; rintro _ w ⟨rfl, hS⟩
    replace hS : St g (blk b1 (.mapIter (some m) 0 #[] 0) :: Vst s a (VM.new n) :: cel p #[.pointer (some ⟨s, 0, none⟩), .pointer (some ⟨nm, 0, none⟩), .pointer (some ⟨c, 0, none⟩), .pointer (some ⟨x, 0, none⟩), .map (some m)] 49 :: blk m (.map (mE []) 0) :: L) w := hS
    refine WL.nil ?_
    refine WC.seq ?_
    refine WC.region ?_
    refine WL.r 2 rfl ?_
    refine WL.nil ?_
    refine WC.ret ?_
    replace hS := St.exClose (f := stoF p s a (VM.new n)) (L := blk b1 (.mapIter (some m) 0 #[] 0) :: L) ⟨nm, c, x, m⟩ ((hS.sel 4 [2, 1, 1, 0] rfl))
    replace hS : St g (Sto p s a (VM.new n) :: blk b1 (.mapIter (some m) 0 #[] 0) :: L) w := hS
    refine ⟨[.slice none 0 0], rfl, ?_⟩
    replace hS := (hS.sel 2 [0] rfl)
    exact ⟨rfl, hS⟩
set_option maxHeartbeats 1000000 in
set_option maxRecDepth 8192 in
theorem awake31 {g w : World} {L : List HP} (hS : St g (L) w) :
    Sp Tryz.prog 7 [] w (fun v w' => v = .bool true ∧ St g (L) w') := by
  refine Sp.enter Tryz.func7 rfl (by kernel_rfl) (by kernel_rfl) ?_
  refine WC.seq ?_
  refine WC.region ?_
  refine WL.r 1 rfl ?_
  refine WL.nil ?_
  refine WC.seq ?_
  refine WC.region ?_
  refine WL.build rfl rfl (cs := [.int .i64 50, .int .i64 9, .int .i64 1, .int .i64 1]) zv_23 rfl rfl ?_
  refine WL.call rfl rfl (st_new_ok (sl := 50) (cv := 9) (cc := 1) (cx := 1) (hc := (by unfold CfgOk; omega)) (hS := hS)) rfl ?_
  clear hS; rintro _ w ⟨p1, s1, a1, rfl, hS⟩
  replace hS : St g (Sto p1 s1 a1 (VM.new 9) :: Arn a1 (AM.new 50) :: L) w := hS
  refine WL.r 5 rfl ?_
  refine WL.nil ?_
  refine WC.seq ?_
  refine WC.seq ?_
  refine WC.region ?_
  refine WL.r 2 rfl ?_
  refine WL.rG 4 rfl (fun j => ?_)
  refine WL.nil ?_
  refine WC.ifF rfl rfl ?_
  refine WC.skip ?_
  refine WC.seq ?_
  refine WC.region ?_
  have hV0 := VI.new (slots := 50) (cap := 9) (by omega) (by omega); have hr0 := room_new (n := 9)
  refine WL.r 1 rfl ?_
  refine WL.build rfl rfl (cs := [.int .i64 1, .int .u64 0, .int .u64 0, .int .i64 0, .int .i64 0, .int .i64 0, .int .i64 0, .int .i64 0, .bool false, .string ⟨#[]⟩, .slice none 0 0, .slice none 0 0, .slice none 0 0]) zv_63 rfl rfl ?_
  refine WL.call rfl rfl (do_1 (p := p1) (s := s1) (a := a1) (V := VM.new 9) (A := AM.new 50) (R := []) (hV := hV0) (hrm := (by rw [hr0]; decide)) (hla := (by decide)) (hlen := (by decide)) (hS := hS)) rfl ?_
  clear hS; rintro _ w ⟨V1, rfl, hS, f1, f2⟩
  replace hS : St g (Sto p1 s1 a1 V1 :: Arn a1 (AM.new 50) :: L) w := hS
  refine WL.new rfl rfl zv_60 hS (fun b1 w hS => ?_)
  refine WL.stF rfl rfl rfl 0 hS rfl rfl rfl rfl rfl ag_60 (fun w hS => ?_)
  replace hS : St g (cel b1 #[.int .i64 0, .int .u64 (VM.new 9).T.newH, .int .i64 0, .bool false, .int .i64 0, .int .i64 0, .int .i64 0, .int .i64 0, .int .i64 0, .int .i64 0, .int .i64 0, .slice none 0 0, .slice none 0 0, .slice none 0 0, .slice none 0 0] 60 :: Sto p1 s1 a1 V1 :: Arn a1 (AM.new 50) :: L) w := hS
  refine WL.nil ?_
  as_aux_lemma =>
    refine WC.seq ?_
    refine WC.region ?_
    obtain ⟨hF1, hla1⟩ := FZ.init (cc := 9) (uu := 50) (by omega) (by omega) f1 f2; have hus := hF1.used
    refine WL.run 3 [.int .u64 (VM.new 9).T.newH] rfl (by exact hS.ld 0 rfl rfl) ?_
    refine WL.build rfl rfl (cs := [.int .i64 3, .int .u64 (VM.new 9).T.newH, .int .u64 0, .int .i64 1, .int .i64 10, .int .i64 0, .int .i64 0, .int .i64 0, .bool false, .string ⟨#[]⟩, .slice none 0 0, .slice none 0 0, .slice none 0 0]) zv_63 rfl rfl ?_
    refine WL.call rfl rfl (do_put (p := p1) (s := s1) (a := a1) (V := V1) (A := AM.new 50) (cc := 9) (uu := 50) (hd := (VM.new 9).T.newH) (root := 0) (k := 1) (vv := 10) (t := .nil) (hF := hF1) (hcc := (by omega)) (hla := (by rw [hla1]; decide)) (hn := (by decide)) (hf := (by have h1 : (4 * ((Tr.mxH (Tr.nil.n + 1) : Int) + 2)) ≤ 50 := (by decide); have h2 : (Tr.nil.n : Int) = 0 := rfl; omega)) (hS := (hS.sel 3 [1, 1, 0] rfl))) rfl ?_
    clear hS; rintro _ w ⟨V2, A1, A2, j1, rfl, hS, f3, f4, f5, f6⟩
    replace hS : St g (Sto p1 s1 a1 V2 :: Arn a1 A2 :: cel b1 #[.int .i64 0, .int .u64 (VM.new 9).T.newH, .int .i64 0, .bool false, .int .i64 0, .int .i64 0, .int .i64 0, .int .i64 0, .int .i64 0, .int .i64 0, .int .i64 0, .slice none 0 0, .slice none 0 0, .slice none 0 0, .slice none 0 0] 60 :: L) w := hS
    refine WL.new rfl rfl zv_60 hS (fun b2 w hS => ?_)
    refine WL.stF rfl rfl rfl 0 hS rfl rfl rfl rfl rfl ag_60 (fun w hS => ?_)
    replace hS : St g (cel b2 #[.int .i64 0, .int .u64 V1.T.newH, .int .i64 ((Tr.get 1 .nil).getD 0), .bool (Tr.get 1 .nil).isSome, .int .i64 0, .int .i64 0, .int .i64 0, .int .i64 0, .int .i64 0, .int .i64 0, .int .i64 0, .slice none 0 0, .slice none 0 0, .slice none 0 0, .slice none 0 0] 60 :: Sto p1 s1 a1 V2 :: Arn a1 A2 :: cel b1 #[.int .i64 0, .int .u64 (VM.new 9).T.newH, .int .i64 0, .bool false, .int .i64 0, .int .i64 0, .int .i64 0, .int .i64 0, .int .i64 0, .int .i64 0, .int .i64 0, .slice none 0 0, .slice none 0 0, .slice none 0 0, .slice none 0 0] 60 :: L) w := hS
    refine WL.nil ?_
    refine WC.seq ?_
    refine WC.region ?_
    have had := Com.add1 (hF1.vi.ar (f3.ref.perm (by simpa using (List.perm_middle (a := j1) (l₁ := V1.rs.map RN.root) (l₂ := [])).symm))) f5 (by have := hF1.room; omega); have hold := had.old _ hF1.opn
    refine WL.run 3 [.int .u64 (VM.new 9).T.newH] rfl (by exact hS.ld 3 rfl rfl) ?_
    refine WL.build rfl rfl (cs := [.int .i64 9, .int .u64 (VM.new 9).T.newH, .int .u64 0, .int .i64 0, .int .i64 0, .int .i64 0, .int .i64 0, .int .i64 0, .bool false, .string ⟨#[]⟩, .slice none 0 0, .slice none 0 0, .slice none 0 0]) zv_63 rfl rfl ?_
    refine WL.call rfl rfl (do_rel (p := p1) (s := s1) (a := a1) (V := V2) (A := A2) (R := []) (h := (VM.new 9).T.newH) (hV := f4.ar f6.ref) (hh := hF1.rng) (hn := hold.1) (hlen := (by decide)) (hS := (hS.sel 3 [1, 1, 0] rfl))) rfl ?_
    clear hS; rintro _ w ⟨V3, A3, rfl, hS, f7, f8, f9, f10⟩
    replace hS : St g (Sto p1 s1 a1 V3 :: Arn a1 A3 :: cel b2 #[.int .i64 0, .int .u64 V1.T.newH, .int .i64 ((Tr.get 1 .nil).getD 0), .bool (Tr.get 1 .nil).isSome, .int .i64 0, .int .i64 0, .int .i64 0, .int .i64 0, .int .i64 0, .int .i64 0, .int .i64 0, .slice none 0 0, .slice none 0 0, .slice none 0 0, .slice none 0 0] 60 :: cel b1 #[.int .i64 0, .int .u64 (VM.new 9).T.newH, .int .i64 0, .bool false, .int .i64 0, .int .i64 0, .int .i64 0, .int .i64 0, .int .i64 0, .int .i64 0, .int .i64 0, .slice none 0 0, .slice none 0 0, .slice none 0 0, .slice none 0 0] 60 :: L) w := hS
    refine WL.nil ?_
    refine WC.seq ?_
    refine WC.region ?_
    obtain ⟨hF2, hla2⟩ := FZ.step (by omega) hF1 f3 (Tr.ins_ok 1 10 .nil trivial) (by rw [Tr.ins_ls 1 10 .nil List.Pairwise.nil]; exact lins_srt List.Pairwise.nil) f5 f4 f6 f8 f7 f9 f10
    refine WL.run 3 [.int .u64 V1.T.newH] rfl (by exact hS.ld 2 rfl rfl) ?_
    refine WL.build rfl rfl (cs := [.int .i64 2, .int .u64 V1.T.newH, .int .u64 0, .int .i64 1, .int .i64 0, .int .i64 0, .int .i64 0, .int .i64 0, .bool false, .string ⟨#[]⟩, .slice none 0 0, .slice none 0 0, .slice none 0 0]) zv_63 rfl rfl ?_
    refine WL.call rfl rfl (do_get (p := p1) (s := s1) (a := a1) (V := V3) (A := A3) (R := []) (h := V1.T.newH) (k := 1) (t := Tr.ins 1 10 .nil) (hV := hF2.vi) (hh := hF2.rng) (hn := hF2.opn) (hi := (by rw [hF2.root]; exact hF2.is)) (hS := hS)) rfl ?_
    clear hS; rintro _ w ⟨rfl, hS⟩
    replace hS : St g (Sto p1 s1 a1 V3 :: Arn a1 A3 :: cel b2 #[.int .i64 0, .int .u64 V1.T.newH, .int .i64 ((Tr.get 1 .nil).getD 0), .bool (Tr.get 1 .nil).isSome, .int .i64 0, .int .i64 0, .int .i64 0, .int .i64 0, .int .i64 0, .int .i64 0, .int .i64 0, .slice none 0 0, .slice none 0 0, .slice none 0 0, .slice none 0 0] 60 :: cel b1 #[.int .i64 0, .int .u64 (VM.new 9).T.newH, .int .i64 0, .bool false, .int .i64 0, .int .i64 0, .int .i64 0, .int .i64 0, .int .i64 0, .int .i64 0, .int .i64 0, .slice none 0 0, .slice none 0 0, .slice none 0 0, .slice none 0 0] 60 :: L) w := hS
    refine WL.new rfl rfl zv_60 hS (fun b3 w hS => ?_)
    refine WL.stF rfl rfl rfl 0 hS rfl rfl rfl rfl rfl ag_60 (fun w hS => ?_)
    replace hS : St g (cel b3 #[.int .i64 0, .int .u64 0, .int .i64 ((Tr.get 1 (Tr.ins 1 10 .nil)).getD 0), .bool (Tr.get 1 (Tr.ins 1 10 .nil)).isSome, .int .i64 0, .int .i64 0, .int .i64 0, .int .i64 0, .int .i64 0, .int .i64 0, .int .i64 0, .slice none 0 0, .slice none 0 0, .slice none 0 0, .slice none 0 0] 60 :: Sto p1 s1 a1 V3 :: Arn a1 A3 :: cel b2 #[.int .i64 0, .int .u64 V1.T.newH, .int .i64 ((Tr.get 1 .nil).getD 0), .bool (Tr.get 1 .nil).isSome, .int .i64 0, .int .i64 0, .int .i64 0, .int .i64 0, .int .i64 0, .int .i64 0, .int .i64 0, .slice none 0 0, .slice none 0 0, .slice none 0 0, .slice none 0 0] 60 :: cel b1 #[.int .i64 0, .int .u64 (VM.new 9).T.newH, .int .i64 0, .bool false, .int .i64 0, .int .i64 0, .int .i64 0, .int .i64 0, .int .i64 0, .int .i64 0, .int .i64 0, .slice none 0 0, .slice none 0 0, .slice none 0 0, .slice none 0 0] 60 :: L) w := hS
    refine WL.nil ?_
    as_aux_lemma =>
      refine WC.seq ?_
      refine WC.region ?_
      have hcl : V3.T.s.opn (VM.new 9).T.newH = false := (by rw [congrArg VM.T f8.eq]; exact opn_closed f4.t hold.1)
      refine WL.run 3 [.int .u64 (VM.new 9).T.newH] rfl (by exact hS.ld 4 rfl rfl) ?_
      refine WL.build rfl rfl (cs := [.int .i64 2, .int .u64 (VM.new 9).T.newH, .int .u64 0, .int .i64 1, .int .i64 0, .int .i64 0, .int .i64 0, .int .i64 0, .bool false, .string ⟨#[]⟩, .slice none 0 0, .slice none 0 0, .slice none 0 0]) zv_63 rfl rfl ?_
      refine WL.call rfl rfl (do_get_bad (p := p1) (s := s1) (a := a1) (V := V3) (h := (VM.new 9).T.newH) (k := 1) (hT := hF2.vi.t) (hh := hF1.rng) (hn := hcl) (hS := (hS.sel 2 [1, 0] rfl))) rfl ?_
      clear hS; rintro _ w ⟨rfl, hS⟩
      replace hS : St g (Sto p1 s1 a1 V3 :: cel b3 #[.int .i64 0, .int .u64 0, .int .i64 ((Tr.get 1 (Tr.ins 1 10 .nil)).getD 0), .bool (Tr.get 1 (Tr.ins 1 10 .nil)).isSome, .int .i64 0, .int .i64 0, .int .i64 0, .int .i64 0, .int .i64 0, .int .i64 0, .int .i64 0, .slice none 0 0, .slice none 0 0, .slice none 0 0, .slice none 0 0] 60 :: Arn a1 A3 :: cel b2 #[.int .i64 0, .int .u64 V1.T.newH, .int .i64 ((Tr.get 1 .nil).getD 0), .bool (Tr.get 1 .nil).isSome, .int .i64 0, .int .i64 0, .int .i64 0, .int .i64 0, .int .i64 0, .int .i64 0, .int .i64 0, .slice none 0 0, .slice none 0 0, .slice none 0 0, .slice none 0 0] 60 :: cel b1 #[.int .i64 0, .int .u64 (VM.new 9).T.newH, .int .i64 0, .bool false, .int .i64 0, .int .i64 0, .int .i64 0, .int .i64 0, .int .i64 0, .int .i64 0, .int .i64 0, .slice none 0 0, .slice none 0 0, .slice none 0 0, .slice none 0 0] 60 :: L) w := hS
      refine WL.new rfl rfl zv_60 hS (fun b4 w hS => ?_)
      refine WL.stF rfl rfl rfl 0 hS rfl rfl rfl rfl rfl ag_60 (fun w hS => ?_)
      replace hS : St g (cel b4 #[.int .i64 5, .int .u64 0, .int .i64 0, .bool false, .int .i64 0, .int .i64 0, .int .i64 0, .int .i64 0, .int .i64 0, .int .i64 0, .int .i64 0, .slice none 0 0, .slice none 0 0, .slice none 0 0, .slice none 0 0] 60 :: Sto p1 s1 a1 V3 :: cel b3 #[.int .i64 0, .int .u64 0, .int .i64 ((Tr.get 1 (Tr.ins 1 10 .nil)).getD 0), .bool (Tr.get 1 (Tr.ins 1 10 .nil)).isSome, .int .i64 0, .int .i64 0, .int .i64 0, .int .i64 0, .int .i64 0, .int .i64 0, .int .i64 0, .slice none 0 0, .slice none 0 0, .slice none 0 0, .slice none 0 0] 60 :: Arn a1 A3 :: cel b2 #[.int .i64 0, .int .u64 V1.T.newH, .int .i64 ((Tr.get 1 .nil).getD 0), .bool (Tr.get 1 .nil).isSome, .int .i64 0, .int .i64 0, .int .i64 0, .int .i64 0, .int .i64 0, .int .i64 0, .int .i64 0, .slice none 0 0, .slice none 0 0, .slice none 0 0, .slice none 0 0] 60 :: cel b1 #[.int .i64 0, .int .u64 (VM.new 9).T.newH, .int .i64 0, .bool false, .int .i64 0, .int .i64 0, .int .i64 0, .int .i64 0, .int .i64 0, .int .i64 0, .int .i64 0, .slice none 0 0, .slice none 0 0, .slice none 0 0, .slice none 0 0] 60 :: L) w := hS
      refine WL.nil ?_
      refine WC.seq ?_
      refine WC.region ?_
      refine WL.run 3 [.int .i64 0] rfl (by exact hS.ld 5 rfl rfl) ?_
      refine WL.runG 20 [.int .i64 0, .bool (Tr.get 1 (Tr.ins 1 10 .nil)).isSome, .int .i64 ((Tr.get 1 (Tr.ins 1 10 .nil)).getD 0), .int .i64 5] rfl (by exact ⟨fun _ => hS.ld 4 rfl rfl, fun _ => hS.ld 2 rfl rfl, fun _ => hS.ld 2 rfl rfl, fun _ => hS.ld 0 rfl rfl⟩) (fun j => ?_)
      refine WL.prop 62 rfl (band (band (band (band (dd _) (dd _)) (dv _)) (dd _)) (dd _)) ?_
      refine WL.nil ?_
      refine WC.ret ?_
      refine ⟨[.bool (bif (bif (bif (bif (decide (0 = 0)) then (decide (0 = 0)) else false) then (Tr.get 1 (Tr.ins 1 10 .nil)).isSome else false) then (decide (((Tr.get 1 (Tr.ins 1 10 .nil)).getD 0) = 10)) else false) then (decide (5 = 5)) else false)], rfl, ?_⟩
      replace hS := (hS.sel 6 [] rfl)
      exact ⟨rfl, hS⟩
set_option maxRecDepth 8192 in
theorem law_snew_bad {g w : World} {L : List HP} (sl cv cc cx small : Int) (hc : ¬ CfgOk sl cv cc cx) (hsr : -9223372036854775808 ≤ small ∧ small ≤ 9223372036854775807) (hS : St g (L) w) :
    Sp Tryz.prog 3 [.agg #[.int .i64 sl, .int .i64 cv, .int .i64 cc, .int .i64 cx], .int .i64 small] w (fun v w' => v = .bool true ∧ St g (L) w') := by
  refine Sp.enter Tryz.func3 rfl (by kernel_rfl) (by kernel_rfl) ?_
  have _ := hsr
  refine WC.seq ?_
  refine WC.region ?_
  refine WL.box rfl rfl #[.int .i64 sl, .int .i64 cv, .int .i64 cc, .int .i64 cx] hS rfl rfl (fun b1 w hS => ?_)
  refine WL.r 1 rfl ?_
  refine WL.nil ?_
  refine WC.seq ?_
  refine WC.region ?_
  refine WL.ldF rfl rfl 0 hS rfl rfl ag_23 ?_
  refine WL.call rfl rfl (st_new_bad (sl := sl) (cv := cv) (cc := cc) (cx := cx) (hc := hc) (hS := hS)) rfl ?_
  clear hS; rintro _ w ⟨rfl, hS⟩
  replace hS : St g (cel b1 #[.int .i64 sl, .int .i64 cv, .int .i64 cc, .int .i64 cx] 23 :: L) w := hS
  refine WL.r 5 rfl ?_
  refine WL.nil ?_
  refine WC.seq ?_
  refine WC.seq ?_
  refine WC.region ?_
  refine WL.r 2 rfl ?_
  refine WL.ldF rfl rfl 0 hS rfl rfl ag_23 ?_
  refine WL.call rfl rfl (cfg_ok (sl := sl) (cv := cv) (cc := cc) (cx := cx)  (hS := hS)) rfl ?_
  clear hS; rintro _ w ⟨ok1, rfl, hS, f1⟩
  replace hS : St g (cel b1 #[.int .i64 sl, .int .i64 cv, .int .i64 cc, .int .i64 cx] 23 :: L) w := hS
  refine WL.r 1 rfl ?_
  refine WL.rG 15 rfl (fun j => ?_)
  refine WL.prop 34 rfl (bor (bor (bnot (dv _)) (band (dd _) (dd _))) (bnot (dv _))) ?_
  refine WL.nil ?_
  as_aux_lemma =>
    refine WC.ifF rfl (decide_eq_false ((by rw [f1, decide_eq_false hc]; simp))) ?_
    refine WC.skip ?_
    refine WC.seq ?_
    refine WC.region ?_
    refine WL.r 1 rfl ?_
    refine WL.call rfl rfl (mod_spec (k := small) (n := 50) (hk := (by assumption)) (hn := (by omega)) (hS := hS)) rfl ?_
    clear hS; rintro _ w ⟨rfl, hS⟩
    replace hS : St g (cel b1 #[.int .i64 sl, .int .i64 cv, .int .i64 cc, .int .i64 cx] 23 :: L) w := hS
    refine WL.r 1 rfl ?_
    refine WL.nw 37 rfl (w64 (by omega)) ?_
    refine WL.r 1 rfl ?_
    refine WL.nil ?_
    refine WC.seq ?_
    refine WC.region ?_
    have hsm : 0 ≤ small % 50 ∧ small % 50 < 50 := by omega
    refine WL.r 1 rfl ?_
    refine WL.build rfl rfl (cs := [.int .i64 (1 + (small % 50)), .int .i64 1, .int .i64 1, .int .i64 1]) zv_23 rfl rfl ?_
    refine WL.call rfl rfl (st_new_ok (sl := 1 + (small % 50)) (cv := 1) (cc := 1) (cx := 1) (hc := (by unfold CfgOk; omega)) (hS := hS)) rfl ?_
    clear hS; rintro _ w ⟨p1, s1, a1, rfl, hS⟩
    replace hS : St g (Sto p1 s1 a1 (VM.new 1) :: Arn a1 (AM.new (1 + (small % 50)).toNat) :: cel b1 #[.int .i64 sl, .int .i64 cv, .int .i64 cc, .int .i64 cx] 23 :: L) w := hS
    refine WL.r 5 rfl ?_
    refine WL.nil ?_
    refine WC.seq ?_
    refine WC.region ?_
    have hV := VI.new (slots := (1 + small % 50).toNat) (cap := 1) (by omega) (by omega); have hfn := SM.new_free (1 + small % 50).toNat; have hon := order_n hV.ref.toAWf.s
    refine WL.call rfl rfl (awake31   (hS := hS)) rfl ?_
    clear hS; rintro _ w ⟨rfl, hS⟩
    replace hS : St g (Sto p1 s1 a1 (VM.new 1) :: Arn a1 (AM.new (1 + (small % 50)).toNat) :: cel b1 #[.int .i64 sl, .int .i64 cv, .int .i64 cc, .int .i64 cx] 23 :: L) w := hS
    refine WL.r 1 rfl ?_
    refine WL.ung rfl rfl rfl ?_
    refine WL.r 1 rfl ?_
    refine WL.ung rfl rfl rfl ?_
    refine WL.r 3 rfl ?_
    refine WL.reb 49 (.bool true) (congrArg Value.bool (decide_eq_true (by decide))) ?_
    refine WL.ung rfl rfl rfl ?_
    refine WL.r 1 rfl ?_
    refine WL.ung rfl rfl rfl ?_
    refine WL.r 3 rfl ?_
    refine WL.ung rfl rfl rfl ?_
    refine WL.r 1 rfl ?_
    refine WL.ung rfl rfl rfl ?_
    refine WL.call rfl rfl (st_free (p := p1) (s := s1) (a := a1) (V := VM.new 1) (A := AM.new (1 + (small % 50)).toNat) (hA := hV.ref.toAWf) (hS := hS)) rfl ?_
    clear hS; rintro _ w ⟨rfl, hS⟩
    replace hS : St g (Sto p1 s1 a1 (VM.new 1) :: Arn a1 (AM.new (1 + (small % 50)).toNat) :: cel b1 #[.int .i64 sl, .int .i64 cv, .int .i64 cc, .int .i64 cx] 23 :: L) w := hS
    refine WL.ung rfl rfl rfl ?_
    refine WL.r 1 rfl ?_
    refine WL.ung rfl rfl rfl ?_
    refine WL.r 3 rfl ?_
    refine WL.reb 59 (.bool true) (congrArg Value.bool (decide_eq_true ((by rw [show (AM.new (1 + small % 50).toNat).s.free = ((1 + small % 50).toNat : Int) from hfn]; omega)))) ?_
    refine WL.ung rfl rfl rfl ?_
    refine WL.r 1 rfl ?_
    refine WL.ung rfl rfl rfl ?_
    refine WL.call rfl rfl (st_refs0 (p := p1) (s := s1) (a := a1) (n := 1)  (hS := hS)) rfl ?_
    clear hS; rintro _ w ⟨rfl, hS⟩
    replace hS : St g (Sto p1 s1 a1 (VM.new 1) :: Arn a1 (AM.new (1 + (small % 50)).toNat) :: cel b1 #[.int .i64 sl, .int .i64 cv, .int .i64 cc, .int .i64 cx] 23 :: L) w := hS
    refine WL.ung rfl rfl rfl ?_
    refine WL.r 1 rfl ?_
    refine WL.ung rfl rfl rfl ?_
    refine WL.r 3 rfl ?_
    refine WL.reb 65 (.bool true) (congrArg Value.bool (decide_eq_true (by decide))) ?_
    refine WL.ung rfl rfl rfl ?_
    refine WL.r 1 rfl ?_
    refine WL.ung rfl rfl rfl ?_
    refine WL.call rfl rfl (st_dump (p := p1) (s := s1) (a := a1) (V := VM.new 1) (A := AM.new (1 + (small % 50)).toNat) (hA := hV.ref.toAWf) (hS := hS)) rfl ?_
    clear hS; rintro _ w ⟨a2, c1, a3, c2, rfl, hS⟩
    replace hS : St g (Own 115 11 (sls (AM.dmp (AM.new (1 + (small % 50)).toNat))) a2 c1 :: Own 70 1 (u32s (SM.order (AM.new (1 + (small % 50)).toNat).s)) a3 c2 :: Sto p1 s1 a1 (VM.new 1) :: Arn a1 (AM.new (1 + (small % 50)).toNat) :: cel b1 #[.int .i64 sl, .int .i64 cv, .int .i64 cc, .int .i64 cx] 23 :: L) w := hS
    refine WL.ung rfl rfl rfl ?_
    refine WL.r 1 rfl ?_
    refine WL.ung rfl rfl rfl ?_
    refine WL.r 1 rfl ?_
    refine WL.ung rfl rfl rfl ?_
    refine WL.r 1 rfl ?_
    refine WL.ung rfl rfl rfl ?_
    refine WL.r 3 rfl ?_
    refine WL.nil ?_
    as_aux_lemma =>
      refine WC.ret ?_
      refine ⟨[.bool (decide ((List.length (u32s (SM.order (AM.new (1 + (small % 50)).toNat).s)) : Int) = (1 + (small % 50))))], rfl, ?_⟩
      replace hS := (hS.sel 5 [] rfl)
      exact ⟨congrArg Value.bool (decide_eq_true (by rw [u32s_len]; have h9 : (AM.new (1 + small % 50).toNat).s.free = ((1 + small % 50).toNat : Int) := hfn; omega)), hS⟩
set_option maxRecDepth 8192 in
theorem law_snew_ok {g w : World} {L : List HP} (sl cv cc cx small : Int) (hc : CfgOk sl cv cc cx) (hsr : -9223372036854775808 ≤ small ∧ small ≤ 9223372036854775807) (hS : St g (L) w) :
    Sp Tryz.prog 3 [.agg #[.int .i64 sl, .int .i64 cv, .int .i64 cc, .int .i64 cx], .int .i64 small] w (fun v w' => v = .bool true ∧ St g (L) w') := by
  refine Sp.enter Tryz.func3 rfl (by kernel_rfl) (by kernel_rfl) ?_
  have _ := hsr
  refine WC.seq ?_
  refine WC.region ?_
  refine WL.box rfl rfl #[.int .i64 sl, .int .i64 cv, .int .i64 cc, .int .i64 cx] hS rfl rfl (fun b1 w hS => ?_)
  refine WL.r 1 rfl ?_
  refine WL.nil ?_
  refine WC.seq ?_
  refine WC.region ?_
  refine WL.ldF rfl rfl 0 hS rfl rfl ag_23 ?_
  refine WL.call rfl rfl (st_new_ok (sl := sl) (cv := cv) (cc := cc) (cx := cx) (hc := hc) (hS := hS)) rfl ?_
  clear hS; rintro _ w ⟨p1, s1, a1, rfl, hS⟩
  replace hS : St g (Sto p1 s1 a1 (VM.new cv.toNat) :: Arn a1 (AM.new sl.toNat) :: cel b1 #[.int .i64 sl, .int .i64 cv, .int .i64 cc, .int .i64 cx] 23 :: L) w := hS
  refine WL.r 5 rfl ?_
  refine WL.nil ?_
  refine WC.seq ?_
  refine WC.seq ?_
  refine WC.region ?_
  refine WL.r 2 rfl ?_
  refine WL.ldF rfl rfl 2 hS rfl rfl ag_23 ?_
  refine WL.call rfl rfl (cfg_ok (sl := sl) (cv := cv) (cc := cc) (cx := cx)  (hS := hS)) rfl ?_
  clear hS; rintro _ w ⟨ok1, rfl, hS, f1⟩
  replace hS : St g (Sto p1 s1 a1 (VM.new cv.toNat) :: Arn a1 (AM.new sl.toNat) :: cel b1 #[.int .i64 sl, .int .i64 cv, .int .i64 cc, .int .i64 cx] 23 :: L) w := hS
  refine WL.r 1 rfl ?_
  refine WL.rG 15 rfl (fun j => ?_)
  refine WL.prop 34 rfl (bor (bor (bnot (dv _)) (band (dd _) (dd _))) (bnot (dv _))) ?_
  refine WL.nil ?_
  as_aux_lemma =>
    refine WC.ifF rfl (decide_eq_false ((by rw [f1, decide_eq_true hc]; simp))) ?_
    refine WC.skip ?_
    refine WC.seq ?_
    refine WC.region ?_
    refine WL.r 1 rfl ?_
    refine WL.call rfl rfl (mod_spec (k := small) (n := 50) (hk := (by assumption)) (hn := (by omega)) (hS := hS)) rfl ?_
    clear hS; rintro _ w ⟨rfl, hS⟩
    replace hS : St g (Sto p1 s1 a1 (VM.new cv.toNat) :: Arn a1 (AM.new sl.toNat) :: cel b1 #[.int .i64 sl, .int .i64 cv, .int .i64 cc, .int .i64 cx] 23 :: L) w := hS
    refine WL.r 1 rfl ?_
    refine WL.nw 37 rfl (w64 (by omega)) ?_
    refine WL.r 1 rfl ?_
    refine WL.nil ?_
    refine WC.seq ?_
    refine WC.region ?_
    have hsm : 0 ≤ small % 50 ∧ small % 50 < 50 := by omega
    refine WL.r 1 rfl ?_
    refine WL.build rfl rfl (cs := [.int .i64 (1 + (small % 50)), .int .i64 1, .int .i64 1, .int .i64 1]) zv_23 rfl rfl ?_
    refine WL.call rfl rfl (st_new_ok (sl := 1 + (small % 50)) (cv := 1) (cc := 1) (cx := 1) (hc := (by unfold CfgOk; omega)) (hS := hS)) rfl ?_
    clear hS; rintro _ w ⟨p2, s2, a2, rfl, hS⟩
    replace hS : St g (Sto p2 s2 a2 (VM.new 1) :: Arn a2 (AM.new (1 + (small % 50)).toNat) :: Sto p1 s1 a1 (VM.new cv.toNat) :: Arn a1 (AM.new sl.toNat) :: cel b1 #[.int .i64 sl, .int .i64 cv, .int .i64 cc, .int .i64 cx] 23 :: L) w := hS
    refine WL.r 5 rfl ?_
    refine WL.nil ?_
    refine WC.seq ?_
    refine WC.region ?_
    have hV := VI.new (slots := (1 + small % 50).toNat) (cap := 1) (by omega) (by omega); have hfn := SM.new_free (1 + small % 50).toNat; have hon := order_n hV.ref.toAWf.s
    refine WL.call rfl rfl (awake31   (hS := hS)) rfl ?_
    clear hS; rintro _ w ⟨rfl, hS⟩
    replace hS : St g (Sto p2 s2 a2 (VM.new 1) :: Arn a2 (AM.new (1 + (small % 50)).toNat) :: Sto p1 s1 a1 (VM.new cv.toNat) :: Arn a1 (AM.new sl.toNat) :: cel b1 #[.int .i64 sl, .int .i64 cv, .int .i64 cc, .int .i64 cx] 23 :: L) w := hS
    refine WL.r 1 rfl ?_
    refine WL.ung rfl rfl rfl ?_
    refine WL.r 1 rfl ?_
    refine WL.ung rfl rfl rfl ?_
    refine WL.r 3 rfl ?_
    refine WL.reb 49 (.bool true) (congrArg Value.bool (decide_eq_true (by decide))) ?_
    refine WL.ung rfl rfl rfl ?_
    refine WL.r 1 rfl ?_
    refine WL.ung rfl rfl rfl ?_
    refine WL.r 3 rfl ?_
    refine WL.ung rfl rfl rfl ?_
    refine WL.r 1 rfl ?_
    refine WL.ung rfl rfl rfl ?_
    refine WL.call rfl rfl (st_free (p := p2) (s := s2) (a := a2) (V := VM.new 1) (A := AM.new (1 + (small % 50)).toNat) (hA := hV.ref.toAWf) (hS := hS)) rfl ?_
    clear hS; rintro _ w ⟨rfl, hS⟩
    replace hS : St g (Sto p2 s2 a2 (VM.new 1) :: Arn a2 (AM.new (1 + (small % 50)).toNat) :: Sto p1 s1 a1 (VM.new cv.toNat) :: Arn a1 (AM.new sl.toNat) :: cel b1 #[.int .i64 sl, .int .i64 cv, .int .i64 cc, .int .i64 cx] 23 :: L) w := hS
    refine WL.ung rfl rfl rfl ?_
    refine WL.r 1 rfl ?_
    refine WL.ung rfl rfl rfl ?_
    refine WL.r 3 rfl ?_
    refine WL.reb 59 (.bool true) (congrArg Value.bool (decide_eq_true ((by rw [show (AM.new (1 + small % 50).toNat).s.free = ((1 + small % 50).toNat : Int) from hfn]; omega)))) ?_
    refine WL.ung rfl rfl rfl ?_
    refine WL.r 1 rfl ?_
    refine WL.ung rfl rfl rfl ?_
    refine WL.call rfl rfl (st_refs0 (p := p2) (s := s2) (a := a2) (n := 1)  (hS := hS)) rfl ?_
    clear hS; rintro _ w ⟨rfl, hS⟩
    replace hS : St g (Sto p2 s2 a2 (VM.new 1) :: Arn a2 (AM.new (1 + (small % 50)).toNat) :: Sto p1 s1 a1 (VM.new cv.toNat) :: Arn a1 (AM.new sl.toNat) :: cel b1 #[.int .i64 sl, .int .i64 cv, .int .i64 cc, .int .i64 cx] 23 :: L) w := hS
    refine WL.ung rfl rfl rfl ?_
    refine WL.r 1 rfl ?_
    refine WL.ung rfl rfl rfl ?_
    refine WL.r 3 rfl ?_
    refine WL.reb 65 (.bool true) (congrArg Value.bool (decide_eq_true (by decide))) ?_
    refine WL.ung rfl rfl rfl ?_
    refine WL.r 1 rfl ?_
    refine WL.ung rfl rfl rfl ?_
    refine WL.call rfl rfl (st_dump (p := p2) (s := s2) (a := a2) (V := VM.new 1) (A := AM.new (1 + (small % 50)).toNat) (hA := hV.ref.toAWf) (hS := hS)) rfl ?_
    clear hS; rintro _ w ⟨a3, c1, a4, c2, rfl, hS⟩
    replace hS : St g (Own 115 11 (sls (AM.dmp (AM.new (1 + (small % 50)).toNat))) a3 c1 :: Own 70 1 (u32s (SM.order (AM.new (1 + (small % 50)).toNat).s)) a4 c2 :: Sto p2 s2 a2 (VM.new 1) :: Arn a2 (AM.new (1 + (small % 50)).toNat) :: Sto p1 s1 a1 (VM.new cv.toNat) :: Arn a1 (AM.new sl.toNat) :: cel b1 #[.int .i64 sl, .int .i64 cv, .int .i64 cc, .int .i64 cx] 23 :: L) w := hS
    refine WL.ung rfl rfl rfl ?_
    refine WL.r 1 rfl ?_
    refine WL.ung rfl rfl rfl ?_
    refine WL.r 1 rfl ?_
    refine WL.ung rfl rfl rfl ?_
    refine WL.r 1 rfl ?_
    refine WL.ung rfl rfl rfl ?_
    refine WL.r 3 rfl ?_
    refine WL.nil ?_
    as_aux_lemma =>
      refine WC.ret ?_
      refine ⟨[.bool (decide ((List.length (u32s (SM.order (AM.new (1 + (small % 50)).toNat).s)) : Int) = (1 + (small % 50))))], rfl, ?_⟩
      replace hS := (hS.sel 7 [] rfl)
      exact ⟨congrArg Value.bool (decide_eq_true (by rw [u32s_len]; have h9 : (AM.new (1 + small % 50).toNat).s.free = ((1 + small % 50).toNat : Int) := hfn; omega)), hS⟩
set_option maxRecDepth 8192 in
theorem law_snew {g w : World} {L : List HP} (sl cv cc cx small : Int) (hsr : -9223372036854775808 ≤ small ∧ small ≤ 9223372036854775807) (hS : St g (L) w) :
    Sp Tryz.prog 3 [.agg #[.int .i64 sl, .int .i64 cv, .int .i64 cc, .int .i64 cx], .int .i64 small] w (fun v w' => v = .bool true ∧ St g (L) w') := by
  by_cases hc : CfgOk sl cv cc cx
  · exact law_snew_ok sl cv cc cx small hc hsr hS
  · exact law_snew_bad sl cv cc cx small hc hsr hS
end Go.Proofs.YtloebjlnmdjeiaaGreatDoor
/-! ## Argc -/
namespace Go.Proofs.YtloebjlnmdjeiaaGreatDoor
open Go Go.V Go.RowKit
set_option maxRecDepth 100000
theorem rdf_23 {H : Type} {enc : TypeId × Value → H} {w : World} {cs : List Value} (h : Rdc enc Tryz.prog w 23 cs) : ∃ c0 c1 c2 c3 : Value, cs = [c0, c1, c2, c3] ∧ Rdc enc Tryz.prog w 3 [c0] ∧ Rdc enc Tryz.prog w 3 [c1] ∧ Rdc enc Tryz.prog w 3 [c2] ∧ Rdc enc Tryz.prog w 3 [c3] := by
  obtain ⟨hl, hf⟩ := Rdc.struct h Tryz.underlying23
  rw [show Tryz.prog.cellsOf 23 = 4 by kernel_rfl] at hl
  match cs, hl with
  | [c0, c1, c2, c3], _ =>
    have f0 : Rdc enc Tryz.prog w 3 (([c0, c1, c2, c3].drop 0).take (Tryz.prog.cellsOf 3)) := hf 0 _ rfl
    rw [show Tryz.prog.cellsOf 3 = 1 by kernel_rfl] at f0
    have f1 : Rdc enc Tryz.prog w 3 (([c0, c1, c2, c3].drop 1).take (Tryz.prog.cellsOf 3)) := hf 1 _ rfl
    rw [show Tryz.prog.cellsOf 3 = 1 by kernel_rfl] at f1
    have f2 : Rdc enc Tryz.prog w 3 (([c0, c1, c2, c3].drop 2).take (Tryz.prog.cellsOf 3)) := hf 2 _ rfl
    rw [show Tryz.prog.cellsOf 3 = 1 by kernel_rfl] at f2
    have f3 : Rdc enc Tryz.prog w 3 (([c0, c1, c2, c3].drop 3).take (Tryz.prog.cellsOf 3)) := hf 3 _ rfl
    rw [show Tryz.prog.cellsOf 3 = 1 by kernel_rfl] at f3
    exact ⟨c0, c1, c2, c3, rfl, f0, f1, f2, f3⟩
section
variable {H : Type} {enc : TypeId × Value → H} {w : World} {cs : List Value}
theorem rd_int (h : Rdc enc Tryz.prog w 3 cs) : ∃ n, cs = [.int .i64 n] ∧ I64 n := by
  obtain ⟨n, h1, h2, h3⟩ := h.int (k := .i64) (by kernel_rfl)
  exact ⟨n, h1, h2, h3⟩
theorem rd_cfg (h : Rdc enc Tryz.prog w 23 cs) : ∃ x : Int × Int × Int × Int, cs = [.int .i64 x.1, .int .i64 x.2.1, .int .i64 x.2.2.1, .int .i64 x.2.2.2] ∧ I64 x.1 ∧ I64 x.2.1 ∧ I64 x.2.2.1 ∧ I64 x.2.2.2 := by
  obtain ⟨c0, c1, c2, c3, rfl, h0, h1, h2, h3⟩ := rdf_23 h
  obtain ⟨a, e0, w0⟩ := rd_int h0
  obtain ⟨b, e1, w1⟩ := rd_int h1
  obtain ⟨c, e2, w2⟩ := rd_int h2
  obtain ⟨d, e3, w3⟩ := rd_int h3
  cases e0; cases e1; cases e2; cases e3
  exact ⟨(a, b, c, d), rfl, w0, w1, w2, w3⟩
end
end Go.Proofs.YtloebjlnmdjeiaaGreatDoor
/-! ## Jsn -/
namespace Go.Proofs.YtloebjlnmdjeiaaGreatDoor
open Go Go.V Go.RowKit Go.ChangeShapes Go.WideShapes
set_option maxRecDepth 100000
theorem snew_calls {H : Type} {enc : TypeId × Value → H} {W : World} {base : Nat} {args : List Value} (h : AOk enc Tryz.prog W base [23, 3] args) :
    Calls Tryz.prog 3 args.toArray W fun e W' => e = .returned (.bool true) ∧ Below W.heap.size W W' := by
  obtain ⟨v0, vs0, rfl, k0, r0, h⟩ := h.cons
  obtain ⟨v1, vs1, rfl, k1, r1, h⟩ := h.cons
  obtain rfl := h.nil
  obtain ⟨x0, e0, _⟩ := rd_cfg r0
  obtain ⟨n1, e1, h1⟩ := rd_int r1
  obtain rfl := okv_agg k0 Tryz.underlying23 e0
  obtain rfl := okv_one (okv_int k1 Tryz.underlying3) e1
  have hS := St.start W
  exact law_calls (law_snew x0.1 x0.2.1 x0.2.2.1 x0.2.2.2 n1 h1 hS)
theorem snew_own : ownKnob Tryz.prog.godebug = none := by kernel_rfl
theorem snew_lifted (os : Os) (started : os.Started) (H : Type) (enc : TypeId × Value → H) :
    ReturnsInHanded {} Tryz.checked os 3 .any (fun w args => (Rows.storeNewSpec.pre enc Tryz.prog Tryz.f3 Rows.storeNewRow.domain false w args ∧ laidMetH Tryz.prog Rows.storeNewRow.laid w) ∧ sizedMet enc Tryz.prog Tryz.f3 (OpenSpec.ofChange Rows.storeNewSpec) false w args)
      (Rows.storeNewSpec.post enc Tryz.prog Tryz.f3 false true false false) := by
  refine returnsInHanded_of_change_and (C := Tryz.checked) (X := fun w _ => laidMetH Tryz.prog Rows.storeNewRow.laid w) (fun _ _ _ hh h => h.of_heap hh) snew_own started (by kernel_rfl) Tryz.func3
    (ChangeSpec.witness_shaped (enc := enc) (C := Tryz.checked) (os := os) (X := fun w _ => laidMetH Tryz.prog Rows.storeNewRow.laid w) false (World.laidAll Tryz.prog os Rows.storeNewRow.laid) #[.agg #[.int .i64 0, .int .i64 0, .int .i64 0, .int .i64 0], .int .i64 0] 8 (World.laidAll_os _ _ _)
      (World.shaped_of_ZipB (by kernel_rfl) (by kernel_rfl)) (by kernel_rfl) (by kernel_rfl) (by kernel_rfl)
      (by rw [MakeChecks.laidMetH_plain _ _ _ (by kernel_rfl)]; exact laidMet_laidAll _ (by kernel_rfl) (by kernel_rfl))) ?_
  intro W base args ds gs before hval0 hW _ _ hL _
  have hval : ∀ (j : Nat) t v, Tryz.f3.params[j]? = some t → args[j]? = some v → Value.okWide Tryz.prog W .any base t v := hval0
  have hW0 := hW
  obtain ⟨p, q, hA0, _⟩ := hW
  have hA : DataW.TrodAll enc Tryz.prog W 0 (fun _ => true) true Tryz.f3.params.toList args.toList ds p := hA0
  rw [Tryz.params3] at hA hval
  clear hA0 hval0 hL
  have hc := snew_calls (AOk.args hA hval)
  rw [Array.toArray_toList] at hc
  refine hc.mono fun e W' ⟨he, hb⟩ => ⟨_, he, ?_⟩
  refine law_post rfl hW0 (by kernel_rfl) ?_ (by kernel_rfl) Tryz.underlying4 ?_ hb
  · exact fun t ht => by
      simp only [Tryz.params3, List.mem_cons, List.not_mem_nil, or_false] at ht
      rcases ht with rfl | rfl <;> exact ⟨by kernel_rfl, of_decide_eq_true (by kernel_rfl)⟩
  · intro hd
    match ds, hd with
    | [d1, d2], _ => exact ⟨rfl, rfl, rfl⟩
theorem snew_row : Rows.StoreNewSaid :=
  OpenClaim.holds_of_wide 3 Tryz.f3 rfl rfl rfl rfl rfl rfl rfl ⟨rfl, rfl, rfl, rfl, rfl⟩ rfl rfl rfl rfl rfl (by kernel_rfl) Tryz.func3 snew_closed
    (of_decide_eq_true (by kernel_rfl)) (by unfold Func.isWrapper; first | (rw [if_pos (by decide +kernel)]; kernel_rfl) | (rw [if_neg (by decide +kernel)]; exact ⟨rfl, rfl⟩))
    (fun os started H enc _ => snew_lifted os started H enc)
theorem snew_holds : Rows.StoreNewCardSaid :=
  Claim7.holds_tied_plain_at .later [] [.data, .pinned] true (true, "74c6ddec428df2187d006bfb893e0f9106f1533cdbbbd74f380b6752caaf9eea") false snew_row (fun _ h => by cases h) (by kernel_rfl) (fun _ h => by cases h) storeNew_row_tie rfl ⟨rfl, rfl⟩ (by kernel_rfl) rfl
    (fun f fn hf hfn => by
      obtain rfl : f = 3 := Option.some.inj ((show Tryz.prog.funcNamed "versionmap/versionmaplaw31.StoreNew" = some 3 by kernel_rfl).symm.trans hf) |>.symm
      obtain rfl : fn = Tryz.f3 := (Option.some.inj (Tryz.func3.symm.trans hfn)).symm
      exact ⟨snew_looks, fun j t ht => by
        rw [Tryz.params3] at ht
        have hm : t ∈ [23, 3] := by simpa using Array.mem_of_getElem? ht
        have hall : ([23, 3].all fun u => !Tryz.prog.wantsStandIn u) = true := by kernel_rfl
        exact (show Tryz.prog.wantsStandIn t = false by simpa using List.all_eq_true.1 hall t hm)⟩)
    snew_goes
end Go.Proofs.YtloebjlnmdjeiaaGreatDoor
