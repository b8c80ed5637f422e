/-
  The law VersionsForget, walked.
  Conditions: the arguments lie in their kinds.
-/
import Derived.Test.YtlnlnebibgdjdaaV5
import Derived.Test.YtlnlnebibgdjdaaW6
import Derived.Test.YtlnlnebibgdjdaaLi
import Derived.Test.YtlnlnebibgdjdaaVra
namespace Go.Proofs.Ytlnlnebibgdjdaa
open Go Go.V Go.RowKit

theorem Com.pre {V V2 : VM} {A : AM} {R ps : List Int} {root : Int} (hV : VI V A R) (h : Com V root ps V2) : (∀ z, preG V2.xs z = (preG V.xs z || decide (z = V.last + 1))) ∧ (∀ z, liveG V2.xs z = (liveG V.xs z || decide (z = V.last + 1))) ∧ V2.rs = V.rs ++ [⟨V.last + 1, root, V.q2⟩] := by
  obtain ⟨⟨xs2, q, rfl, hA⟩, h0⟩ := h
  obtain ⟨_, _, _, h1, h2, _⟩ := (AddP.facts hV.g.le hA).resolve_left fun e => e.1 h0
  exact ⟨h2, h1, rfl⟩
theorem FvS.init {V1 : VM} (f1 : VI V1 (AM.new 600) []) (f2 : Com (VM.new 50) 0 [] V1) : FvS V1 (AM.new 600) (VM.new 50).T.newH 0 .nil ∧ V1.last = 1 := by
  have hV0 := VI.new (slots := 600) (cap := 50) (by omega) (by omega)
  have hr0 := room_new (n := 50)
  have a1 := Com.add1 hV0 f2 (by rw [hr0]; decide)
  obtain ⟨p1, _, p3⟩ := Com.pre hV0 f2
  have la : V1.last = 1 := a1.la
  refine ⟨⟨f1, a1.opn, a1.rng, by rw [a1.val, la]; rfl, fun z => ?_, ?_, a1.cap, ⟨0, by rw [p3, la]; rfl⟩, rfl, trivial, List.Pairwise.nil, List.length_replicate⟩, la⟩
  · rw [p1, la]
    show ((preG [] z) || decide (z = 0 + 1)) = true ↔ z = 1
    simp [preG, vfind]
  · rw [a1.free, show (VM.new 50).T.s.free = ((50 : Nat) : Int) from SM.new_free 50]; rfl
theorem FvS.step {V V2 V3 : VM} {A A1 A3 A4 : AM} {hd root j1 : Int} {t t' : Tr} {c : Nat} (h : FvS V A hd root t) (hI : TOp A A1 (V.rs.map RN.root ++ []) j1 t' c) (hok : t'.ok) (hsr : Srt t'.ls) (hC : Com V j1 [V.T.val hd] V2) (hV2 : VI V2 (A1.ret j1) [j1])
    (hL : Rl (A1.ret j1) A3 (V2.rs.map RN.root ++ [])) (hR : Rls V2 hd V3) (hV3 : VI V3 A4 []) (kp : Kp A3 A4 (V3.rs.map RN.root ++ [])) (hu : A4.s.used.length = A3.s.used.length) : FvS V3 A4 V.T.newH j1 t' ∧ V3.last = V.last + 1 := by
  have hr := h.room
  have hV1 : VI V A1 [j1] := h.vi.ar (hI.ref.perm (by simpa using (List.perm_middle (a := j1) (l₁ := V.rs.map RN.root) (l₂ := [])).symm))
  have a1 := Com.add1 hV1 hC (by omega)
  obtain ⟨p1, p2, p3⟩ := Com.pre hV1 hC
  have hold := a1.old hd h.opn
  have l3 : V3.last = V.last + 1 := by rw [congrArg VM.last hR.eq]; exact a1.la
  have hvh : V2.T.val hd = V.last := by rw [hold.2, h.val]
  have hcl := hV2.t.opn_close hold.1 a1.opn (by rw [hvh, a1.val]; omega)
  have hT3 : V3.T = V2.T.close hd := congrArg VM.T hR.eq
  rw [← hT3] at hcl
  have hlast : liveG V.xs V.last = true := by have := (VM.open_val h.vi h.opn).1; rw [h.val] at this; exact this
  have hrel := hR.rel
  rw [hvh] at hrel
  have hpre := rel_single (m := V.last + 1) hrel (by rw [p2, hlast]; rfl) (fun z hz => by
    rw [p2, Bool.or_eq_true] at hz
    rcases hz with hz | hz
    · exact .inl ((h.pre z).1 (live_pre hz))
    · exact .inr (of_decide_eq_true hz)) (by rw [p2]; simp) (by omega)
  obtain ⟨b, hb⟩ := h.rs
  have hrs : V3.rs = [⟨V.last + 1, j1, V.q2⟩] := single_of hV3.k.uniq fun x => by
    rw [hR.sub x, p3, hb, hpre]
    constructor
    · rintro ⟨h1, h2⟩
      simp only [List.cons_append, List.nil_append, List.mem_cons, List.not_mem_nil, or_false] at h1
      rcases h1 with h1 | h1
      · rw [h1] at h2; exact absurd h2 (by show ¬ V.last = V.last + 1; omega)
      · exact h1
    · intro h1; rw [h1]; exact ⟨by simp, rfl⟩
  refine ⟨⟨hV3, hcl.1, a1.rng, by rw [hcl.2, a1.val, l3], fun z => by rw [hpre, l3], ?_, ?_, ⟨V.q2, by rw [hrs, l3]⟩, ?_, hok, hsr, ?_⟩, l3⟩
  · rw [hT3, show (V2.T.close hd).s.free = V2.T.s.free + 1 from SM.release_free _, a1.free, h.free]; rfl
  · rw [congrArg VM.cap hR.eq]; show V2.cap = 50; rw [a1.cap, h.cap]
  · have h1 := hL.kp j1 (by rw [p3]; simp) t' (hI.is.ret j1)
    exact kp j1 (by rw [hrs]; simp) t' h1
  · rw [hu, hL.cap, (AM.ret_same _ _).1, hI.cap, h.acap]
theorem ar_cap {g w : World} {L : List HP} (a : Nat) (A : AM) (hA : AWf A) (hS : St g (Arn a A :: L) w) :
    Sp Try.prog 24 [.pointer (some ⟨a, 0, none⟩)] w (fun v w' => v = .int .i64 A.s.cap ∧ St g (Arn a A :: L) w') := by
  refine Sp.enter Try.func24 rfl (by kernel_rfl) (by kernel_rfl) ?_
  refine WC.seq ?_
  refine WC.region ?_
  obtain ⟨⟨ap, na, nc, ca, cc, rd⟩, hS⟩ := St.exOpen (f := arnF a A) hS
  replace hS : St g (cel a #[.pointer (some ⟨ap, 0, none⟩), .slice na (List.length (nds A.nodes)) nc, .slice ca (List.length (i64s A.cnt)) cc, .int .u64 rd] 106 :: Slt ap A.s :: Own 123 8 (nds A.nodes) na nc :: Own 3 1 (i64s A.cnt) ca cc :: L) w := hS
  have hAs := hA.s
  refine WL.r 1 rfl ?_
  refine WL.nil ?_
  refine WC.seq ?_
  refine WC.region ?_
  refine WL.run 4 [.pointer (some ⟨ap, 0, none⟩)] rfl (by exact hS.ld 0 rfl rfl) ?_
  refine WL.call rfl rfl (sl_cap (s := ap) (S := A.s) (hl := (by first | assumption | exact SOk.le (by assumption))) (hS := (hS.sel 2 [1, 0] rfl))) rfl ?_
  clear hS; rintro _ w ⟨rfl, hS⟩
  replace hS : St g (Slt ap A.s :: cel a #[.pointer (some ⟨ap, 0, none⟩), .slice na (List.length (nds A.nodes)) nc, .slice ca (List.length (i64s A.cnt)) cc, .int .u64 rd] 106 :: Own 123 8 (nds A.nodes) na nc :: Own 3 1 (i64s A.cnt) ca cc :: L) w := hS
  refine WL.r 1 rfl ?_
  refine WL.nil ?_
  refine WC.ret ?_
  replace hS := St.exClose (f := arnF a A) (L := L) ⟨ap, na, nc, ca, cc, rd⟩ ((hS.sel 2 [1, 0] rfl))
  replace hS : St g (Arn a A :: L) w := hS
  refine ⟨[.int .i64 A.s.cap], rfl, ?_⟩
  exact ⟨rfl, hS⟩
set_option maxHeartbeats 4000000 in
set_option maxRecDepth 8192 in
theorem law_vforget {g w : World} {L : List HP} (l : Kvs) (u : Option Addr) (d : Nat) (hl : l.length ≤ maxLen) (hS : St g (Sh 46 2 (en2 l) u d :: L) w) :
    Sp Try.prog 4 [.slice u (List.length (en2 l)) d] w (fun v w' => v = .bool true ∧ St g (L) w') := by
  refine Sp.enter Try.func4 rfl (by kernel_rfl) (by kernel_rfl) ?_
  refine WC.seq ?_
  refine WC.region ?_
  have hll := en2_len l; have hmx0 : l.length ≤ 9223372036854775807 := hl
  refine WL.r 1 rfl ?_
  refine WL.nil ?_
  refine WC.seq ?_
  refine WC.region ?_
  refine WL.call rfl rfl (vs_new_ok (sl := 600) (cap := 50) (hc := (by decide)) (hs := (by decide)) (hS := hS)) rfl ?_
  clear hS; rintro _ w ⟨s1, a1, rfl, hS⟩
  replace hS : St g (Vst s1 a1 (VM.new 50) :: Arn a1 (AM.new 600) :: Sh 46 2 (en2 l) u d :: L) w := hS
  refine WL.r 5 rfl ?_
  refine WL.nil ?_
  refine WC.seq ?_
  refine WC.seq ?_
  refine WC.region ?_
  refine WL.call rfl rfl (awake22_spec   (hS := hS)) rfl ?_
  clear hS; rintro _ w ⟨rfl, hS⟩
  replace hS : St g (Vst s1 a1 (VM.new 50) :: Arn a1 (AM.new 600) :: Sh 46 2 (en2 l) u d :: L) w := hS
  refine WL.r 2 rfl ?_
  refine WL.ung rfl rfl rfl ?_
  refine WL.r 1 rfl ?_
  refine WL.ung rfl rfl rfl ?_
  refine WL.r 3 rfl ?_
  refine WL.reb 31 (.bool false) (congrArg Value.bool (decide_eq_false (by decide))) ?_
  refine WL.ung rfl rfl rfl ?_
  refine WL.r 1 rfl ?_
  refine WL.ung rfl rfl rfl ?_
  refine WL.r 3 rfl ?_
  refine WL.ung rfl rfl rfl ?_
  refine WL.r 1 rfl ?_
  refine WL.ung rfl rfl rfl ?_
  refine WL.call rfl rfl (vs_arena (s := s1) (a := a1) (V := VM.new 50)  (hS := hS)) rfl ?_
  clear hS; rintro _ w ⟨rfl, hS⟩
  replace hS : St g (Vst s1 a1 (VM.new 50) :: Arn a1 (AM.new 600) :: Sh 46 2 (en2 l) u d :: L) w := hS
  refine WL.ung rfl rfl rfl ?_
  refine WL.r 2 rfl ?_
  refine WL.nil ?_
  as_aux_lemma =>
    refine WC.ifF rfl rfl ?_
    refine WC.skip ?_
    refine WC.seq ?_
    refine WC.region ?_
    have hV0 := VI.new (slots := 600) (cap := 50) (by omega) (by omega); have hr0 := room_new (n := 50)
    refine WL.r 1 rfl ?_
    refine WL.call rfl rfl (vs_create (s := s1) (a := a1) (V := VM.new 50) (A := AM.new 600) (R := []) (hV := hV0) (hrm := (by rw [hr0]; decide)) (hla := (by decide)) (hlen := (by decide)) (hS := hS)) rfl ?_
    clear hS; rintro _ w ⟨V1, rfl, hS, f1, f2⟩
    replace hS : St g (Vst s1 a1 V1 :: Arn a1 (AM.new 600) :: Sh 46 2 (en2 l) u d :: L) w := hS
    refine WL.r 5 rfl ?_
    refine WL.nil ?_
    refine WC.seq ?_
    refine WC.region ?_
    obtain ⟨hF1, hla1⟩ := FvS.init f1 f2
    replace hS : St g (Sh 46 2 (en2 Tr.nil.ls) none 0 :: Vst s1 a1 V1 :: Arn a1 (AM.new 600) :: Sh 46 2 (en2 l) u d :: L) w := hS.nilS 46 2
    refine WL.r 1 rfl ?_
    refine WL.nil ?_
    refine WC.seq ?_
    refine WC.seq ?_
    refine WC.region ?_
    refine WL.r 1 rfl ?_
    refine WL.nil ?_
    refine WC.block ?_
    refine WC.loop [0, 3, 5, 6, 7, 8] (fun kM vs w => ∃ (k : Nat) (V : VM) (A : AM) (hd root : Int) (t : Tr) (ua : Option Addr) (uc : Nat), vs = [.slice u (List.length (en2 l)) d, .pointer (some ⟨s1, 0, none⟩), .int .u64 hd, .int .i64 0, .slice ua (List.length (en2 t.ls)) uc, .int .i64 (k : Int)] ∧ St g (Sh 46 2 (en2 t.ls) ua uc :: Vst s1 a1 V :: Arn a1 A :: Sh 46 2 (en2 l) u d :: L) w ∧ (k ≤ 40) ∧ (FvS V A hd root t) ∧ (t.n ≤ k) ∧ (V.last = (k : Int) + 1) ∧ (40 - k) = kM) (40 - 0) ⟨0, V1, AM.new 600, (VM.new 50).T.newH, 0, .nil, none, 0, rfl, hS, (by omega), (hF1), (Nat.le_refl 0), (by rw [hla1]; rfl), rfl⟩ ?_
    clear hS; rintro _ _ w j ⟨k, V, A, hd, root, t, ua, uc, rfl, hS, hk, hF, htn, hla, rfl⟩
    refine WC.seq ?_
    refine WC.seq ?_
    refine WC.region ?_
    refine WL.r 4 rfl ?_
    refine WL.rG 4 rfl (fun j => ?_)
    refine WL.prop 52 rfl (band (dd _) (dd _)) ?_
    refine WL.nil ?_
    as_aux_lemma =>
      refine WC.ifP rfl (fun cd1 => ?_) (fun cd1 => ?_)
      · refine WC.skip ?_
        refine WC.seq ?_
        refine WC.block ?_
        refine WC.seq ?_
        refine WC.region ?_
        obtain ⟨e, he⟩ : ∃ e, l[k]? = some e := ⟨_, List.getElem?_eq_getElem (by omega)⟩; have hus := hF.used; have hrt := hF.root; have hmx := Tr.mxH_le (t.n + 1); have hrs1 : V.rs.length = 1 := (by obtain ⟨b, hb⟩ := hF.rs; rw [hb]; rfl)
        refine WL.r 2 rfl ?_
        refine WL.call rfl rfl (vs_root_ok (s := s1) (a := a1) (V := V) (A := A) (R := []) (h := hd) (hV := hF.vi) (hh := hF.rng) (hn := hF.opn) (hS := (hS.sel 2 [1, 0] rfl))) rfl ?_
        clear hS; rintro _ w ⟨rfl, hS⟩
        replace hS : St g (Vst s1 a1 V :: Sh 46 2 (en2 t.ls) ua uc :: Arn a1 A :: Sh 46 2 (en2 l) u d :: L) w := hS
        refine WL.r 5 rfl ?_
        refine WL.nil ?_
        refine WC.seq ?_
        refine WC.plan [([0, 2, 3, 4, 5, 6], some (1, [2, 3, 4, 5, 6])), ([], some (7, [])), ([8, 9, 10, 11, 12, 13, 14, 15, 16], none)] (by kernel_rfl) (by kernel_rfl) ?_
        refine WQ.r 4 rfl ?_
        refine WQ.ix rfl rfl (i := (k : Int)) (k) el_36 rfl rfl (by omega) (by omega) (hS.rdS 3 rfl (en2_at he)).1 ?_
        refine WQ.ldC rfl rfl [.int .i64 e.1, .int .i64 e.2] ag_46 rfl (hS.rdS 3 rfl (en2_at he)).2 ?_
        refine WQ.nil ?_
        intro m1
        replace hS := hS.drewN m1; generalize hwm1 : World.drewN _ _ = w at *; clear hwm1
        refine WL.call rfl rfl (vs_arena (s := s1) (a := a1) (V := V)  (hS := hS)) rfl ?_
        clear hS; rintro _ w ⟨rfl, hS⟩
        replace hS : St g (Vst s1 a1 V :: Sh 46 2 (en2 t.ls) ua uc :: Arn a1 A :: Sh 46 2 (en2 l) u d :: L) w := hS
        refine WL.nil ?_
        refine ⟨by exact ⟨RQ.pure rfl rfl rfl rfl, RQ.pure rfl rfl rfl rfl, RQ.pure rfl rfl rfl rfl, RQ.ix rfl rfl (i := (k : Int)) (k) el_36 rfl rfl (by omega) (by omega) (hS.rdS 3 rfl (en2_at he)).1 rfl rfl, RQ.ldC rfl rfl [.int .i64 e.1, .int .i64 e.2] ag_46 rfl (hS.rdS 3 rfl (en2_at he)).2 rfl rfl⟩, ?_⟩
        refine WQ.nil ?_
        intro m2
        replace hS := hS.drewN m2; generalize hwm2 : World.drewN _ _ = w at *; clear hwm2
        refine WL.call rfl rfl (up_ins (a := a1) (A := A) (R := List.map RN.root V.rs ++ []) (i := V.rootOf (V.T.val hd)) (k := e.1) (z := e.2) (t := t) (hA := hF.vi.ref) (hi := (by rw [hrt]; exact hF.is)) (hb := hF.ok) (hn := (by omega)) (hf := (by omega)) (hz := (by simp; omega)) (hS := (hS.sel 3 [2, 0, 0] rfl))) rfl ?_
        clear hS; rintro _ w ⟨A1, j1, rfl, hS, f3⟩
        replace hS : St g (Arn a1 A1 :: Vst s1 a1 V :: Sh 46 2 (en2 t.ls) ua uc :: Sh 46 2 (en2 l) u d :: L) w := hS
        refine WL.nil ?_
        refine ⟨by exact trivial, ?_⟩
        refine WQ.r 9 rfl ?_
        refine WQ.nil ?_
        intro m3
        replace hS := hS.drewN m3; generalize hwm3 : World.drewN _ _ = w at *; clear hwm3
        as_aux_lemma =>
          refine WC.seq ?_
          refine WC.region ?_
          have hV1 : VI V A1 [j1] := hF.vi.ar (f3.ref.perm (by simpa using (List.perm_middle (a := j1) (l₁ := V.rs.map RN.root) (l₂ := [])).symm)); have hrm := hF.room; have hhv := hF.val
          refine WL.r 3 rfl ?_
          refine WL.lit rfl rfl (u64s [hd]) el_31 hS (by exact ⟨rfl, rfl⟩) (u64s_ok _) rfl (by decide) (fun b1 w hS => ?_)
          replace hS := (hS.at_ 0 rfl).share
          replace hS : St g (Sh 37 1 (u64s [hd]) (some ⟨b1, 0, none⟩) (List.length (u64s [hd])) :: Arn a1 A1 :: Vst s1 a1 V :: Sh 46 2 (en2 t.ls) ua uc :: Sh 46 2 (en2 l) u d :: L) w := hS
          refine WL.call rfl rfl (vs_commit (s := s1) (a := a1) (V := V) (A := A1) (R := [j1]) (root := j1) (hs := [hd]) (pa := some ⟨b1, 0, none⟩) (pc := List.length (u64s [hd])) (hV := hV1) (hr := f3.is.ref) (hps := okPs_one hd) (hop := (fun x hx => by rw [List.mem_singleton.1 hx]; exact ⟨hF.rng, hF.opn⟩)) (hrm := (by omega)) (hla := (by omega)) (hlen := (by simp)) (hS := (hS.sel 3 [2, 1, 0] rfl))) rfl ?_
          clear hS; rintro _ w ⟨V2, rfl, hS, f4, f5⟩
          replace hS : St g (Vst s1 a1 V2 :: Arn a1 (A1.ret j1) :: Sh 37 1 (u64s [hd]) (some ⟨b1, 0, none⟩) (List.length (u64s [hd])) :: Sh 46 2 (en2 t.ls) ua uc :: Sh 46 2 (en2 l) u d :: L) w := hS
          refine WL.r 5 rfl ?_
          refine WL.nil ?_
          refine WC.seq ?_
          refine WC.region ?_
          have hcp := Com.pre hV1 f5; have had := Com.add1 hV1 f5 (by omega); have hrs2 : V2.rs.length = 2 := (by rw [hcp.2.2]; simp [hrs1]); have hp2 : ARf (A1.ret j1) (j1 :: (List.map RN.root V2.rs ++ [])) := f4.ref.perm (by simp); have hjr := f3.rng
          refine WL.r 1 rfl ?_
          refine WL.call rfl rfl (vs_arena (s := s1) (a := a1) (V := V2)  (hS := hS)) rfl ?_
          clear hS; rintro _ w ⟨rfl, hS⟩
          replace hS : St g (Vst s1 a1 V2 :: Arn a1 (A1.ret j1) :: Sh 37 1 (u64s [hd]) (some ⟨b1, 0, none⟩) (List.length (u64s [hd])) :: Sh 46 2 (en2 t.ls) ua uc :: Sh 46 2 (en2 l) u d :: L) w := hS
          refine WL.r 1 rfl ?_
          refine WL.call rfl rfl (tr_rel (a := a1) (A := A1.ret j1) (R := List.map RN.root V2.rs ++ []) (i := j1) (hA := hp2) (hR := (by simp [hrs2])) (hS := (hS.sel 2 [1, 0] rfl))) rfl ?_
          clear hS; rintro _ w ⟨A2, f6, rfl, hS, f7, f8⟩
          replace hS : St g (Arn a1 A2 :: Vst s1 a1 V2 :: Sh 37 1 (u64s [hd]) (some ⟨b1, 0, none⟩) (List.length (u64s [hd])) :: Sh 46 2 (en2 t.ls) ua uc :: Sh 46 2 (en2 l) u d :: L) w := hS
          refine WL.r 5 rfl ?_
          refine WL.nil ?_
          as_aux_lemma =>
            refine WC.seq ?_
            refine WC.region ?_
            refine WL.r 2 rfl ?_
            refine WL.call rfl rfl (vs_release (s := s1) (a := a1) (V := V2) (A := A2) (R := []) (h := hd) (hV := f4.ar f7.ref) (hh := hF.rng) (hn := (had.old hd hF.opn).1) (hlen := (by simp)) (hS := (hS.sel 2 [1, 0] rfl))) rfl ?_
            clear hS; rintro _ w ⟨V3, A3, f9, rfl, hS, f10, f11, f12, f13⟩
            replace hS : St g (Vst s1 a1 V3 :: Arn a1 A3 :: Sh 37 1 (u64s [hd]) (some ⟨b1, 0, none⟩) (List.length (u64s [hd])) :: Sh 46 2 (en2 t.ls) ua uc :: Sh 46 2 (en2 l) u d :: L) w := hS
            refine WL.r 5 rfl ?_
            refine WL.nil ?_
            refine WC.seq ?_
            refine WC.seq ?_
            refine WC.region ?_
            have hok2 := Tr.ins_ok e.1 e.2 t hF.ok; have hls2 := Tr.ins_ls e.1 e.2 t hF.srt; have hsr2 : Srt (Tr.ins e.1 e.2 t).ls := (by rw [hls2]; exact lins_srt hF.srt); obtain ⟨hF2, hla2⟩ := FvS.step hF f3 hok2 hsr2 f5 f4 f7 f11 f10 f13 f12.2; have hus2 := hF2.used; obtain ⟨ss, hss1, hss2, hss3⟩ := keysR_ex f10.k; have hssl : ss.length = 1 := (by rw [hss1.length_eq, List.length_map]; obtain ⟨b, hb⟩ := hF2.rs; rw [hb]; rfl); have hinn := Tr.ins_n e.1 e.2 t; have hinl : (Tr.ins e.1 e.2 t).n ≤ t.n + 1 := (by split at hinn <;> omega); have hlen2 := Tr.ls_len (Tr.ins e.1 e.2 t)
            refine WL.r 2 rfl ?_
            refine WL.rG 20 rfl (fun j => ?_)
            refine WL.prop 116 rfl (bor (bor (bor (bor (bor (dd _) (dd _)) (dd _)) (dd _)) (dd _)) (dd _)) ?_
            refine WL.nil ?_
            refine WC.ifF rfl (decide_eq_false ((by simp))) ?_
            refine WC.skip ?_
            refine WC.seq ?_
            refine WC.region ?_
            refine WL.r 4 rfl ?_
            refine WL.ix rfl rfl (i := (k : Int)) (k) el_36 rfl rfl (by omega) (by omega) (hS.rdS 4 rfl (en2_at he)).1 ?_
            refine WL.ldC rfl rfl [.int .i64 e.1, .int .i64 e.2] ag_46 rfl (hS.rdS 4 rfl (en2_at he)).2 ?_
            refine WL.call rfl rfl (ref_ins (l := t.ls) (u := ua) (d := uc) (k := e.1) (z := e.2) (hs := hF.srt) (hl := (by rw [Tr.ls_len]; omega)) (hS := (hS.sel 4 [3, 0, 0, 0] rfl))) rfl ?_
            clear hS; rintro _ w ⟨a2, c1, rfl, hS⟩
            replace hS : St g (Own 46 2 (en2 (lins e.1 e.2 t.ls)) a2 c1 :: Sh 46 2 (en2 t.ls) ua uc :: Vst s1 a1 V3 :: Arn a1 A3 :: Sh 37 1 (u64s [hd]) (some ⟨b1, 0, none⟩) (List.length (u64s [hd])) :: Sh 46 2 (en2 l) u d :: L) w := hS
            refine WL.r 2 rfl ?_
            refine WL.nil ?_
            as_aux_lemma =>
              refine WC.seq ?_
              refine WC.region ?_
              refine WL.reb 7 (.slice a2 (en2 (Tr.ins e.1 e.2 t).ls).length c1) (congrArg (fun m => Value.slice a2 m c1) (by rw [hls2])) ?_
              refine WL.r 1 rfl ?_
              refine WL.call rfl rfl (vs_ret (s := s1) (a := a1) (V := V3) (ss := ss) (hk := f10.k) (hp := hss1) (hs := hss2.imp (fun h => by omega)) (hS := (hS.sel 3 [2, 0, 0] rfl))) rfl ?_
              clear hS; rintro _ w ⟨a3, c2, rfl, hS⟩
              replace hS : St g (Own 3 1 (i64s ss) a3 c2 :: Vst s1 a1 V3 :: Own 46 2 (en2 (lins e.1 e.2 t.ls)) a2 c1 :: Sh 46 2 (en2 t.ls) ua uc :: Arn a1 A3 :: Sh 37 1 (u64s [hd]) (some ⟨b1, 0, none⟩) (List.length (u64s [hd])) :: Sh 46 2 (en2 l) u d :: L) w := hS
              refine WL.r 3 rfl ?_
              refine WL.reb 128 (.bool false) (congrArg Value.bool (decide_eq_false ((by rw [i64s_len, hssl]; simp)))) ?_
              refine WL.ung rfl rfl rfl ?_
              refine WL.r 1 rfl ?_
              refine WL.ung rfl rfl rfl ?_
              refine WL.call rfl rfl (vs_arena (s := s1) (a := a1) (V := V3)  (hS := (hS.sel 2 [1, 0] rfl))) rfl ?_
              clear hS; rintro _ w ⟨rfl, hS⟩
              replace hS : St g (Vst s1 a1 V3 :: Own 3 1 (i64s ss) a3 c2 :: Own 46 2 (en2 (lins e.1 e.2 t.ls)) a2 c1 :: Sh 46 2 (en2 t.ls) ua uc :: Arn a1 A3 :: Sh 37 1 (u64s [hd]) (some ⟨b1, 0, none⟩) (List.length (u64s [hd])) :: Sh 46 2 (en2 l) u d :: L) w := hS
              refine WL.ung rfl rfl rfl ?_
              refine WL.call rfl rfl (ar_cap (a := a1) (A := A3) (hA := f10.ref.toAWf) (hS := (hS.sel 5 [4, 0, 0, 0, 0] rfl))) rfl ?_
              clear hS; rintro _ w ⟨rfl, hS⟩
              replace hS : St g (Arn a1 A3 :: Vst s1 a1 V3 :: Own 3 1 (i64s ss) a3 c2 :: Own 46 2 (en2 (lins e.1 e.2 t.ls)) a2 c1 :: Sh 46 2 (en2 t.ls) ua uc :: Sh 37 1 (u64s [hd]) (some ⟨b1, 0, none⟩) (List.length (u64s [hd])) :: Sh 46 2 (en2 l) u d :: L) w := hS
              refine WL.ung rfl rfl rfl ?_
              refine WL.r 1 rfl ?_
              refine WL.ung rfl rfl rfl ?_
              refine WL.call rfl rfl (vs_arena (s := s1) (a := a1) (V := V3)  (hS := (hS.sel 2 [1, 0] rfl))) rfl ?_
              clear hS; rintro _ w ⟨rfl, hS⟩
              replace hS : St g (Vst s1 a1 V3 :: Arn a1 A3 :: Own 3 1 (i64s ss) a3 c2 :: Own 46 2 (en2 (lins e.1 e.2 t.ls)) a2 c1 :: Sh 46 2 (en2 t.ls) ua uc :: Sh 37 1 (u64s [hd]) (some ⟨b1, 0, none⟩) (List.length (u64s [hd])) :: Sh 46 2 (en2 l) u d :: L) w := hS
              refine WL.ung rfl rfl rfl ?_
              refine WL.call rfl rfl (ar_free (a := a1) (A := A3) (hA := f10.ref.toAWf) (hS := (hS.sel 2 [1, 0] rfl))) rfl ?_
              clear hS; rintro _ w ⟨rfl, hS⟩
              replace hS : St g (Arn a1 A3 :: Vst s1 a1 V3 :: Own 3 1 (i64s ss) a3 c2 :: Own 46 2 (en2 (lins e.1 e.2 t.ls)) a2 c1 :: Sh 46 2 (en2 t.ls) ua uc :: Sh 37 1 (u64s [hd]) (some ⟨b1, 0, none⟩) (List.length (u64s [hd])) :: Sh 46 2 (en2 l) u d :: L) w := hS
              refine WL.ung rfl rfl rfl ?_
              refine WL.r 1 rfl ?_
              refine WL.nw 135 rfl (w64 (by omega)) ?_
              refine WL.ung rfl rfl rfl ?_
              refine WL.r 1 rfl ?_
              refine WL.ung rfl rfl rfl ?_
              refine WL.r 1 rfl ?_
              refine WL.ung rfl rfl rfl ?_
              refine WL.r 2 rfl ?_
              refine WL.nil ?_
              as_aux_lemma =>
                refine WC.ifF rfl (decide_eq_false ((by rw [en2_len, hlen2]; omega))) ?_
                refine WC.skip ?_
                refine WC.region ?_
                refine WL.r 2 rfl ?_
                refine WL.nw 54 rfl (w64 (by omega)) ?_
                refine WL.r 1 rfl ?_
                refine WL.nil ?_
                rw [← hls2] at hS
                replace hS := (hS.sel 6 [3, 1, 0] rfl).share
                replace hS : St g (Sh 46 2 (en2 (Tr.ins e.1 e.2 t).ls) a2 c1 :: Vst s1 a1 V3 :: Arn a1 A3 :: Sh 46 2 (en2 l) u d :: L) w := hS
                exact ⟨_, by omega, k + 1, V3, A3, V.T.newH, j1, Tr.ins e.1 e.2 t, a2, c1, rfl, hS, (by omega), (hF2), (by omega), (by rw [hla2, hla]; omega), rfl⟩
      · refine WC.exit ?_
        refine WC.seq ?_
        refine WC.region ?_
        refine WL.r 1 rfl ?_
        refine WL.nil ?_
        refine WC.ret ?_
        refine ⟨[.bool true], rfl, ?_⟩
        replace hS := (hS.sel 4 [] rfl)
        exact ⟨rfl, hS⟩
end Go.Proofs.Ytlnlnebibgdjdaa
