/-
  What the proof of Jsn stands on, part 4.
  Conditions: none.
-/
import Derived.Test.YtloebjlnmdjeiaaGreatDoorZsnC
/-! ## V4 -/
namespace Go.Proofs.YtloebjlnmdjeiaaGreatDoor
open Go Go.V Go.RowKit
structure Kept0 (V : VM) (xs2 : List VN) (ss : List Int) (k : Nat) (rs : List RN) : Prop where
  ok : KOk rK RN.n rs V.q2
  mem : ∀ r, r ∈ rs ↔ r ∈ V.rs ∧ (r.n ∈ ss.take k → preG xs2 r.n = true)
theorem Kept0.zero {V : VM} {A : AM} {R : List Int} (h : VI V A R) (xs2 : List VN) (ss : List Int) : Kept0 V xs2 ss 0 V.rs := ⟨h.k, fun r => by simp⟩
theorem Kept0.skip {V : VM} {xs2 : List VN} {ss : List Int} {k : Nat} {rs : List RN} {n : Int} (h : Kept0 V xs2 ss k rs) (hn : ss[k]? = some n) (hp : preG xs2 n = true) : Kept0 V xs2 ss (k + 1) rs := ⟨h.ok, fun r => by
  rw [h.mem r, List.take_add_one, hn]
  constructor
  · rintro ⟨h1, h2⟩
    refine ⟨h1, fun h3 => ?_⟩
    rcases List.mem_append.1 h3 with h3 | h3
    · exact h2 h3
    · rw [show r.n = n by simpa using h3]; exact hp
  · rintro ⟨h1, h2⟩; exact ⟨h1, fun h3 => h2 (List.mem_append_left _ h3)⟩⟩
theorem Kept0.at_ {V : VM} {xs2 : List VN} {ss : List Int} {k : Nat} {rs : List RN} {n : Int} (h : Kept0 V xs2 ss k rs) (hn : ss[k]? = some n) (hs : Asc ss) (hk : ∀ z, z ∈ ss ↔ ∃ r ∈ V.rs, r.n = z) : ∃ (j : Nat) (r : RN), rs[j]? = some r ∧ r.n = n := by
  obtain ⟨r, hr, hrn⟩ := (hk n).1 (List.mem_of_getElem? hn)
  have : r ∈ rs := (h.mem r).2 ⟨hr, fun h3 => by
    have := take_lt hs hn r.n h3
    omega⟩
  obtain ⟨j, hj⟩ := List.mem_iff_getElem?.1 this
  exact ⟨j, r, hj, hrn⟩
theorem Kept0.del {V : VM} {xs2 : List VN} {ss : List Int} {k j : Nat} {rs : List RN} {n : Int} {r : RN} (h : Kept0 V xs2 ss k rs) (hn : ss[k]? = some n) (hj : rs[j]? = some r) (hr : r.n = n) (hp : preG xs2 n = false) : Kept0 V xs2 ss (k + 1) (rs.eraseIdx j) := ⟨h.ok.erase j, fun x => by
  rw [erase_mem' h.ok.uniq hj x, h.mem x, List.take_add_one, hn, hr]
  constructor
  · rintro ⟨⟨h1, h2⟩, h3⟩
    refine ⟨h1, fun h4 => ?_⟩
    rcases List.mem_append.1 h4 with h4 | h4
    · exact h2 h4
    · exact absurd (show x.n = n by simpa using h4) h3
  · rintro ⟨h1, h2⟩
    refine ⟨⟨h1, fun h3 => h2 (List.mem_append_left _ h3)⟩, fun e => ?_⟩
    have := h2 (List.mem_append_right _ (by simp [e]))
    rw [e, hp] at this; cases this⟩
theorem erase_perm {rs : List RN} {j : Nat} {r : RN} (hj : rs[j]? = some r) (R : List Int) : (rs.map RN.root ++ R).Perm (r.root :: ((rs.eraseIdx j).map RN.root ++ R)) := by
  have h1 : rs.Perm (r :: rs.eraseIdx j) := by
    induction rs generalizing j with
    | nil => simp at hj
    | cons x t ih =>
      cases j with
      | zero => simp at hj; subst hj; exact List.Perm.refl _
      | succ j =>
        rw [List.getElem?_cons_succ] at hj
        rw [List.eraseIdx_cons_succ]
        exact (List.Perm.cons x (ih hj)).trans (List.Perm.swap _ _ _)
  have h2 := (h1.map RN.root).append_right R
  simpa using h2
structure Rls (V : VM) (h : Int) (V2 : VM) : Prop where
  eq : V2 = VM.mk (V.T.close h) V2.xs V.q V.last V2.rs V.q2 V.cap
  rel : RelQ V.xs (V.T.val h) V2.xs
  sub : ∀ r, r ∈ V2.rs ↔ r ∈ V.rs ∧ preG V2.xs r.n = true
theorem VI.rel {V : VM} {A A2 : AM} {R : List Int} {h : Int} {xs2 : List VN} {rs : List RN} {ss : List Int} (hV : VI V A R) (hn : V.T.s.opn h = true) (hG : GI xs2 V.q V.cap V.last) (hR : RelQ V.xs (V.T.val h) xs2) (hK : Kept0 V xs2 ss ss.length rs) (hk : ∀ z, z ∈ ss ↔ ∃ r ∈ V.rs, r.n = z)
    (hA : ARf A2 (rs.map RN.root ++ R)) : VI (VM.mk (V.T.close h) xs2 V.q V.last rs V.q2 V.cap) A2 R ∧ Rls V h (VM.mk (V.T.close h) xs2 V.q V.last rs V.q2 V.cap) := by
  have hop := SM.opn_ok hn
  have hlv0 := (VM.open_val hV hn).1
  have hsub : ∀ r, r ∈ rs ↔ r ∈ V.rs ∧ preG xs2 r.n = true := fun r => by
    rw [hK.mem r, List.take_of_length_le (Nat.le_refl _)]
    constructor
    · rintro ⟨h1, h2⟩; exact ⟨h1, h2 ((hk r.n).2 ⟨r, h1, rfl⟩)⟩
    · rintro ⟨h1, h2⟩; exact ⟨h1, fun _ => h2⟩
  have hcl : ∀ i : Int, 0 ≤ i → (V.T.close h).s.ok i = if i = h % 4294967296 then false else V.T.s.ok i := fun i hi => SM.release_ok' hV.t.s (by omega) hop.1 hi
  have hlive : ∀ z, liveG xs2 z = true ↔ liveG V.xs z = true ∧ z ≠ V.T.val h := fun z => by
    constructor
    · exact fun hz => RelQ.live hV.g.ok hR hz
    · rintro ⟨h1, h2⟩
      rcases hR with ⟨_, xs1, N, e1, e2, e3⟩ | ⟨h3, _⟩
      · have q1 : liveG xs1 z = true := by
          rw [live_vw, e1]; unfold dead; rw [if_neg h2, ← live_vw]; exact h1
        rw [live_vw, e3]; unfold keep; rw [if_pos ((e2 z).2 (.inl q1))]
        rw [live_vw] at q1
        cases hv : vw xs1 z with
        | none => rw [hv] at q1; cases q1
        | some p => rw [hv] at q1; simpa using q1
      · rw [hlv0] at h3; cases h3
  have hpre : ∀ z, preG xs2 z = true → preG V.xs z = true := fun z hz => by
    rcases hR with ⟨_, xs1, N, e1, e2, e3⟩ | ⟨_, h4⟩
    · rw [pre_vw, e3] at hz
      unfold keep at hz
      split at hz
      · rw [pre_vw]
        rw [← dead_iss (vw V.xs) (V.T.val h) z, ← e1]
        simpa using hz
      · cases hz
    · rw [h4] at hz; exact hz
  refine ⟨⟨hV.t.close hn, hG, hK.ok, fun z => ?_, fun i hi ho => ?_, fun i j hi hj ho ho2 e => ?_, fun z hz => ?_, hA, ?_⟩, ⟨rfl, hR, hsub⟩⟩
  · constructor
    · rintro ⟨r, hr, e⟩; rw [← e]; exact ((hsub r).1 hr).2
    · intro hz
      obtain ⟨r, hr, e⟩ := (hV.pre z).2 (hpre z hz)
      exact ⟨r, (hsub r).2 ⟨hr, by rw [e]; exact hz⟩, e⟩
  · rw [show (VM.mk (V.T.close h) xs2 V.q V.last rs V.q2 V.cap).T.s.ok i = _ from hcl i hi] at ho
    split at ho
    · cases ho
    · rename_i hne
      refine (hlive _).2 ⟨hV.lv i hi ho, fun e => hne ?_⟩
      exact hV.inj i (h % 4294967296) hi (by omega) ho hop.1 e
  · rw [show (VM.mk (V.T.close h) xs2 V.q V.last rs V.q2 V.cap).T.s.ok i = _ from hcl i hi] at ho
    rw [show (VM.mk (V.T.close h) xs2 V.q V.last rs V.q2 V.cap).T.s.ok j = _ from hcl j hj] at ho2
    split at ho
    · cases ho
    · split at ho2
      · cases ho2
      · exact hV.inj i j hi hj ho ho2 e
  · obtain ⟨h1, h2⟩ := (hlive z).1 hz
    obtain ⟨i, i0, i1, i2⟩ := hV.all z h1
    refine ⟨i, i0, ?_, i2⟩
    rw [show (VM.mk (V.T.close h) xs2 V.q V.last rs V.q2 V.cap).T.s.ok i = _ from hcl i i0, if_neg (fun e => h2 ?_)]
    · exact i1
    · rw [← i2, e]; rfl
  · rw [← hV.cp]
    show (((V.T.s.used.set _ _).length : Nat) : Int) - 1 = (V.T.s.used.length : Int) - 1
    rw [List.length_set]
set_option maxHeartbeats 1000000 in
set_option maxRecDepth 8192 in
theorem vs_release {g w : World} {L : List HP} (s a : Nat) (V : VM) (A : AM) (R : List Int) (h : Int) (hV : VI V A R) (hh : 0 ≤ h ∧ h ≤ 18446744073709551615) (hn : V.T.s.opn h = true) (hlen : R.length ≤ 800000000) (hS : St g (Vst s a V :: Arn a A :: L) w) :
    Sp Tryz.prog 30 [.pointer (some ⟨s, 0, none⟩), .int .u64 h] w (fun v w' => ∃ (V2 : VM) (A2 : AM) (f : Int), v = .tuple #[.int .i64 f, .int .i64 0] ∧ St g (Vst s a V2 :: Arn a A2 :: L) w' ∧ (VI V2 A2 R) ∧ (Rls V h V2) ∧ (f = A2.s.free - A.s.free ∧ A2.s.used.length = A.s.used.length) ∧ (Kp A A2 (V2.rs.map RN.root ++ R))) := by
  refine Sp.enter Tryz.func30 rfl (by kernel_rfl) (by kernel_rfl) ?_
  have _ := hlen
  refine WC.seq ?_
  refine WC.region ?_
  obtain ⟨⟨vt, vp, vm, vr⟩, hS⟩ := St.exOpen (f := vstF s a V) hS
  replace hS : St g (cel s #[.pointer (some ⟨a, 0, none⟩), .pointer (some ⟨vt, 0, none⟩), .pointer (some ⟨vp, 0, none⟩), .map (some vr), .int .i64 V.cap] 83 :: Tbl vt V.T :: cel vp #[.int .i64 V.cap, .int .i64 V.last, .map (some vm)] 118 :: blk vm (.map (mE (List.map vK V.xs)) V.q) :: Shs vF V.xs :: blk vr (.map (mE (List.map rK V.rs)) V.q2) :: Arn a A :: L) w := hS
  refine WL.r 2 rfl ?_
  refine WL.nil ?_
  refine WC.seq ?_
  refine WC.region ?_
  refine WL.run 5 [.pointer (some ⟨vt, 0, none⟩)] rfl (by exact hS.ld 0 rfl rfl) ?_
  refine WL.call rfl rfl (tb_close_ok (t := vt) (T := V.T) (h := h) (hT := hV.t) (hh := hh) (hn := hn) (hS := (hS.sel 2 [1, 0] rfl))) rfl ?_
  clear hS; rintro _ w ⟨rfl, hS⟩
  replace hS : St g (Tbl vt (V.T.close h) :: cel s #[.pointer (some ⟨a, 0, none⟩), .pointer (some ⟨vt, 0, none⟩), .pointer (some ⟨vp, 0, none⟩), .map (some vr), .int .i64 V.cap] 83 :: cel vp #[.int .i64 V.cap, .int .i64 V.last, .map (some vm)] 118 :: blk vm (.map (mE (List.map vK V.xs)) V.q) :: Shs vF V.xs :: blk vr (.map (mE (List.map rK V.rs)) V.q2) :: Arn a A :: L) w := hS
  refine WL.r 5 rfl ?_
  refine WL.nil ?_
  refine WC.seq ?_
  refine WC.seq ?_
  refine WC.region ?_
  refine WL.r 2 rfl ?_
  refine WL.nil ?_
  refine WC.ifF rfl (decide_eq_false ((by decide))) ?_
  refine WC.skip ?_
  refine WC.seq ?_
  refine WC.region ?_
  have hvr := hV.t.val_rng h
  refine WL.run 7 [.pointer (some ⟨vp, 0, none⟩)] rfl (by exact hS.ld 1 rfl rfl) ?_
  refine WL.nw 31 rfl (w64 (by omega)) ?_
  refine WL.call rfl rfl (rel_spec (p := vp) (m := vm) (cap := V.cap) (last := V.last) (xs := V.xs) (q := V.q) (n := V.T.val h) (hI := hV.g) (hS := (hS.sel 5 [2, 2, 2, 0, 0] rfl))) rfl ?_
  clear hS; rintro _ w ⟨xs1, rfl, hS, f1, f2⟩
  replace hS : St g (cel vp #[.int .i64 V.cap, .int .i64 V.last, .map (some vm)] 118 :: blk vm (.map (mE (List.map vK xs1)) V.q) :: Shs vF xs1 :: Tbl vt (V.T.close h) :: cel s #[.pointer (some ⟨a, 0, none⟩), .pointer (some ⟨vt, 0, none⟩), .pointer (some ⟨vp, 0, none⟩), .map (some vr), .int .i64 V.cap] 83 :: blk vr (.map (mE (List.map rK V.rs)) V.q2) :: Arn a A :: L) w := hS
  refine WL.nil ?_
  as_aux_lemma =>
    refine WC.seq ?_
    refine WC.region ?_
    have hru := rs_len hV; have hgn := hV.g.ok.num; obtain ⟨ss, hss1, hss2, hss3⟩ := keysR_ex hV.k; have hssl : ss.length = V.rs.length := (by rw [hss1.length_eq, List.length_map]); have hsl := i64s_len ss
    replace hS := St.exClose (f := vstF s a (VM.mk (V.T.close h) xs1 V.q V.last V.rs V.q2 V.cap)) (L := Arn a A :: L) ⟨vt, vp, vm, vr⟩ ((hS.sel 5 [4, 3, 0, 0, 0] rfl))
    replace hS : St g (Vst s a (VM.mk (V.T.close h) xs1 V.q V.last V.rs V.q2 V.cap) :: Arn a A :: L) w := hS
    refine WL.r 1 rfl ?_
    refine WL.nil ?_
    refine WC.seq ?_
    refine WC.seq ?_
    refine WC.region ?_
    refine WL.r 1 rfl ?_
    refine WL.call rfl rfl (vs_ret (s := s) (a := a) (V := VM.mk (V.T.close h) xs1 V.q V.last V.rs V.q2 V.cap) (ss := ss) (hk := hV.k) (hp := hss1) (hs := hss2.imp (fun h => by omega)) (hS := hS)) rfl ?_
    clear hS; rintro _ w ⟨a1, c1, rfl, hS⟩
    replace hS : St g (Own 3 1 (i64s ss) a1 c1 :: Vst s a (VM.mk (V.T.close h) xs1 V.q V.last V.rs V.q2 V.cap) :: Arn a A :: L) w := hS
    refine WL.r 2 rfl ?_
    refine WL.nil ?_
    refine WC.block ?_
    refine WC.loop [0, 4, 5, 8, 34, 35, 36] (fun kM vs w => ∃ (k : Nat) (rs : List RN) (B : AM) (fr : Int), vs = [.pointer (some ⟨s, 0, none⟩), .int .i64 0, .int .i64 0, .int .i64 fr, .slice a1 (List.length (i64s ss)) c1, .int .i64 (List.length (i64s ss) : Int), .int .i64 (k : Int)] ∧ St g (Own 3 1 (i64s ss) a1 c1 :: Vst s a (VM.mk (V.T.close h) xs1 V.q V.last rs V.q2 V.cap) :: Arn a B :: L) w ∧ (k ≤ ss.length) ∧ (Kept0 V xs1 ss k rs) ∧ (ARf B (rs.map RN.root ++ R)) ∧ (Kp A B (rs.map RN.root ++ R)) ∧ (fr = B.s.free - A.s.free) ∧ (B.s.used.length = A.s.used.length) ∧ (ss.length - k) = kM) ((List.length ss) - 0) ⟨0, V.rs, A, 0, rfl, hS, (Nat.zero_le _), (Kept0.zero hV xs1 ss), (hV.ref), (Kp.refl _ _), (by omega), (rfl), rfl⟩ ?_
    clear hS; rintro _ _ w j ⟨k, rs, B, fr, rfl, hS, hk, hK, hB, hP, hf, hu, rfl⟩
    refine WC.seq ?_
    refine WC.region ?_
    refine WL.r 1 rfl ?_
    refine WL.nil ?_
    refine WC.seq ?_
    refine WC.ifP rfl (fun cd1 => ?_) (fun cd1 => ?_)
    · refine WC.skip ?_
      as_aux_lemma =>
        refine WC.seq ?_
        refine WC.block ?_
        refine WC.seq ?_
        refine WC.region ?_
        obtain ⟨z, hz⟩ : ∃ u, ss[k]? = some u := ⟨_, List.getElem?_eq_getElem (by omega)⟩; obtain ⟨j, r, hj, hrn⟩ := hK.at_ hz hss2 hss3; have hfB := hB.s.free_rng; have hfA := hV.ref.s.free_rng; have hrsl := hK.ok.num
        refine WL.ix rfl rfl (i := (k : Int)) (k) el_102 rfl rfl (by omega) (by omega) (hS.rdO 0 rfl (i64s_at hz)).1 ?_
        refine WL.run 2 [.int .i64 z] rfl (by exact (hS.rdO 0 rfl (i64s_at hz)).2 0 _ rfl) ?_
        refine WL.nil ?_
        refine WC.seq ?_
        refine WC.seq ?_
        refine WC.region ?_
        obtain ⟨⟨vt, vp, vm, vr⟩, hS⟩ := St.exOpen (f := vstF s a (VM.mk (V.T.close h) xs1 V.q V.last rs V.q2 V.cap)) (hS.at_ 1 rfl)
        replace hS : St g (cel s #[.pointer (some ⟨a, 0, none⟩), .pointer (some ⟨vt, 0, none⟩), .pointer (some ⟨vp, 0, none⟩), .map (some vr), .int .i64 V.cap] 83 :: Tbl vt (V.T.close h) :: cel vp #[.int .i64 V.cap, .int .i64 V.last, .map (some vm)] 118 :: blk vm (.map (mE (List.map vK xs1)) V.q) :: Shs vF xs1 :: blk vr (.map (mE (List.map rK rs)) V.q2) :: Own 3 1 (i64s ss) a1 c1 :: Arn a B :: L) w := hS
        refine WL.run 6 [.pointer (some ⟨vp, 0, none⟩)] rfl (by exact hS.ld 0 rfl rfl) ?_
        refine WL.call rfl rfl (pre_spec (p := vp) (m := vm) (cap := V.cap) (last := V.last) (xs := xs1) (q := V.q) (n := z) (hu := f1.ok.uniq) (hS := (hS.sel 5 [2, 2, 2, 0, 0] rfl))) rfl ?_
        clear hS; rintro _ w ⟨rfl, hS⟩
        replace hS : St g (cel vp #[.int .i64 V.cap, .int .i64 V.last, .map (some vm)] 118 :: blk vm (.map (mE (List.map vK xs1)) V.q) :: Shs vF xs1 :: cel s #[.pointer (some ⟨a, 0, none⟩), .pointer (some ⟨vt, 0, none⟩), .pointer (some ⟨vp, 0, none⟩), .map (some vr), .int .i64 V.cap] 83 :: Tbl vt (V.T.close h) :: blk vr (.map (mE (List.map rK rs)) V.q2) :: Own 3 1 (i64s ss) a1 c1 :: Arn a B :: L) w := hS
        refine WL.nil ?_
        refine WC.if_ rfl (fun cd2 => ?_) (fun cd2 => ?_)
        · refine WC.exit ?_
          refine WC.region ?_
          refine WL.r 1 rfl ?_
          refine WL.nw 71 rfl (w64 (by omega)) ?_
          refine WL.r 1 rfl ?_
          refine WL.nil ?_
          replace hS := St.exClose (f := vstF s a (VM.mk (V.T.close h) xs1 V.q V.last rs V.q2 V.cap)) (L := Own 3 1 (i64s ss) a1 c1 :: Arn a B :: L) ⟨vt, vp, vm, vr⟩ ((hS.sel 5 [3, 3, 0, 0, 0] rfl))
          replace hS : St g (Vst s a (VM.mk (V.T.close h) xs1 V.q V.last rs V.q2 V.cap) :: Own 3 1 (i64s ss) a1 c1 :: Arn a B :: L) w := hS
          exact ⟨_, by omega, k + 1, rs, B, fr, rfl, (hS.sel 2 [1, 0] rfl), (by omega), (hK.skip hz cd2), (hB), (hP), (hf), (hu), rfl⟩
        · refine WC.skip ?_
          refine WC.seq ?_
          refine WC.plan [([0, 4, 9, 1, 5, 2, 6, 3, 7, 8, 10], some (11, [])), ([12, 13, 14, 15, 16], none)] (by kernel_rfl) (by kernel_rfl) ?_
          have hBp := hB.perm (erase_perm hj R); have hel := List.length_eraseIdx_le rs j
          refine WQ.run 10 [.pointer (some ⟨a, 0, none⟩), .map (some vr)] rfl (by exact ⟨hS.ld 3 rfl rfl, hS.ld 3 rfl rfl⟩) ?_
          refine WQ.lk rfl rfl mt_79 5 hS rfl rfl rfl (by first | trivial | rfl) (r := some (j, .int .u32 r.root)) (hrn ▸ ki_in hK.ok.key hK.ok.uniq hj) rfl ?_
          refine WQ.nil ?_
          intro m1
          replace hS := hS.drewN m1; generalize hwm1 : World.drewN _ _ = w at *; clear hwm1
          refine WL.call rfl rfl (ar_rel (a := a) (A := B) (R := List.map RN.root (rs.eraseIdx j) ++ R) (i := r.root) (hA := hBp) (hR := (by rw [List.length_append, List.length_map]; omega)) (hS := (hS.sel 8 [7, 0, 0, 0, 0, 0, 0, 0] rfl))) rfl ?_
          clear hS; rintro _ w ⟨A1, f3, rfl, hS, f4, f5, f6⟩
          replace hS : St g (Arn a A1 :: cel vp #[.int .i64 V.cap, .int .i64 V.last, .map (some vm)] 118 :: blk vm (.map (mE (List.map vK xs1)) V.q) :: Shs vF xs1 :: cel s #[.pointer (some ⟨a, 0, none⟩), .pointer (some ⟨vt, 0, none⟩), .pointer (some ⟨vp, 0, none⟩), .map (some vr), .int .i64 V.cap] 83 :: Tbl vt (V.T.close h) :: blk vr (.map (mE (List.map rK rs)) V.q2) :: Own 3 1 (i64s ss) a1 c1 :: L) w := hS
          refine WL.nil ?_
          refine ⟨by exact trivial, ?_⟩
          refine WQ.r 5 rfl ?_
          refine WQ.nil ?_
          intro m2
          replace hS := hS.drewN m2; generalize hwm2 : World.drewN _ _ = w at *; clear hwm2
          as_aux_lemma =>
            refine WC.seq ?_
            refine WC.region ?_
            refine WL.r 3 rfl ?_
            refine WL.reb 64 (.int .i64 (A1.s.free - A.s.free)) (congrArg (Value.int .i64) (by have hf1 := f6.1; have hfC := f4.s.free_rng; rw [w64 (by omega)]; omega)) ?_
            refine WL.r 1 rfl ?_
            refine WL.nil ?_
            refine WC.region ?_
            refine WL.run 6 [.map (some vr)] rfl (by exact hS.ld 4 rfl rfl) ?_
            refine WL.del rfl rfl mt_79 6 hS rfl rfl rfl (by first | trivial | rfl) (j := j) (v := .int .u32 r.root) (hrn ▸ ki_in hK.ok.key hK.ok.uniq hj) (by rw [List.length_map]; exact (List.getElem?_eq_some_iff.1 hj).1) (fun w hS => ?_)
            replace hS : St g (Arn a A1 :: cel vp #[.int .i64 V.cap, .int .i64 V.last, .map (some vm)] 118 :: blk vm (.map (mE (List.map vK xs1)) V.q) :: Shs vF xs1 :: cel s #[.pointer (some ⟨a, 0, none⟩), .pointer (some ⟨vt, 0, none⟩), .pointer (some ⟨vp, 0, none⟩), .map (some vr), .int .i64 V.cap] 83 :: Tbl vt (V.T.close h) :: blk vr (.map (mE (List.eraseIdx (List.map rK rs) j)) V.q2) :: Own 3 1 (i64s ss) a1 c1 :: L) w := hS
            refine WL.nil ?_
            refine WC.region ?_
            refine WL.r 1 rfl ?_
            refine WL.nw 71 rfl (w64 (by omega)) ?_
            refine WL.r 1 rfl ?_
            refine WL.nil ?_
            replace hS := St.exClose (f := vstF s a (VM.mk (V.T.close h) xs1 V.q V.last (rs.eraseIdx j) V.q2 V.cap)) (L := Arn a A1 :: Own 3 1 (i64s ss) a1 c1 :: L) ⟨vt, vp, vm, vr⟩ (by
              have hm : (List.map rK rs).eraseIdx j = List.map rK (rs.eraseIdx j) := by simp [List.eraseIdx_eq_take_drop_succ]
              rw [hm] at hS
              exact (hS.sel 7 [4, 4, 1, 1, 1, 1, 0] rfl))
            replace hS : St g (Vst s a (VM.mk (V.T.close h) xs1 V.q V.last (rs.eraseIdx j) V.q2 V.cap) :: Arn a A1 :: Own 3 1 (i64s ss) a1 c1 :: L) w := hS
            exact ⟨_, by omega, k + 1, rs.eraseIdx j, A1, A1.s.free - A.s.free, rfl, (hS.sel 3 [2, 0, 0] rfl), (by omega), (hK.del hz hj hrn (by simpa using cd2)), (f4), (Kp.trans (fun x hx => hP x (by rw [(erase_perm hj R).mem_iff]; exact List.mem_cons_of_mem _ hx)) (f5.kp f4)), (rfl), (by have := f5.cap; omega), rfl⟩
    · refine WC.exit ?_
      as_aux_lemma =>
        refine WC.seq ?_
        refine WC.region ?_
        have hke : k = ss.length := by omega
        refine WL.r 3 rfl ?_
        refine WL.nil ?_
        refine WC.ret ?_
        refine ⟨[.int .i64 fr, .int .i64 0], ⟨rfl, rfl⟩, ?_⟩
        replace hS := (hS.sel 1 [] rfl)
        subst hke; obtain ⟨h1, h2⟩ := VI.rel hV hn f1 f2 hK hss3 hB; exact ⟨_, _, _, rfl, hS, h1, h2, ⟨hf, hu⟩, hP⟩
end Go.Proofs.YtloebjlnmdjeiaaGreatDoor
/-! ## V5 -/
namespace Go.Proofs.YtloebjlnmdjeiaaGreatDoor
open Go Go.V Go.RowKit
theorem Com.get {V V2 : VM} {root : Int} {ps : List Int} (h : Com V root ps V2) : V2.T = V.T.open (V.last + 1) ∧ V2.last = V.last + 1 ∧ V2.cap = V.cap ∧ AddP V.xs V.cap V.last ps V2.xs (V.last + 1) ∧ V2.xs.length = V.xs.length + 1 ∨ (∃ x ∈ V.xs, V.last < x.n) := by
  obtain ⟨⟨xs2, q, rfl, hA⟩, h0⟩ := h
  by_cases hx : ∃ x ∈ V.xs, V.last < x.n
  · exact .inr hx
  · left
    have hle : ∀ x ∈ V.xs, x.n ≤ V.last := fun x hm => Classical.byContradiction fun h => hx ⟨x, hm, by omega⟩
    exact ⟨rfl, rfl, rfl, hA, ((AddP.facts hle hA).resolve_left fun e => e.1 h0).2.2.2.2.2⟩
structure Add1 (V : VM) (ps : List Int) (V2 : VM) : Prop where
  T : V2.T = V.T.open (V.last + 1)
  la : V2.last = V.last + 1
  cap : V2.cap = V.cap
  xs : AddP V.xs V.cap V.last ps V2.xs (V.last + 1)
  len : V2.xs.length = V.xs.length + 1
  opn : V2.T.s.opn V.T.newH = true
  val : V2.T.val V.T.newH = V.last + 1
  rng : 0 ≤ V.T.newH ∧ V.T.newH ≤ 18446744073709551615
  free : V2.T.s.free = V.T.s.free - 1
  old : ∀ x, V.T.s.opn x = true → V2.T.s.opn x = true ∧ V2.T.val x = V.T.val x
theorem Com.add1 {V V2 : VM} {A : AM} {R ps : List Int} {root : Int} (hV : VI V A R) (h : Com V root ps V2) (hr : 0 < V.room) : Add1 V ps V2 := by
  obtain ⟨h1, h2, h3, h4, h5⟩ := h.get.resolve_right (fun ⟨x, hx, hlt⟩ => by have := hV.g.le x hx; omega)
  have hf := (room_pos hV hr).2
  have h6 := hV.t.newH_opn hf (V.last + 1)
  refine ⟨h1, h2, h3, h4, h5, by rw [h1]; exact h6.1, by rw [h1]; exact h6.2, (TM.newH_mod hV.t hf).2, by rw [h1]; exact SM.alloc_free _, fun x hx => ?_⟩
  rw [h1]
  exact hV.t.opn_open hf _ hx
theorem room_new {n : Nat} : (VM.new n).room = n := by
  unfold VM.room
  show min ((n : Int) - 0) ((n : Int) - ((SM.new n).cap - (SM.new n).free)) = n
  rw [SM.new_free]
  have : (SM.new n).cap = n := by unfold SM.cap SM.new; simp
  rw [this]; omega
set_option maxRecDepth 8192 in
theorem vs_arena {g w : World} {L : List HP} (s a : Nat) (V : VM) (hS : St g (Vst s a V :: L) w) :
    Sp Tryz.prog 37 [.pointer (some ⟨s, 0, none⟩)] w (fun v w' => v = .pointer (some ⟨a, 0, none⟩) ∧ St g (Vst s a V :: L) w') := by
  refine Sp.enter Tryz.func37 rfl (by kernel_rfl) (by kernel_rfl) ?_
  refine WC.seq ?_
  refine WC.region ?_
  obtain ⟨⟨vt, vp, vm, vr⟩, hS⟩ := St.exOpen (f := vstF s a V) hS
  replace hS : St g (cel s #[.pointer (some ⟨a, 0, none⟩), .pointer (some ⟨vt, 0, none⟩), .pointer (some ⟨vp, 0, none⟩), .map (some vr), .int .i64 V.cap] 83 :: Tbl vt V.T :: cel vp #[.int .i64 V.cap, .int .i64 V.last, .map (some vm)] 118 :: blk vm (.map (mE (List.map vK V.xs)) V.q) :: Shs vF V.xs :: blk vr (.map (mE (List.map rK V.rs)) V.q2) :: L) w := hS
  refine WL.r 1 rfl ?_
  refine WL.nil ?_
  refine WC.seq ?_
  refine WC.region ?_
  refine WL.run 5 [.pointer (some ⟨a, 0, none⟩)] rfl (by exact hS.ld 0 rfl rfl) ?_
  refine WL.nil ?_
  refine WC.ret ?_
  replace hS := St.exClose (f := vstF s a V) (L := L) ⟨vt, vp, vm, vr⟩ (hS)
  replace hS : St g (Vst s a V :: L) w := hS
  refine ⟨[.pointer (some ⟨a, 0, none⟩)], rfl, ?_⟩
  exact ⟨rfl, hS⟩
end Go.Proofs.YtloebjlnmdjeiaaGreatDoor
/-! ## Stb -/
namespace Go.V
open Go Go.RowKit Go.Maps
structure StoA where
  nm : Nat
  c : Nat
  x : Nat
  m : Nat
def stoF (p s a : Nat) (V : VM) (y : StoA) : List HP := [cel p #[.pointer (some ⟨s, 0, none⟩), .pointer (some ⟨y.nm, 0, none⟩), .pointer (some ⟨y.c, 0, none⟩), .pointer (some ⟨y.x, 0, none⟩), .map (some y.m)] 49, Vst s a V, blk y.m (.map (mE []) 0)]
def Sto (p s a : Nat) (V : VM) : HP := ExB (stoF p s a V)
end Go.V
/-! ## Sc1 -/
namespace Go.Proofs.YtloebjlnmdjeiaaGreatDoor
open Go Go.V Go.RowKit Go.Maps
set_option maxRecDepth 8192 in
theorem nm_new0 {g w : World} {L : List HP} (hS : St g (L) w) :
    Sp Tryz.prog 13 [] w (fun v w' => ∃ (t : Nat), v = .pointer (some ⟨t, 0, none⟩) ∧ St g (L) w') := by
  refine Sp.enter Tryz.func13 rfl (by kernel_rfl) (by kernel_rfl) ?_
  refine WC.seq ?_
  refine WC.region ?_
  refine WL.r 1 rfl ?_
  refine WL.nil ?_
  refine WC.seq ?_
  refine WC.region ?_
  refine WL.mkM rfl rfl hS (fun b1 w hS => ?_)
  refine WL.build rfl rfl (cs := [.map (some b1)]) zv_91 rfl rfl ?_
  refine WL.box rfl rfl #[.map (some b1)] hS rfl rfl (fun b2 w hS => ?_)
  refine WL.r 1 rfl ?_
  refine WL.nil ?_
  refine WC.ret ?_
  refine ⟨[.pointer (some ⟨b2, 0, none⟩)], rfl, ?_⟩
  replace hS := (hS.sel 2 [] rfl)
  exact ⟨_, rfl, hS⟩
set_option maxRecDepth 8192 in
theorem st_new_bad1 {g w : World} {L : List HP} (sl cv cc cx : Int) (h2 : ¬ (1 ≤ cv ∧ cv ≤ 4096)) (hS : St g (L) w) :
    Sp Tryz.prog 4 [.agg #[.int .i64 sl, .int .i64 cv, .int .i64 cc, .int .i64 cx]] w (fun v w' => v = .tuple #[.pointer none, .int .i64 1] ∧ St g (L) w') := by
  refine Sp.enter Tryz.func4 rfl (by kernel_rfl) (by kernel_rfl) ?_
  refine WC.seq ?_
  refine WC.region ?_
  refine WL.box rfl rfl #[.int .i64 sl, .int .i64 cv, .int .i64 cc, .int .i64 cx] hS rfl rfl (fun b1 w hS => ?_)
  refine WL.r 2 rfl ?_
  refine WL.nil ?_
  refine WC.seq ?_
  refine WC.region ?_
  refine WL.run 4 [.int .i64 sl, .int .i64 cv] rfl (by exact ⟨hS.ld 0 rfl rfl, hS.ld 0 rfl rfl⟩) ?_
  refine WL.call rfl rfl (vs_new_bad1 (sl := sl) (cap := cv) (hc := h2) (hS := hS)) rfl ?_
  clear hS; rintro _ w ⟨rfl, hS⟩
  replace hS : St g (cel b1 #[.int .i64 sl, .int .i64 cv, .int .i64 cc, .int .i64 cx] 23 :: L) w := hS
  refine WL.r 5 rfl ?_
  refine WL.nil ?_
  refine WC.seq ?_
  refine WC.seq ?_
  refine WC.region ?_
  refine WL.r 2 rfl ?_
  refine WL.nil ?_
  refine WC.ifT rfl (decide_eq_true ((by decide))) ?_
  refine WC.seq ?_
  refine WC.region ?_
  refine WL.r 3 rfl ?_
  refine WL.nil ?_
  refine WC.ret ?_
  refine ⟨[.pointer none, .int .i64 1], ⟨rfl, rfl⟩, ?_⟩
  replace hS := (hS.sel 1 [] rfl)
  exact ⟨rfl, hS⟩
set_option maxRecDepth 8192 in
theorem st_new_bad2 {g w : World} {L : List HP} (sl cv cc cx : Int) (h2 : 1 ≤ cv ∧ cv ≤ 4096) (h1 : ¬ (1 ≤ sl ∧ sl ≤ 65536)) (hS : St g (L) w) :
    Sp Tryz.prog 4 [.agg #[.int .i64 sl, .int .i64 cv, .int .i64 cc, .int .i64 cx]] w (fun v w' => v = .tuple #[.pointer none, .int .i64 1] ∧ St g (L) w') := by
  refine Sp.enter Tryz.func4 rfl (by kernel_rfl) (by kernel_rfl) ?_
  refine WC.seq ?_
  refine WC.region ?_
  refine WL.box rfl rfl #[.int .i64 sl, .int .i64 cv, .int .i64 cc, .int .i64 cx] hS rfl rfl (fun b1 w hS => ?_)
  refine WL.r 2 rfl ?_
  refine WL.nil ?_
  refine WC.seq ?_
  refine WC.region ?_
  refine WL.run 4 [.int .i64 sl, .int .i64 cv] rfl (by exact ⟨hS.ld 0 rfl rfl, hS.ld 0 rfl rfl⟩) ?_
  refine WL.call rfl rfl (vs_new_bad2 (sl := sl) (cap := cv) (hc := h2) (hs := h1) (hS := hS)) rfl ?_
  clear hS; rintro _ w ⟨rfl, hS⟩
  replace hS : St g (cel b1 #[.int .i64 sl, .int .i64 cv, .int .i64 cc, .int .i64 cx] 23 :: L) w := hS
  refine WL.r 5 rfl ?_
  refine WL.nil ?_
  refine WC.seq ?_
  refine WC.seq ?_
  refine WC.region ?_
  refine WL.r 2 rfl ?_
  refine WL.nil ?_
  refine WC.ifT rfl (decide_eq_true ((by decide))) ?_
  refine WC.seq ?_
  refine WC.region ?_
  refine WL.r 3 rfl ?_
  refine WL.nil ?_
  refine WC.ret ?_
  refine ⟨[.pointer none, .int .i64 1], ⟨rfl, rfl⟩, ?_⟩
  replace hS := (hS.sel 1 [] rfl)
  exact ⟨rfl, hS⟩
set_option maxRecDepth 8192 in
theorem st_new_bad3 {g w : World} {L : List HP} (sl cv cc cx : Int) (h2 : 1 ≤ cv ∧ cv ≤ 4096) (h1 : 1 ≤ sl ∧ sl ≤ 65536) (h3 : ¬ (1 ≤ cc ∧ cc ≤ 4096)) (hS : St g (L) w) :
    Sp Tryz.prog 4 [.agg #[.int .i64 sl, .int .i64 cv, .int .i64 cc, .int .i64 cx]] w (fun v w' => v = .tuple #[.pointer none, .int .i64 1] ∧ St g (L) w') := by
  refine Sp.enter Tryz.func4 rfl (by kernel_rfl) (by kernel_rfl) ?_
  refine WC.seq ?_
  refine WC.region ?_
  refine WL.box rfl rfl #[.int .i64 sl, .int .i64 cv, .int .i64 cc, .int .i64 cx] hS rfl rfl (fun b1 w hS => ?_)
  refine WL.r 2 rfl ?_
  refine WL.nil ?_
  refine WC.seq ?_
  refine WC.region ?_
  refine WL.run 4 [.int .i64 sl, .int .i64 cv] rfl (by exact ⟨hS.ld 0 rfl rfl, hS.ld 0 rfl rfl⟩) ?_
  refine WL.call rfl rfl (vs_new_ok (sl := sl) (cap := cv) (hc := h2) (hs := h1) (hS := hS)) rfl ?_
  clear hS; rintro _ w ⟨s1, a1, rfl, hS⟩
  replace hS : St g (Vst s1 a1 (VM.new cv.toNat) :: Arn a1 (AM.new sl.toNat) :: cel b1 #[.int .i64 sl, .int .i64 cv, .int .i64 cc, .int .i64 cx] 23 :: L) w := hS
  refine WL.r 5 rfl ?_
  refine WL.nil ?_
  refine WC.seq ?_
  refine WC.seq ?_
  refine WC.region ?_
  refine WL.r 2 rfl ?_
  refine WL.nil ?_
  refine WC.ifF rfl (decide_eq_false ((by decide))) ?_
  refine WC.skip ?_
  refine WC.seq ?_
  refine WC.region ?_
  refine WL.run 2 [.int .i64 cc] rfl (by exact hS.ld 2 rfl rfl) ?_
  refine WL.call rfl rfl (tb_new_bad (cap := cc) (hc := h3) (hS := hS)) rfl ?_
  clear hS; rintro _ w ⟨rfl, hS⟩
  replace hS : St g (Vst s1 a1 (VM.new cv.toNat) :: Arn a1 (AM.new sl.toNat) :: cel b1 #[.int .i64 sl, .int .i64 cv, .int .i64 cc, .int .i64 cx] 23 :: L) w := hS
  refine WL.r 5 rfl ?_
  refine WL.nil ?_
  as_aux_lemma =>
    refine WC.seq ?_
    refine WC.seq ?_
    refine WC.region ?_
    refine WL.r 2 rfl ?_
    refine WL.nil ?_
    refine WC.ifT rfl (decide_eq_true ((by decide))) ?_
    refine WC.seq ?_
    refine WC.region ?_
    refine WL.r 3 rfl ?_
    refine WL.nil ?_
    refine WC.ret ?_
    refine ⟨[.pointer none, .int .i64 1], ⟨rfl, rfl⟩, ?_⟩
    replace hS := (hS.sel 3 [] rfl)
    exact ⟨rfl, hS⟩
set_option maxRecDepth 8192 in
theorem st_new_bad4 {g w : World} {L : List HP} (sl cv cc cx : Int) (h2 : 1 ≤ cv ∧ cv ≤ 4096) (h1 : 1 ≤ sl ∧ sl ≤ 65536) (h3 : 1 ≤ cc ∧ cc ≤ 4096) (h4 : ¬ (1 ≤ cx ∧ cx ≤ 4096)) (hS : St g (L) w) :
    Sp Tryz.prog 4 [.agg #[.int .i64 sl, .int .i64 cv, .int .i64 cc, .int .i64 cx]] w (fun v w' => v = .tuple #[.pointer none, .int .i64 1] ∧ St g (L) w') := by
  refine Sp.enter Tryz.func4 rfl (by kernel_rfl) (by kernel_rfl) ?_
  refine WC.seq ?_
  refine WC.region ?_
  refine WL.box rfl rfl #[.int .i64 sl, .int .i64 cv, .int .i64 cc, .int .i64 cx] hS rfl rfl (fun b1 w hS => ?_)
  refine WL.r 2 rfl ?_
  refine WL.nil ?_
  refine WC.seq ?_
  refine WC.region ?_
  refine WL.run 4 [.int .i64 sl, .int .i64 cv] rfl (by exact ⟨hS.ld 0 rfl rfl, hS.ld 0 rfl rfl⟩) ?_
  refine WL.call rfl rfl (vs_new_ok (sl := sl) (cap := cv) (hc := h2) (hs := h1) (hS := hS)) rfl ?_
  clear hS; rintro _ w ⟨s1, a1, rfl, hS⟩
  replace hS : St g (Vst s1 a1 (VM.new cv.toNat) :: Arn a1 (AM.new sl.toNat) :: cel b1 #[.int .i64 sl, .int .i64 cv, .int .i64 cc, .int .i64 cx] 23 :: L) w := hS
  refine WL.r 5 rfl ?_
  refine WL.nil ?_
  refine WC.seq ?_
  refine WC.seq ?_
  refine WC.region ?_
  refine WL.r 2 rfl ?_
  refine WL.nil ?_
  refine WC.ifF rfl (decide_eq_false ((by decide))) ?_
  refine WC.skip ?_
  refine WC.seq ?_
  refine WC.region ?_
  refine WL.run 2 [.int .i64 cc] rfl (by exact hS.ld 2 rfl rfl) ?_
  refine WL.call rfl rfl (tb_new_ok (cap := cc) (hc := h3) (hS := hS)) rfl ?_
  clear hS; rintro _ w ⟨t1, rfl, hS⟩
  replace hS : St g (Tbl t1 (TM.new cc.toNat) :: Vst s1 a1 (VM.new cv.toNat) :: Arn a1 (AM.new sl.toNat) :: cel b1 #[.int .i64 sl, .int .i64 cv, .int .i64 cc, .int .i64 cx] 23 :: L) w := hS
  refine WL.r 5 rfl ?_
  refine WL.nil ?_
  as_aux_lemma =>
    refine WC.seq ?_
    refine WC.seq ?_
    refine WC.region ?_
    refine WL.r 2 rfl ?_
    refine WL.nil ?_
    refine WC.ifF rfl (decide_eq_false ((by decide))) ?_
    refine WC.skip ?_
    refine WC.seq ?_
    refine WC.region ?_
    refine WL.run 2 [.int .i64 cx] rfl (by exact hS.ld 3 rfl rfl) ?_
    refine WL.call rfl rfl (tb_new_bad (cap := cx) (hc := h4) (hS := hS)) rfl ?_
    clear hS; rintro _ w ⟨rfl, hS⟩
    replace hS : St g (Tbl t1 (TM.new cc.toNat) :: Vst s1 a1 (VM.new cv.toNat) :: Arn a1 (AM.new sl.toNat) :: cel b1 #[.int .i64 sl, .int .i64 cv, .int .i64 cc, .int .i64 cx] 23 :: L) w := hS
    refine WL.r 5 rfl ?_
    refine WL.nil ?_
    refine WC.seq ?_
    refine WC.seq ?_
    refine WC.region ?_
    refine WL.r 2 rfl ?_
    refine WL.nil ?_
    refine WC.ifT rfl (decide_eq_true ((by decide))) ?_
    refine WC.seq ?_
    refine WC.region ?_
    refine WL.r 3 rfl ?_
    refine WL.nil ?_
    as_aux_lemma =>
      refine WC.ret ?_
      refine ⟨[.pointer none, .int .i64 1], ⟨rfl, rfl⟩, ?_⟩
      replace hS := (hS.sel 4 [] rfl)
      exact ⟨rfl, hS⟩
theorem cond_eq_and (a b : Bool) : (bif a then b else false) = (a && b) := by cases a <;> rfl
def CfgOk (sl cv cc cx : Int) : Prop := (1 ≤ sl ∧ sl ≤ 65536) ∧ (1 ≤ cv ∧ cv ≤ 4096) ∧ (1 ≤ cc ∧ cc ≤ 4096) ∧ (1 ≤ cx ∧ cx ≤ 4096)
instance (sl cv cc cx : Int) : Decidable (CfgOk sl cv cc cx) := by unfold CfgOk; infer_instance
set_option maxRecDepth 8192 in
theorem st_new_bad {g w : World} {L : List HP} (sl cv cc cx : Int) (hc : ¬ CfgOk sl cv cc cx) (hS : St g (L) w) :
    Sp Tryz.prog 4 [.agg #[.int .i64 sl, .int .i64 cv, .int .i64 cc, .int .i64 cx]] w (fun v w' => v = .tuple #[.pointer none, .int .i64 1] ∧ St g (L) w') := by
  by_cases h2 : 1 ≤ cv ∧ cv ≤ 4096
  · by_cases h1 : 1 ≤ sl ∧ sl ≤ 65536
    · by_cases h3 : 1 ≤ cc ∧ cc ≤ 4096
      · exact st_new_bad4 sl cv cc cx h2 h1 h3 (fun h4 => hc ⟨h1, h2, h3, h4⟩) hS
      · exact st_new_bad3 sl cv cc cx h2 h1 h3 hS
    · exact st_new_bad2 sl cv cc cx h2 h1 hS
  · exact st_new_bad1 sl cv cc cx h2 hS
set_option maxRecDepth 8192 in
theorem st_new_ok {g w : World} {L : List HP} (sl cv cc cx : Int) (hc : CfgOk sl cv cc cx) (hS : St g (L) w) :
    Sp Tryz.prog 4 [.agg #[.int .i64 sl, .int .i64 cv, .int .i64 cc, .int .i64 cx]] w (fun v w' => ∃ (p s a : Nat), v = .tuple #[.pointer (some ⟨p, 0, none⟩), .int .i64 0] ∧ St g (Sto p s a (VM.new cv.toNat) :: Arn a (AM.new sl.toNat) :: L) w') := by
  refine Sp.enter Tryz.func4 rfl (by kernel_rfl) (by kernel_rfl) ?_
  refine WC.seq ?_
  refine WC.region ?_
  refine WL.box rfl rfl #[.int .i64 sl, .int .i64 cv, .int .i64 cc, .int .i64 cx] hS rfl rfl (fun b1 w hS => ?_)
  refine WL.r 2 rfl ?_
  refine WL.nil ?_
  refine WC.seq ?_
  refine WC.region ?_
  obtain ⟨h1, h2, h3, h4⟩ := hc
  refine WL.run 4 [.int .i64 sl, .int .i64 cv] rfl (by exact ⟨hS.ld 0 rfl rfl, hS.ld 0 rfl rfl⟩) ?_
  refine WL.call rfl rfl (vs_new_ok (sl := sl) (cap := cv) (hc := h2) (hs := h1) (hS := hS)) rfl ?_
  clear hS; rintro _ w ⟨s1, a1, rfl, hS⟩
  replace hS : St g (Vst s1 a1 (VM.new cv.toNat) :: Arn a1 (AM.new sl.toNat) :: cel b1 #[.int .i64 sl, .int .i64 cv, .int .i64 cc, .int .i64 cx] 23 :: L) w := hS
  refine WL.r 5 rfl ?_
  refine WL.nil ?_
  refine WC.seq ?_
  refine WC.seq ?_
  refine WC.region ?_
  refine WL.r 2 rfl ?_
  refine WL.nil ?_
  refine WC.ifF rfl (decide_eq_false ((by decide))) ?_
  refine WC.skip ?_
  refine WC.seq ?_
  refine WC.region ?_
  refine WL.run 2 [.int .i64 cc] rfl (by exact hS.ld 2 rfl rfl) ?_
  refine WL.call rfl rfl (tb_new_ok (cap := cc) (hc := h3) (hS := hS)) rfl ?_
  clear hS; rintro _ w ⟨t1, rfl, hS⟩
  replace hS : St g (Tbl t1 (TM.new cc.toNat) :: Vst s1 a1 (VM.new cv.toNat) :: Arn a1 (AM.new sl.toNat) :: cel b1 #[.int .i64 sl, .int .i64 cv, .int .i64 cc, .int .i64 cx] 23 :: L) w := hS
  refine WL.r 5 rfl ?_
  refine WL.nil ?_
  as_aux_lemma =>
    refine WC.seq ?_
    refine WC.seq ?_
    refine WC.region ?_
    refine WL.r 2 rfl ?_
    refine WL.nil ?_
    refine WC.ifF rfl (decide_eq_false ((by decide))) ?_
    refine WC.skip ?_
    refine WC.seq ?_
    refine WC.region ?_
    refine WL.run 2 [.int .i64 cx] rfl (by exact hS.ld 3 rfl rfl) ?_
    refine WL.call rfl rfl (tb_new_ok (cap := cx) (hc := h4) (hS := hS)) rfl ?_
    clear hS; rintro _ w ⟨t2, rfl, hS⟩
    replace hS : St g (Tbl t2 (TM.new cx.toNat) :: Tbl t1 (TM.new cc.toNat) :: Vst s1 a1 (VM.new cv.toNat) :: Arn a1 (AM.new sl.toNat) :: cel b1 #[.int .i64 sl, .int .i64 cv, .int .i64 cc, .int .i64 cx] 23 :: L) w := hS
    refine WL.r 5 rfl ?_
    refine WL.nil ?_
    refine WC.seq ?_
    refine WC.seq ?_
    refine WC.region ?_
    refine WL.r 2 rfl ?_
    refine WL.nil ?_
    refine WC.ifF rfl (decide_eq_false ((by decide))) ?_
    refine WC.skip ?_
    refine WC.seq ?_
    refine WC.region ?_
    refine WL.r 1 rfl ?_
    refine WL.call rfl rfl (nm_new0   (hS := hS)) rfl ?_
    clear hS; rintro _ w ⟨t3, rfl, hS⟩
    replace hS : St g (Tbl t2 (TM.new cx.toNat) :: Tbl t1 (TM.new cc.toNat) :: Vst s1 a1 (VM.new cv.toNat) :: Arn a1 (AM.new sl.toNat) :: cel b1 #[.int .i64 sl, .int .i64 cv, .int .i64 cc, .int .i64 cx] 23 :: L) w := hS
    refine WL.r 2 rfl ?_
    refine WL.mkM rfl rfl hS (fun b2 w hS => ?_)
    refine WL.build rfl rfl (cs := [.pointer (some ⟨s1, 0, none⟩), .pointer (some ⟨t3, 0, none⟩), .pointer (some ⟨t1, 0, none⟩), .pointer (some ⟨t2, 0, none⟩), .map (some b2)]) zv_49 rfl rfl ?_
    refine WL.box rfl rfl #[.pointer (some ⟨s1, 0, none⟩), .pointer (some ⟨t3, 0, none⟩), .pointer (some ⟨t1, 0, none⟩), .pointer (some ⟨t2, 0, none⟩), .map (some b2)] hS rfl rfl (fun b3 w hS => ?_)
    refine WL.r 2 rfl ?_
    refine WL.nil ?_
    as_aux_lemma =>
      refine WC.ret ?_
      replace hS := St.exClose (f := stoF b3 s1 a1 (VM.new cv.toNat)) (L := Tbl t2 (TM.new cx.toNat) :: Tbl t1 (TM.new cc.toNat) :: Arn a1 (AM.new sl.toNat) :: cel b1 #[.int .i64 sl, .int .i64 cv, .int .i64 cc, .int .i64 cx] 23 :: L) ⟨t3, t1, t2, b2⟩ ((hS.sel 5 [0, 3, 0, 0, 0] rfl))
      replace hS : St g (Sto b3 s1 a1 (VM.new cv.toNat) :: Tbl t2 (TM.new cx.toNat) :: Tbl t1 (TM.new cc.toNat) :: Arn a1 (AM.new sl.toNat) :: cel b1 #[.int .i64 sl, .int .i64 cv, .int .i64 cc, .int .i64 cx] 23 :: L) w := hS
      refine ⟨[.pointer (some ⟨b3, 0, none⟩), .int .i64 0], ⟨rfl, rfl⟩, ?_⟩
      replace hS := (hS.sel 5 [0, 2] rfl)
      exact ⟨_, _, _, rfl, hS⟩
set_option maxRecDepth 8192 in
theorem st_arena {g w : World} {L : List HP} (p s a : Nat) (V : VM) (hS : St g (Sto p s a V :: L) w) :
    Sp Tryz.prog 15 [.pointer (some ⟨p, 0, none⟩)] w (fun v w' => v = .pointer (some ⟨a, 0, none⟩) ∧ St g (Sto p s a V :: L) w') := by
  refine Sp.enter Tryz.func15 rfl (by kernel_rfl) (by kernel_rfl) ?_
  refine WC.seq ?_
  refine WC.region ?_
  obtain ⟨⟨nm, c, x, m⟩, hS⟩ := St.exOpen (f := stoF p s a V) hS
  replace hS : St g (cel p #[.pointer (some ⟨s, 0, none⟩), .pointer (some ⟨nm, 0, none⟩), .pointer (some ⟨c, 0, none⟩), .pointer (some ⟨x, 0, none⟩), .map (some m)] 49 :: Vst s a V :: blk m (.map (mE []) 0) :: L) w := hS
  refine WL.r 1 rfl ?_
  refine WL.nil ?_
  refine WC.seq ?_
  refine WC.region ?_
  refine WL.run 4 [.pointer (some ⟨s, 0, none⟩)] rfl (by exact hS.ld 0 rfl rfl) ?_
  refine WL.call rfl rfl (vs_arena (s := s) (a := a) (V := V)  (hS := (hS.sel 2 [1, 0] rfl))) rfl ?_
  clear hS; rintro _ w ⟨rfl, hS⟩
  replace hS : St g (Vst s a V :: cel p #[.pointer (some ⟨s, 0, none⟩), .pointer (some ⟨nm, 0, none⟩), .pointer (some ⟨c, 0, none⟩), .pointer (some ⟨x, 0, none⟩), .map (some m)] 49 :: blk m (.map (mE []) 0) :: L) w := hS
  refine WL.r 1 rfl ?_
  refine WL.nil ?_
  refine WC.ret ?_
  replace hS := St.exClose (f := stoF p s a V) (L := L) ⟨nm, c, x, m⟩ ((hS.sel 2 [1, 0] rfl))
  replace hS : St g (Sto p s a V :: L) w := hS
  refine ⟨[.pointer (some ⟨a, 0, none⟩)], rfl, ?_⟩
  exact ⟨rfl, hS⟩
set_option maxRecDepth 8192 in
theorem cfg_ok {g w : World} {L : List HP} (sl cv cc cx : Int) (hS : St g (L) w) :
    Sp Tryz.prog 5 [.agg #[.int .i64 sl, .int .i64 cv, .int .i64 cc, .int .i64 cx]] w (fun v w' => ∃ (ok : Bool), v = .bool ok ∧ St g (L) w' ∧ (ok = decide (CfgOk sl cv cc cx))) := by
  refine Sp.enter Tryz.func5 rfl (by kernel_rfl) (by kernel_rfl) ?_
  refine WC.seq ?_
  refine WC.region ?_
  refine WL.box rfl rfl #[.int .i64 sl, .int .i64 cv, .int .i64 cc, .int .i64 cx] hS rfl rfl (fun b1 w hS => ?_)
  refine WL.r 1 rfl ?_
  refine WL.nil ?_
  refine WC.seq ?_
  refine WC.region ?_
  refine WL.run 3 [.int .i64 sl] rfl (by exact hS.ld 0 rfl rfl) ?_
  refine WL.runG 36 [.int .i64 sl, .int .i64 cv, .int .i64 cv, .int .i64 cc, .int .i64 cc, .int .i64 cx, .int .i64 cx] rfl (by exact ⟨fun _ => hS.ld 0 rfl rfl, fun _ => hS.ld 0 rfl rfl, fun _ => hS.ld 0 rfl rfl, fun _ => hS.ld 0 rfl rfl, fun _ => hS.ld 0 rfl rfl, fun _ => hS.ld 0 rfl rfl, fun _ => hS.ld 0 rfl rfl⟩) (fun j => ?_)
  refine WL.prop 40 rfl (band (band (band (band (band (band (band (dd _) (dd _)) (dd _)) (dd _)) (dd _)) (dd _)) (dd _)) (dd _)) ?_
  refine WL.nil ?_
  refine WC.ret ?_
  refine ⟨[.bool (bif (bif (bif (bif (bif (bif (bif (decide (1 ≤ sl)) then (decide (sl ≤ 65536)) else false) then (decide (1 ≤ cv)) else false) then (decide (cv ≤ 4096)) else false) then (decide (1 ≤ cc)) else false) then (decide (cc ≤ 4096)) else false) then (decide (1 ≤ cx)) else false) then (decide (cx ≤ 4096)) else false)], rfl, ?_⟩
  replace hS := (hS.sel 1 [] rfl)
  exact ⟨_, rfl, hS, by rw [Bool.eq_iff_iff, decide_eq_true_iff (p := CfgOk sl cv cc cx)]; simp only [cond_eq_and, Bool.and_eq_true, decide_eq_true_eq]; unfold CfgOk; omega⟩
end Go.Proofs.YtloebjlnmdjeiaaGreatDoor
/-! ## Opm -/
namespace Go.V
open Go
theorem p128 (i : Nat) : (128 : Int) ^ (i + 1) = 128 * 128 ^ i := by rw [Int.pow_succ, Int.mul_comm]
def UvB (i : Nat) (u : Int) : Prop := i ≤ 9 ∧ 0 ≤ u ∧ u < 128 ^ i
theorem UvB.start : UvB 0 0 := ⟨by omega, by omega, by simp⟩
theorem UvB.next {i : Nat} {u c : Int} (h : UvB i u) (hb : ¬ ((i = 9 ∧ 1 < c) ∨ (0 < i ∧ c = 0))) (hc : ¬ c < 128) (h8 : c ≤ 255) : UvB (i + 1) (u + (c - 128) * 128 ^ i) := by
  obtain ⟨h1, h2, h3⟩ := h
  have hp : (0 : Int) < 128 ^ i := Int.pow_pos (by decide)
  have h9 : i ≠ 9 := fun e => hb (.inl ⟨e, by omega⟩)
  refine ⟨by omega, ?_, ?_⟩
  · have := Int.mul_nonneg (show 0 ≤ c - 128 by omega) (Int.le_of_lt hp); omega
  · rw [p128]
    have := Int.mul_le_mul_of_nonneg_right (show c - 128 ≤ 127 by omega) (Int.le_of_lt hp)
    omega
end Go.V
/-! ## Opx -/
namespace Go.V
open Go
structure OpM where
  code : Int
  a : Int
  b : Int
  key : Int
  val : Int
  lo : Int
  hi : Int
  n : Int
  flag : Bool
  name : ByteArray
  bytes : List Int
  ents : List (Int × Int)
  chs : List (Int × Int × Int × Int)
def tbl : List (List Int) := [[], [], [65, 75], [65, 75, 86], [65, 75], [65, 75, 86], [65, 67], [69], [65], [65], [65, 66, 78], [65, 66, 78, 86], [65, 76, 72, 78], [65, 66], [65, 66], [65, 75, 78], [65, 75], [65, 78], [65, 76, 72], [65, 76, 72, 78], [65, 76, 72, 78, 70, 89], [65, 76, 72], [65, 75, 78], [65], [65, 66, 83], [83], [65], [65, 75], [65, 76, 72], [65, 75, 86], [65, 75], [65, 66], [65], [65, 66], [66, 89], []]
def fs (c : Int) : List Int := tbl.getD c.toNat []
def isOp (c : Int) : Bool := decide (1 ≤ c ∧ c ≤ 35)
theorem fs_none {c : Int} (h : ¬ (1 ≤ c ∧ c ≤ 35)) : fs c = [] := by
  unfold fs
  rcases Int.lt_or_le c 1 with h1 | h1
  · have : c.toNat = 0 := by omega
    rw [this]; rfl
  · rw [List.getD_eq_getElem?_getD, List.getElem?_eq_none (by show 36 ≤ c.toNat; omega)]; rfl
theorem fs_all {q : List Int → Prop} (h : ∀ l ∈ tbl, q l) (c : Int) : q (fs c) := by
  unfold fs
  rw [List.getD_eq_getElem?_getD]
  cases hx : tbl[c.toNat]? with
  | none => exact h [] (by decide)
  | some l => exact h l (List.mem_of_getElem? hx)
theorem fs_as (c : Int) : As7 (fs c) := fs_all (by unfold As7; decide) c
def Ltr (f : Int) : Prop := f = 65 ∨ f = 66 ∨ f = 75 ∨ f = 86 ∨ f = 76 ∨ f = 72 ∨ f = 78 ∨ f = 70 ∨ f = 83 ∨ f = 89 ∨ f = 69 ∨ f = 67
def op0 (c : Int) : OpM := { code := c, a := 0, b := 0, key := 0, val := 0, lo := 0, hi := 0, n := 0, flag := false, name := ⟨#[]⟩, bytes := [], ents := [], chs := [] }
theorem drop_getD {l : List Int} {k : Nat} (h : k < l.length) : l.drop k = l.getD k 0 :: l.drop (k + 1) := by
  rw [List.drop_eq_getElem_cons h, List.getD_eq_getElem?_getD, List.getElem?_eq_getElem h]; rfl
theorem getD_some {l : List Int} {k : Nat} (h : k < l.length) : l[k]? = some (l.getD k 0) := by
  rw [List.getD_eq_getElem?_getD, List.getElem?_eq_getElem h]; rfl
def I64 (n : Int) : Prop := -9223372036854775808 ≤ n ∧ n ≤ 9223372036854775807
def I64s (l : List Int) : Prop := ∀ x ∈ l, I64 x
def En64 (l : List (Int × Int)) : Prop := ∀ x ∈ l, I64 x.1 ∧ I64 x.2
def Ch64 (l : List (Int × Int × Int × Int)) : Prop := ∀ x ∈ l, I64 x.1 ∧ I64 x.2.1 ∧ I64 x.2.2.1 ∧ I64 x.2.2.2
structure OpW (x : OpM) : Prop where
  a : 0 ≤ x.a ∧ x.a ≤ 18446744073709551615
  b : 0 ≤ x.b ∧ x.b ≤ 18446744073709551615
  key : I64 x.key
  val : I64 x.val
  lo : I64 x.lo
  hi : I64 x.hi
  ents : En64 x.ents
  chs : Ch64 x.chs
structure OpL (x : OpM) : Prop where
  n : 0 ≤ x.n ∧ x.n ≤ 2147483647
  name : x.name.size ≤ 32
  bytes : x.bytes.length ≤ 65536
  ents : x.ents.length ≤ 1000
  chs : x.chs.length ≤ 1000
structure ZM where
  code : Int
  a : Int
  b : Int
  key : Int
  val : Int
  lo : Int
  hi : Int
  n : Int
  flag : Bool
  name : ByteArray
  lb : Nat
  le : Nat
  lc : Nat
def zOf (x : OpM) : ZM := { code := x.code, a := x.a, b := x.b, key := x.key, val := x.val, lo := x.lo, hi := x.hi, n := x.n, flag := x.flag, name := x.name, lb := (by8 x.bytes).length, le := (en2 x.ents).length, lc := (ch4 x.chs).length }
def clrZ (f : Int) (y : ZM) : ZM :=
  if f = 65 then { y with a := 0 }
  else if f = 66 then { y with b := 0 }
  else if f = 75 then { y with key := 0 }
  else if f = 86 then { y with val := 0 }
  else if f = 76 then { y with lo := 0 }
  else if f = 72 then { y with hi := 0 }
  else if f = 78 then { y with n := 0 }
  else if f = 70 then { y with flag := false }
  else if f = 83 then { y with name := ⟨#[]⟩ }
  else if f = 89 then { y with lb := 0 }
  else if f = 69 then { y with le := 0 }
  else if f = 67 then { y with lc := 0 }
  else y
theorem clrZ_A {y : ZM} : clrZ 65 y = { y with a := 0 } := rfl
theorem clrZ_B {y : ZM} : clrZ 66 y = { y with b := 0 } := rfl
theorem clrZ_K {y : ZM} : clrZ 75 y = { y with key := 0 } := rfl
theorem clrZ_V {y : ZM} : clrZ 86 y = { y with val := 0 } := rfl
theorem clrZ_L {y : ZM} : clrZ 76 y = { y with lo := 0 } := rfl
theorem clrZ_H {y : ZM} : clrZ 72 y = { y with hi := 0 } := rfl
theorem clrZ_N {y : ZM} : clrZ 78 y = { y with n := 0 } := rfl
theorem clrZ_F {y : ZM} : clrZ 70 y = { y with flag := false } := rfl
theorem clrZ_S {y : ZM} : clrZ 83 y = { y with name := ⟨#[]⟩ } := rfl
theorem clrZ_Y {y : ZM} : clrZ 89 y = { y with lb := 0 } := rfl
theorem clrZ_E {y : ZM} : clrZ 69 y = { y with le := 0 } := rfl
theorem clrZ_C {y : ZM} : clrZ 67 y = { y with lc := 0 } := rfl
theorem clrZ_no {f : Int} {y : ZM} (h : ¬ Ltr f) : clrZ f y = y := by
  unfold Ltr at h
  unfold clrZ
  rw [if_neg (by omega)]
  rw [if_neg (by omega)]
  rw [if_neg (by omega)]
  rw [if_neg (by omega)]
  rw [if_neg (by omega)]
  rw [if_neg (by omega)]
  rw [if_neg (by omega)]
  rw [if_neg (by omega)]
  rw [if_neg (by omega)]
  rw [if_neg (by omega)]
  rw [if_neg (by omega)]
  rw [if_neg (by omega)]
def clrZs : List Int → ZM → ZM
  | [], y => y
  | f :: l, y => clrZs l (clrZ f y)
theorem clrZs_go {l : List Int} {y : ZM} {k : Nat} (h : k < l.length) : clrZs (l.drop k) y = clrZs (l.drop (k + 1)) (clrZ (l.getD k 0) y) := by rw [drop_getD h]; rfl
theorem clrZs_end {l : List Int} {y : ZM} {k : Nat} (h : ¬ k < l.length) : clrZs (l.drop k) y = y := by rw [List.drop_eq_nil_of_le (by omega)]; rfl
theorem clrZ_A' {f : Int} {y : ZM} : (clrZ f y).a = if f = 65 then 0 else y.a := by
  by_cases hf : Ltr f
  · unfold Ltr at hf
    rcases hf with rfl | rfl | rfl | rfl | rfl | rfl | rfl | rfl | rfl | rfl | rfl | rfl <;> rfl
  · rw [clrZ_no hf, if_neg (by unfold Ltr at hf; omega)]
theorem clrZs_A : ∀ {l : List Int} {y : ZM}, (clrZs l y).a = if 65 ∈ l then 0 else y.a
  | [], _ => rfl
  | g :: l, y => by
    rw [clrZs, clrZs_A, clrZ_A']
    by_cases h1 : (65 : Int) ∈ l
    · rw [if_pos h1, if_pos (List.mem_cons_of_mem _ h1)]
    · rw [if_neg h1]
      by_cases h2 : g = 65
      · rw [if_pos h2, if_pos (by rw [h2]; exact List.mem_cons_self ..)]
      · rw [if_neg h2, if_neg (by simp only [List.mem_cons, not_or]; exact ⟨fun h => h2 h.symm, h1⟩)]
theorem clrZ_B' {f : Int} {y : ZM} : (clrZ f y).b = if f = 66 then 0 else y.b := by
  by_cases hf : Ltr f
  · unfold Ltr at hf
    rcases hf with rfl | rfl | rfl | rfl | rfl | rfl | rfl | rfl | rfl | rfl | rfl | rfl <;> rfl
  · rw [clrZ_no hf, if_neg (by unfold Ltr at hf; omega)]
theorem clrZs_B : ∀ {l : List Int} {y : ZM}, (clrZs l y).b = if 66 ∈ l then 0 else y.b
  | [], _ => rfl
  | g :: l, y => by
    rw [clrZs, clrZs_B, clrZ_B']
    by_cases h1 : (66 : Int) ∈ l
    · rw [if_pos h1, if_pos (List.mem_cons_of_mem _ h1)]
    · rw [if_neg h1]
      by_cases h2 : g = 66
      · rw [if_pos h2, if_pos (by rw [h2]; exact List.mem_cons_self ..)]
      · rw [if_neg h2, if_neg (by simp only [List.mem_cons, not_or]; exact ⟨fun h => h2 h.symm, h1⟩)]
theorem clrZ_K' {f : Int} {y : ZM} : (clrZ f y).key = if f = 75 then 0 else y.key := by
  by_cases hf : Ltr f
  · unfold Ltr at hf
    rcases hf with rfl | rfl | rfl | rfl | rfl | rfl | rfl | rfl | rfl | rfl | rfl | rfl <;> rfl
  · rw [clrZ_no hf, if_neg (by unfold Ltr at hf; omega)]
theorem clrZs_K : ∀ {l : List Int} {y : ZM}, (clrZs l y).key = if 75 ∈ l then 0 else y.key
  | [], _ => rfl
  | g :: l, y => by
    rw [clrZs, clrZs_K, clrZ_K']
    by_cases h1 : (75 : Int) ∈ l
    · rw [if_pos h1, if_pos (List.mem_cons_of_mem _ h1)]
    · rw [if_neg h1]
      by_cases h2 : g = 75
      · rw [if_pos h2, if_pos (by rw [h2]; exact List.mem_cons_self ..)]
      · rw [if_neg h2, if_neg (by simp only [List.mem_cons, not_or]; exact ⟨fun h => h2 h.symm, h1⟩)]
theorem clrZ_V' {f : Int} {y : ZM} : (clrZ f y).val = if f = 86 then 0 else y.val := by
  by_cases hf : Ltr f
  · unfold Ltr at hf
    rcases hf with rfl | rfl | rfl | rfl | rfl | rfl | rfl | rfl | rfl | rfl | rfl | rfl <;> rfl
  · rw [clrZ_no hf, if_neg (by unfold Ltr at hf; omega)]
theorem clrZs_V : ∀ {l : List Int} {y : ZM}, (clrZs l y).val = if 86 ∈ l then 0 else y.val
  | [], _ => rfl
  | g :: l, y => by
    rw [clrZs, clrZs_V, clrZ_V']
    by_cases h1 : (86 : Int) ∈ l
    · rw [if_pos h1, if_pos (List.mem_cons_of_mem _ h1)]
    · rw [if_neg h1]
      by_cases h2 : g = 86
      · rw [if_pos h2, if_pos (by rw [h2]; exact List.mem_cons_self ..)]
      · rw [if_neg h2, if_neg (by simp only [List.mem_cons, not_or]; exact ⟨fun h => h2 h.symm, h1⟩)]
theorem clrZ_L' {f : Int} {y : ZM} : (clrZ f y).lo = if f = 76 then 0 else y.lo := by
  by_cases hf : Ltr f
  · unfold Ltr at hf
    rcases hf with rfl | rfl | rfl | rfl | rfl | rfl | rfl | rfl | rfl | rfl | rfl | rfl <;> rfl
  · rw [clrZ_no hf, if_neg (by unfold Ltr at hf; omega)]
theorem clrZs_L : ∀ {l : List Int} {y : ZM}, (clrZs l y).lo = if 76 ∈ l then 0 else y.lo
  | [], _ => rfl
  | g :: l, y => by
    rw [clrZs, clrZs_L, clrZ_L']
    by_cases h1 : (76 : Int) ∈ l
    · rw [if_pos h1, if_pos (List.mem_cons_of_mem _ h1)]
    · rw [if_neg h1]
      by_cases h2 : g = 76
      · rw [if_pos h2, if_pos (by rw [h2]; exact List.mem_cons_self ..)]
      · rw [if_neg h2, if_neg (by simp only [List.mem_cons, not_or]; exact ⟨fun h => h2 h.symm, h1⟩)]
theorem clrZ_H' {f : Int} {y : ZM} : (clrZ f y).hi = if f = 72 then 0 else y.hi := by
  by_cases hf : Ltr f
  · unfold Ltr at hf
    rcases hf with rfl | rfl | rfl | rfl | rfl | rfl | rfl | rfl | rfl | rfl | rfl | rfl <;> rfl
  · rw [clrZ_no hf, if_neg (by unfold Ltr at hf; omega)]
theorem clrZs_H : ∀ {l : List Int} {y : ZM}, (clrZs l y).hi = if 72 ∈ l then 0 else y.hi
  | [], _ => rfl
  | g :: l, y => by
    rw [clrZs, clrZs_H, clrZ_H']
    by_cases h1 : (72 : Int) ∈ l
    · rw [if_pos h1, if_pos (List.mem_cons_of_mem _ h1)]
    · rw [if_neg h1]
      by_cases h2 : g = 72
      · rw [if_pos h2, if_pos (by rw [h2]; exact List.mem_cons_self ..)]
      · rw [if_neg h2, if_neg (by simp only [List.mem_cons, not_or]; exact ⟨fun h => h2 h.symm, h1⟩)]
theorem clrZ_N' {f : Int} {y : ZM} : (clrZ f y).n = if f = 78 then 0 else y.n := by
  by_cases hf : Ltr f
  · unfold Ltr at hf
    rcases hf with rfl | rfl | rfl | rfl | rfl | rfl | rfl | rfl | rfl | rfl | rfl | rfl <;> rfl
  · rw [clrZ_no hf, if_neg (by unfold Ltr at hf; omega)]
theorem clrZs_N : ∀ {l : List Int} {y : ZM}, (clrZs l y).n = if 78 ∈ l then 0 else y.n
  | [], _ => rfl
  | g :: l, y => by
    rw [clrZs, clrZs_N, clrZ_N']
    by_cases h1 : (78 : Int) ∈ l
    · rw [if_pos h1, if_pos (List.mem_cons_of_mem _ h1)]
    · rw [if_neg h1]
      by_cases h2 : g = 78
      · rw [if_pos h2, if_pos (by rw [h2]; exact List.mem_cons_self ..)]
      · rw [if_neg h2, if_neg (by simp only [List.mem_cons, not_or]; exact ⟨fun h => h2 h.symm, h1⟩)]
theorem clrZ_F' {f : Int} {y : ZM} : (clrZ f y).flag = if f = 70 then false else y.flag := by
  by_cases hf : Ltr f
  · unfold Ltr at hf
    rcases hf with rfl | rfl | rfl | rfl | rfl | rfl | rfl | rfl | rfl | rfl | rfl | rfl <;> rfl
  · rw [clrZ_no hf, if_neg (by unfold Ltr at hf; omega)]
theorem clrZs_F : ∀ {l : List Int} {y : ZM}, (clrZs l y).flag = if 70 ∈ l then false else y.flag
  | [], _ => rfl
  | g :: l, y => by
    rw [clrZs, clrZs_F, clrZ_F']
    by_cases h1 : (70 : Int) ∈ l
    · rw [if_pos h1, if_pos (List.mem_cons_of_mem _ h1)]
    · rw [if_neg h1]
      by_cases h2 : g = 70
      · rw [if_pos h2, if_pos (by rw [h2]; exact List.mem_cons_self ..)]
      · rw [if_neg h2, if_neg (by simp only [List.mem_cons, not_or]; exact ⟨fun h => h2 h.symm, h1⟩)]
theorem clrZ_S' {f : Int} {y : ZM} : (clrZ f y).name = if f = 83 then ⟨#[]⟩ else y.name := by
  by_cases hf : Ltr f
  · unfold Ltr at hf
    rcases hf with rfl | rfl | rfl | rfl | rfl | rfl | rfl | rfl | rfl | rfl | rfl | rfl <;> rfl
  · rw [clrZ_no hf, if_neg (by unfold Ltr at hf; omega)]
theorem clrZs_S : ∀ {l : List Int} {y : ZM}, (clrZs l y).name = if 83 ∈ l then ⟨#[]⟩ else y.name
  | [], _ => rfl
  | g :: l, y => by
    rw [clrZs, clrZs_S, clrZ_S']
    by_cases h1 : (83 : Int) ∈ l
    · rw [if_pos h1, if_pos (List.mem_cons_of_mem _ h1)]
    · rw [if_neg h1]
      by_cases h2 : g = 83
      · rw [if_pos h2, if_pos (by rw [h2]; exact List.mem_cons_self ..)]
      · rw [if_neg h2, if_neg (by simp only [List.mem_cons, not_or]; exact ⟨fun h => h2 h.symm, h1⟩)]
theorem clrZ_Y' {f : Int} {y : ZM} : (clrZ f y).lb = if f = 89 then 0 else y.lb := by
  by_cases hf : Ltr f
  · unfold Ltr at hf
    rcases hf with rfl | rfl | rfl | rfl | rfl | rfl | rfl | rfl | rfl | rfl | rfl | rfl <;> rfl
  · rw [clrZ_no hf, if_neg (by unfold Ltr at hf; omega)]
theorem clrZs_Y : ∀ {l : List Int} {y : ZM}, (clrZs l y).lb = if 89 ∈ l then 0 else y.lb
  | [], _ => rfl
  | g :: l, y => by
    rw [clrZs, clrZs_Y, clrZ_Y']
    by_cases h1 : (89 : Int) ∈ l
    · rw [if_pos h1, if_pos (List.mem_cons_of_mem _ h1)]
    · rw [if_neg h1]
      by_cases h2 : g = 89
      · rw [if_pos h2, if_pos (by rw [h2]; exact List.mem_cons_self ..)]
      · rw [if_neg h2, if_neg (by simp only [List.mem_cons, not_or]; exact ⟨fun h => h2 h.symm, h1⟩)]
theorem clrZ_E' {f : Int} {y : ZM} : (clrZ f y).le = if f = 69 then 0 else y.le := by
  by_cases hf : Ltr f
  · unfold Ltr at hf
    rcases hf with rfl | rfl | rfl | rfl | rfl | rfl | rfl | rfl | rfl | rfl | rfl | rfl <;> rfl
  · rw [clrZ_no hf, if_neg (by unfold Ltr at hf; omega)]
theorem clrZs_E : ∀ {l : List Int} {y : ZM}, (clrZs l y).le = if 69 ∈ l then 0 else y.le
  | [], _ => rfl
  | g :: l, y => by
    rw [clrZs, clrZs_E, clrZ_E']
    by_cases h1 : (69 : Int) ∈ l
    · rw [if_pos h1, if_pos (List.mem_cons_of_mem _ h1)]
    · rw [if_neg h1]
      by_cases h2 : g = 69
      · rw [if_pos h2, if_pos (by rw [h2]; exact List.mem_cons_self ..)]
      · rw [if_neg h2, if_neg (by simp only [List.mem_cons, not_or]; exact ⟨fun h => h2 h.symm, h1⟩)]
theorem clrZ_C' {f : Int} {y : ZM} : (clrZ f y).lc = if f = 67 then 0 else y.lc := by
  by_cases hf : Ltr f
  · unfold Ltr at hf
    rcases hf with rfl | rfl | rfl | rfl | rfl | rfl | rfl | rfl | rfl | rfl | rfl | rfl <;> rfl
  · rw [clrZ_no hf, if_neg (by unfold Ltr at hf; omega)]
theorem clrZs_C : ∀ {l : List Int} {y : ZM}, (clrZs l y).lc = if 67 ∈ l then 0 else y.lc
  | [], _ => rfl
  | g :: l, y => by
    rw [clrZs, clrZs_C, clrZ_C']
    by_cases h1 : (67 : Int) ∈ l
    · rw [if_pos h1, if_pos (List.mem_cons_of_mem _ h1)]
    · rw [if_neg h1]
      by_cases h2 : g = 67
      · rw [if_pos h2, if_pos (by rw [h2]; exact List.mem_cons_self ..)]
      · rw [if_neg h2, if_neg (by simp only [List.mem_cons, not_or]; exact ⟨fun h => h2 h.symm, h1⟩)]
def zeroOp (x : OpM) : Prop := (65 ∉ fs x.code → x.a = 0) ∧ (66 ∉ fs x.code → x.b = 0) ∧ (75 ∉ fs x.code → x.key = 0) ∧ (86 ∉ fs x.code → x.val = 0) ∧ (76 ∉ fs x.code → x.lo = 0) ∧ (72 ∉ fs x.code → x.hi = 0) ∧ (78 ∉ fs x.code → x.n = 0) ∧ (70 ∉ fs x.code → x.flag = false) ∧ (83 ∉ fs x.code → x.name = ⟨#[]⟩) ∧ (89 ∉ fs x.code → x.bytes.length = 0) ∧ (69 ∉ fs x.code → x.ents.length = 0) ∧ (67 ∉ fs x.code → x.chs.length = 0)
theorem ite_z {α : Type} {p : Prop} [Decidable p] {z v : α} : ((if p then z else v) = z) = (¬ p → v = z) := by
  by_cases h : p <;> simp [h]
theorem nat0 {n : Nat} : ((n : Int) = 0) = (n = 0) := by
  apply propext; omega
theorem zero_iff {x : OpM} {y : ZM} (h : y = clrZs (fs x.code) (zOf x)) : (y.a = 0 ∧ y.b = 0 ∧ y.key = 0 ∧ y.val = 0 ∧ y.lo = 0 ∧ y.hi = 0 ∧ y.n = 0 ∧ y.flag = false ∧ y.name = ⟨#[]⟩ ∧ y.lb = 0 ∧ y.le = 0 ∧ y.lc = 0) ↔ zeroOp x := by
  subst h
  rw [clrZs_A, clrZs_B, clrZs_K, clrZs_V, clrZs_L, clrZs_H, clrZs_N, clrZs_F, clrZs_S, clrZs_Y, clrZs_E, clrZs_C]
  simp only [ite_z, zOf, by8_len, en2_len, ch4_len]
  exact Iff.rfl
def okOp (x : OpM) : Prop := isOp x.code = true ∧ OpL x ∧ (∀ c ∈ x.chs, 0 ≤ c.1 ∧ c.1 ≤ 255) ∧ zeroOp x
structure AnM where
  err : Int
  handle : Int
  value : Int
  found : Bool
  n : Int
  ekey : Int
  eval : Int
  count : Int
  sum : Int
  mn : Int
  mx : Int
  ents : List (Int × Int)
  chs : List (Int × Int × Int × Int)
  keys : List Int
  bytes : List Int
structure AnW (x : AnM) : Prop where
  err : I64 x.err
  handle : 0 ≤ x.handle ∧ x.handle ≤ 18446744073709551615
  value : I64 x.value
  n : I64 x.n
  ekey : I64 x.ekey
  eval : I64 x.eval
  count : I64 x.count
  sum : I64 x.sum
  mn : I64 x.mn
  mx : I64 x.mx
  ents : En64 x.ents
  chs : Ch64 x.chs
  keys : I64s x.keys
  le : x.ents.length ≤ 100
  lc : x.chs.length ≤ 100
  lk : x.keys.length ≤ 100
  lb : x.bytes.length ≤ 1000
end Go.V
/-! ## Fld -/
namespace Go.Proofs.YtloebjlnmdjeiaaGreatDoor
open Go Go.V
set_option maxRecDepth 8192 in
theorem fields_spec {g w : World} {L : List HP} (c : Int) (hS : St g (L) w) :
    Sp Tryz.prog 47 [.int .i64 c] w (fun v w' => v = .tuple #[.string (mkS (fs c)), .bool (isOp c)] ∧ St g (L) w') := by
  refine Sp.enter Tryz.func47 rfl (by kernel_rfl) (by kernel_rfl) ?_
  refine WC.seq ?_
  refine WC.region ?_
  refine WL.r 2 rfl ?_
  refine WL.nil ?_
  refine WC.seq ?_
  refine WC.seq ?_
  refine WC.region ?_
  refine WL.r 1 rfl ?_
  refine WL.nil ?_
  refine WC.block ?_
  refine WC.seq ?_
  refine WC.seq ?_
  refine WC.region ?_
  refine WL.r 2 rfl ?_
  refine WL.nil ?_
  refine WC.ifP rfl (fun cd1 => ?_) (fun cd1 => ?_)
  · refine WC.skip ?_
    refine WC.ifT rfl (decide_eq_true cd1) ?_
    refine WC.seq ?_
    refine WC.region ?_
    refine WL.r 2 rfl ?_
    refine WL.nil ?_
    refine WC.ret ?_
    refine ⟨[.string ⟨#[]⟩, .bool true], ⟨rfl, rfl⟩, ?_⟩
    subst cd1; exact ⟨rfl, hS⟩
  · refine WC.region ?_
    refine WL.r 2 rfl ?_
    refine WL.nil ?_
    refine WC.ifP rfl (fun cd2 => ?_) (fun cd2 => ?_)
    · refine WC.seq ?_
      refine WC.region ?_
      refine WL.r 2 rfl ?_
      refine WL.nil ?_
      as_aux_lemma =>
        refine WC.ret ?_
        refine ⟨[.string ⟨#[]⟩, .bool true], ⟨rfl, rfl⟩, ?_⟩
        subst cd2; exact ⟨rfl, hS⟩
    · refine WC.seq ?_
      refine WC.seq ?_
      refine WC.region ?_
      refine WL.r 2 rfl ?_
      refine WL.nil ?_
      as_aux_lemma =>
        refine WC.ifP rfl (fun cd3 => ?_) (fun cd3 => ?_)
        · refine WC.skip ?_
          refine WC.ifT rfl (decide_eq_true cd3) ?_
          refine WC.seq ?_
          refine WC.region ?_
          refine WL.r 2 rfl ?_
          refine WL.nil ?_
          refine WC.ret ?_
          refine ⟨[.string ⟨#[65, 75]⟩, .bool true], ⟨rfl, rfl⟩, ?_⟩
          subst cd3; exact ⟨rfl, hS⟩
        · refine WC.seq ?_
          refine WC.region ?_
          refine WL.r 2 rfl ?_
          refine WL.nil ?_
          refine WC.ifP rfl (fun cd4 => ?_) (fun cd4 => ?_)
          · refine WC.skip ?_
            refine WC.ifT rfl (decide_eq_true cd4) ?_
            refine WC.seq ?_
            refine WC.region ?_
            refine WL.r 2 rfl ?_
            refine WL.nil ?_
            refine WC.ret ?_
            refine ⟨[.string ⟨#[65, 75]⟩, .bool true], ⟨rfl, rfl⟩, ?_⟩
            subst cd4; exact ⟨rfl, hS⟩
          · refine WC.seq ?_
            refine WC.region ?_
            refine WL.r 2 rfl ?_
            refine WL.nil ?_
            refine WC.ifP rfl (fun cd5 => ?_) (fun cd5 => ?_)
            · refine WC.skip ?_
              refine WC.ifT rfl (decide_eq_true cd5) ?_
              refine WC.seq ?_
              refine WC.region ?_
              refine WL.r 2 rfl ?_
              refine WL.nil ?_
              refine WC.ret ?_
              refine ⟨[.string ⟨#[65, 75]⟩, .bool true], ⟨rfl, rfl⟩, ?_⟩
              subst cd5; exact ⟨rfl, hS⟩
            · refine WC.seq ?_
              refine WC.region ?_
              refine WL.r 2 rfl ?_
              refine WL.nil ?_
              refine WC.ifP rfl (fun cd6 => ?_) (fun cd6 => ?_)
              · refine WC.skip ?_
                refine WC.ifT rfl (decide_eq_true cd6) ?_
                refine WC.seq ?_
                refine WC.region ?_
                refine WL.r 2 rfl ?_
                refine WL.nil ?_
                refine WC.ret ?_
                refine ⟨[.string ⟨#[65, 75]⟩, .bool true], ⟨rfl, rfl⟩, ?_⟩
                subst cd6; exact ⟨rfl, hS⟩
              · refine WC.region ?_
                refine WL.r 2 rfl ?_
                refine WL.nil ?_
                refine WC.ifP rfl (fun cd7 => ?_) (fun cd7 => ?_)
                · refine WC.seq ?_
                  refine WC.region ?_
                  refine WL.r 2 rfl ?_
                  refine WL.nil ?_
                  refine WC.ret ?_
                  refine ⟨[.string ⟨#[65, 75]⟩, .bool true], ⟨rfl, rfl⟩, ?_⟩
                  subst cd7; exact ⟨rfl, hS⟩
                · refine WC.seq ?_
                  refine WC.seq ?_
                  refine WC.region ?_
                  refine WL.r 2 rfl ?_
                  refine WL.nil ?_
                  as_aux_lemma =>
                    refine WC.ifP rfl (fun cd8 => ?_) (fun cd8 => ?_)
                    · refine WC.skip ?_
                      refine WC.ifT rfl (decide_eq_true cd8) ?_
                      refine WC.seq ?_
                      refine WC.region ?_
                      refine WL.r 2 rfl ?_
                      refine WL.nil ?_
                      refine WC.ret ?_
                      refine ⟨[.string ⟨#[65, 75, 86]⟩, .bool true], ⟨rfl, rfl⟩, ?_⟩
                      subst cd8; exact ⟨rfl, hS⟩
                    · refine WC.seq ?_
                      refine WC.region ?_
                      refine WL.r 2 rfl ?_
                      refine WL.nil ?_
                      refine WC.ifP rfl (fun cd9 => ?_) (fun cd9 => ?_)
                      · refine WC.skip ?_
                        refine WC.ifT rfl (decide_eq_true cd9) ?_
                        refine WC.seq ?_
                        refine WC.region ?_
                        refine WL.r 2 rfl ?_
                        refine WL.nil ?_
                        refine WC.ret ?_
                        refine ⟨[.string ⟨#[65, 75, 86]⟩, .bool true], ⟨rfl, rfl⟩, ?_⟩
                        subst cd9; exact ⟨rfl, hS⟩
                      · refine WC.region ?_
                        refine WL.r 2 rfl ?_
                        refine WL.nil ?_
                        refine WC.ifP rfl (fun cd10 => ?_) (fun cd10 => ?_)
                        · refine WC.seq ?_
                          refine WC.region ?_
                          refine WL.r 2 rfl ?_
                          refine WL.nil ?_
                          refine WC.ret ?_
                          refine ⟨[.string ⟨#[65, 75, 86]⟩, .bool true], ⟨rfl, rfl⟩, ?_⟩
                          subst cd10; exact ⟨rfl, hS⟩
                        · refine WC.seq ?_
                          refine WC.region ?_
                          refine WL.r 2 rfl ?_
                          refine WL.nil ?_
                          refine WC.ifP rfl (fun cd11 => ?_) (fun cd11 => ?_)
                          · refine WC.seq ?_
                            refine WC.region ?_
                            refine WL.r 2 rfl ?_
                            refine WL.nil ?_
                            refine WC.ret ?_
                            refine ⟨[.string ⟨#[65, 67]⟩, .bool true], ⟨rfl, rfl⟩, ?_⟩
                            subst cd11; exact ⟨rfl, hS⟩
                          · refine WC.seq ?_
                            refine WC.region ?_
                            refine WL.r 2 rfl ?_
                            refine WL.nil ?_
                            refine WC.ifP rfl (fun cd12 => ?_) (fun cd12 => ?_)
                            · refine WC.seq ?_
                              refine WC.region ?_
                              refine WL.r 2 rfl ?_
                              refine WL.nil ?_
                              refine WC.ret ?_
                              refine ⟨[.string ⟨#[69]⟩, .bool true], ⟨rfl, rfl⟩, ?_⟩
                              subst cd12; exact ⟨rfl, hS⟩
                            · refine WC.seq ?_
                              refine WC.seq ?_
                              refine WC.region ?_
                              refine WL.r 2 rfl ?_
                              refine WL.nil ?_
                              as_aux_lemma =>
                                refine WC.ifP rfl (fun cd13 => ?_) (fun cd13 => ?_)
                                · refine WC.skip ?_
                                  refine WC.ifT rfl (decide_eq_true cd13) ?_
                                  refine WC.seq ?_
                                  refine WC.region ?_
                                  refine WL.r 2 rfl ?_
                                  refine WL.nil ?_
                                  refine WC.ret ?_
                                  refine ⟨[.string ⟨#[65]⟩, .bool true], ⟨rfl, rfl⟩, ?_⟩
                                  subst cd13; exact ⟨rfl, hS⟩
                                · refine WC.seq ?_
                                  refine WC.region ?_
                                  refine WL.r 2 rfl ?_
                                  refine WL.nil ?_
                                  refine WC.ifP rfl (fun cd14 => ?_) (fun cd14 => ?_)
                                  · refine WC.skip ?_
                                    refine WC.ifT rfl (decide_eq_true cd14) ?_
                                    refine WC.seq ?_
                                    refine WC.region ?_
                                    refine WL.r 2 rfl ?_
                                    refine WL.nil ?_
                                    refine WC.ret ?_
                                    refine ⟨[.string ⟨#[65]⟩, .bool true], ⟨rfl, rfl⟩, ?_⟩
                                    subst cd14; exact ⟨rfl, hS⟩
                                  · refine WC.seq ?_
                                    refine WC.region ?_
                                    refine WL.r 2 rfl ?_
                                    refine WL.nil ?_
                                    refine WC.ifP rfl (fun cd15 => ?_) (fun cd15 => ?_)
                                    · refine WC.skip ?_
                                      refine WC.ifT rfl (decide_eq_true cd15) ?_
                                      refine WC.seq ?_
                                      refine WC.region ?_
                                      refine WL.r 2 rfl ?_
                                      refine WL.nil ?_
                                      refine WC.ret ?_
                                      refine ⟨[.string ⟨#[65]⟩, .bool true], ⟨rfl, rfl⟩, ?_⟩
                                      subst cd15; exact ⟨rfl, hS⟩
                                    · refine WC.seq ?_
                                      refine WC.region ?_
                                      refine WL.r 2 rfl ?_
                                      refine WL.nil ?_
                                      refine WC.ifP rfl (fun cd16 => ?_) (fun cd16 => ?_)
                                      · refine WC.skip ?_
                                        refine WC.ifT rfl (decide_eq_true cd16) ?_
                                        refine WC.seq ?_
                                        refine WC.region ?_
                                        refine WL.r 2 rfl ?_
                                        refine WL.nil ?_
                                        refine WC.ret ?_
                                        refine ⟨[.string ⟨#[65]⟩, .bool true], ⟨rfl, rfl⟩, ?_⟩
                                        subst cd16; exact ⟨rfl, hS⟩
                                      · refine WC.region ?_
                                        refine WL.r 2 rfl ?_
                                        refine WL.nil ?_
                                        refine WC.ifP rfl (fun cd17 => ?_) (fun cd17 => ?_)
                                        · refine WC.seq ?_
                                          refine WC.region ?_
                                          refine WL.r 2 rfl ?_
                                          refine WL.nil ?_
                                          refine WC.ret ?_
                                          refine ⟨[.string ⟨#[65]⟩, .bool true], ⟨rfl, rfl⟩, ?_⟩
                                          subst cd17; exact ⟨rfl, hS⟩
                                        · refine WC.seq ?_
                                          refine WC.region ?_
                                          refine WL.r 2 rfl ?_
                                          refine WL.nil ?_
                                          refine WC.ifP rfl (fun cd18 => ?_) (fun cd18 => ?_)
                                          · refine WC.seq ?_
                                            refine WC.region ?_
                                            refine WL.r 2 rfl ?_
                                            refine WL.nil ?_
                                            as_aux_lemma =>
                                              refine WC.ret ?_
                                              refine ⟨[.string ⟨#[65, 66, 78]⟩, .bool true], ⟨rfl, rfl⟩, ?_⟩
                                              subst cd18; exact ⟨rfl, hS⟩
                                          · refine WC.seq ?_
                                            refine WC.region ?_
                                            refine WL.r 2 rfl ?_
                                            refine WL.nil ?_
                                            as_aux_lemma =>
                                              refine WC.ifP rfl (fun cd19 => ?_) (fun cd19 => ?_)
                                              · refine WC.seq ?_
                                                refine WC.region ?_
                                                refine WL.r 2 rfl ?_
                                                refine WL.nil ?_
                                                refine WC.ret ?_
                                                refine ⟨[.string ⟨#[65, 66, 78, 86]⟩, .bool true], ⟨rfl, rfl⟩, ?_⟩
                                                subst cd19; exact ⟨rfl, hS⟩
                                              · refine WC.seq ?_
                                                refine WC.seq ?_
                                                refine WC.region ?_
                                                refine WL.r 2 rfl ?_
                                                refine WL.nil ?_
                                                refine WC.ifP rfl (fun cd20 => ?_) (fun cd20 => ?_)
                                                · refine WC.skip ?_
                                                  refine WC.ifT rfl (decide_eq_true cd20) ?_
                                                  refine WC.seq ?_
                                                  refine WC.region ?_
                                                  refine WL.r 2 rfl ?_
                                                  refine WL.nil ?_
                                                  refine WC.ret ?_
                                                  refine ⟨[.string ⟨#[65, 76, 72, 78]⟩, .bool true], ⟨rfl, rfl⟩, ?_⟩
                                                  subst cd20; exact ⟨rfl, hS⟩
                                                · refine WC.region ?_
                                                  refine WL.r 2 rfl ?_
                                                  refine WL.nil ?_
                                                  refine WC.ifP rfl (fun cd21 => ?_) (fun cd21 => ?_)
                                                  · refine WC.seq ?_
                                                    refine WC.region ?_
                                                    refine WL.r 2 rfl ?_
                                                    refine WL.nil ?_
                                                    refine WC.ret ?_
                                                    refine ⟨[.string ⟨#[65, 76, 72, 78]⟩, .bool true], ⟨rfl, rfl⟩, ?_⟩
                                                    subst cd21; exact ⟨rfl, hS⟩
                                                  · refine WC.seq ?_
                                                    refine WC.seq ?_
                                                    refine WC.region ?_
                                                    refine WL.r 2 rfl ?_
                                                    refine WL.nil ?_
                                                    refine WC.ifP rfl (fun cd22 => ?_) (fun cd22 => ?_)
                                                    · refine WC.skip ?_
                                                      refine WC.ifT rfl (decide_eq_true cd22) ?_
                                                      refine WC.seq ?_
                                                      refine WC.region ?_
                                                      refine WL.r 2 rfl ?_
                                                      refine WL.nil ?_
                                                      refine WC.ret ?_
                                                      refine ⟨[.string ⟨#[65, 66]⟩, .bool true], ⟨rfl, rfl⟩, ?_⟩
                                                      subst cd22; exact ⟨rfl, hS⟩
                                                    · refine WC.seq ?_
                                                      refine WC.region ?_
                                                      refine WL.r 2 rfl ?_
                                                      refine WL.nil ?_
                                                      refine WC.ifP rfl (fun cd23 => ?_) (fun cd23 => ?_)
                                                      · refine WC.skip ?_
                                                        refine WC.ifT rfl (decide_eq_true cd23) ?_
                                                        refine WC.seq ?_
                                                        refine WC.region ?_
                                                        refine WL.r 2 rfl ?_
                                                        refine WL.nil ?_
                                                        as_aux_lemma =>
                                                          refine WC.ret ?_
                                                          refine ⟨[.string ⟨#[65, 66]⟩, .bool true], ⟨rfl, rfl⟩, ?_⟩
                                                          subst cd23; exact ⟨rfl, hS⟩
                                                      · refine WC.seq ?_
                                                        refine WC.region ?_
                                                        refine WL.r 2 rfl ?_
                                                        refine WL.nil ?_
                                                        as_aux_lemma =>
                                                          refine WC.ifP rfl (fun cd24 => ?_) (fun cd24 => ?_)
                                                          · refine WC.skip ?_
                                                            refine WC.ifT rfl (decide_eq_true cd24) ?_
                                                            refine WC.seq ?_
                                                            refine WC.region ?_
                                                            refine WL.r 2 rfl ?_
                                                            refine WL.nil ?_
                                                            refine WC.ret ?_
                                                            refine ⟨[.string ⟨#[65, 66]⟩, .bool true], ⟨rfl, rfl⟩, ?_⟩
                                                            subst cd24; exact ⟨rfl, hS⟩
                                                          · refine WC.region ?_
                                                            refine WL.r 2 rfl ?_
                                                            refine WL.nil ?_
                                                            refine WC.ifP rfl (fun cd25 => ?_) (fun cd25 => ?_)
                                                            · refine WC.seq ?_
                                                              refine WC.region ?_
                                                              refine WL.r 2 rfl ?_
                                                              refine WL.nil ?_
                                                              refine WC.ret ?_
                                                              refine ⟨[.string ⟨#[65, 66]⟩, .bool true], ⟨rfl, rfl⟩, ?_⟩
                                                              subst cd25; exact ⟨rfl, hS⟩
                                                            · refine WC.seq ?_
                                                              refine WC.seq ?_
                                                              refine WC.region ?_
                                                              refine WL.r 2 rfl ?_
                                                              refine WL.nil ?_
                                                              refine WC.ifP rfl (fun cd26 => ?_) (fun cd26 => ?_)
                                                              · refine WC.skip ?_
                                                                refine WC.ifT rfl (decide_eq_true cd26) ?_
                                                                refine WC.seq ?_
                                                                refine WC.region ?_
                                                                refine WL.r 2 rfl ?_
                                                                refine WL.nil ?_
                                                                refine WC.ret ?_
                                                                refine ⟨[.string ⟨#[65, 75, 78]⟩, .bool true], ⟨rfl, rfl⟩, ?_⟩
                                                                subst cd26; exact ⟨rfl, hS⟩
                                                              · refine WC.region ?_
                                                                refine WL.r 2 rfl ?_
                                                                refine WL.nil ?_
                                                                refine WC.ifP rfl (fun cd27 => ?_) (fun cd27 => ?_)
                                                                · refine WC.seq ?_
                                                                  refine WC.region ?_
                                                                  refine WL.r 2 rfl ?_
                                                                  refine WL.nil ?_
                                                                  refine WC.ret ?_
                                                                  refine ⟨[.string ⟨#[65, 75, 78]⟩, .bool true], ⟨rfl, rfl⟩, ?_⟩
                                                                  subst cd27; exact ⟨rfl, hS⟩
                                                                · refine WC.seq ?_
                                                                  refine WC.region ?_
                                                                  refine WL.r 2 rfl ?_
                                                                  refine WL.nil ?_
                                                                  refine WC.ifP rfl (fun cd28 => ?_) (fun cd28 => ?_)
                                                                  · refine WC.seq ?_
                                                                    refine WC.region ?_
                                                                    refine WL.r 2 rfl ?_
                                                                    refine WL.nil ?_
                                                                    refine WC.ret ?_
                                                                    refine ⟨[.string ⟨#[65, 78]⟩, .bool true], ⟨rfl, rfl⟩, ?_⟩
                                                                    subst cd28; exact ⟨rfl, hS⟩
                                                                  · refine WC.seq ?_
                                                                    refine WC.seq ?_
                                                                    refine WC.region ?_
                                                                    refine WL.r 2 rfl ?_
                                                                    refine WL.nil ?_
                                                                    as_aux_lemma =>
                                                                      refine WC.ifP rfl (fun cd29 => ?_) (fun cd29 => ?_)
                                                                      · refine WC.skip ?_
                                                                        refine WC.ifT rfl (decide_eq_true cd29) ?_
                                                                        refine WC.seq ?_
                                                                        refine WC.region ?_
                                                                        refine WL.r 2 rfl ?_
                                                                        refine WL.nil ?_
                                                                        refine WC.ret ?_
                                                                        refine ⟨[.string ⟨#[65, 76, 72]⟩, .bool true], ⟨rfl, rfl⟩, ?_⟩
                                                                        subst cd29; exact ⟨rfl, hS⟩
                                                                      · refine WC.seq ?_
                                                                        refine WC.region ?_
                                                                        refine WL.r 2 rfl ?_
                                                                        refine WL.nil ?_
                                                                        refine WC.ifP rfl (fun cd30 => ?_) (fun cd30 => ?_)
                                                                        · refine WC.skip ?_
                                                                          refine WC.ifT rfl (decide_eq_true cd30) ?_
                                                                          refine WC.seq ?_
                                                                          refine WC.region ?_
                                                                          refine WL.r 2 rfl ?_
                                                                          refine WL.nil ?_
                                                                          refine WC.ret ?_
                                                                          refine ⟨[.string ⟨#[65, 76, 72]⟩, .bool true], ⟨rfl, rfl⟩, ?_⟩
                                                                          subst cd30; exact ⟨rfl, hS⟩
                                                                        · refine WC.region ?_
                                                                          refine WL.r 2 rfl ?_
                                                                          refine WL.nil ?_
                                                                          refine WC.ifP rfl (fun cd31 => ?_) (fun cd31 => ?_)
                                                                          · refine WC.seq ?_
                                                                            refine WC.region ?_
                                                                            refine WL.r 2 rfl ?_
                                                                            refine WL.nil ?_
                                                                            refine WC.ret ?_
                                                                            refine ⟨[.string ⟨#[65, 76, 72]⟩, .bool true], ⟨rfl, rfl⟩, ?_⟩
                                                                            subst cd31; exact ⟨rfl, hS⟩
                                                                          · refine WC.seq ?_
                                                                            refine WC.region ?_
                                                                            refine WL.r 2 rfl ?_
                                                                            refine WL.nil ?_
                                                                            refine WC.ifP rfl (fun cd32 => ?_) (fun cd32 => ?_)
                                                                            · refine WC.seq ?_
                                                                              refine WC.region ?_
                                                                              refine WL.r 2 rfl ?_
                                                                              refine WL.nil ?_
                                                                              refine WC.ret ?_
                                                                              refine ⟨[.string ⟨#[65, 76, 72, 78, 70, 89]⟩, .bool true], ⟨rfl, rfl⟩, ?_⟩
                                                                              subst cd32; exact ⟨rfl, hS⟩
                                                                            · refine WC.seq ?_
                                                                              refine WC.region ?_
                                                                              refine WL.r 2 rfl ?_
                                                                              refine WL.nil ?_
                                                                              refine WC.ifP rfl (fun cd33 => ?_) (fun cd33 => ?_)
                                                                              · refine WC.seq ?_
                                                                                refine WC.region ?_
                                                                                refine WL.r 2 rfl ?_
                                                                                refine WL.nil ?_
                                                                                refine WC.ret ?_
                                                                                refine ⟨[.string ⟨#[65, 66, 83]⟩, .bool true], ⟨rfl, rfl⟩, ?_⟩
                                                                                subst cd33; exact ⟨rfl, hS⟩
                                                                              · refine WC.seq ?_
                                                                                refine WC.region ?_
                                                                                refine WL.r 2 rfl ?_
                                                                                refine WL.nil ?_
                                                                                refine WC.ifP rfl (fun cd34 => ?_) (fun cd34 => ?_)
                                                                                · refine WC.seq ?_
                                                                                  refine WC.region ?_
                                                                                  refine WL.r 2 rfl ?_
                                                                                  refine WL.nil ?_
                                                                                  as_aux_lemma =>
                                                                                    refine WC.ret ?_
                                                                                    refine ⟨[.string ⟨#[83]⟩, .bool true], ⟨rfl, rfl⟩, ?_⟩
                                                                                    subst cd34; exact ⟨rfl, hS⟩
                                                                                · refine WC.seq ?_
                                                                                  refine WC.region ?_
                                                                                  refine WL.r 2 rfl ?_
                                                                                  refine WL.nil ?_
                                                                                  as_aux_lemma =>
                                                                                    refine WC.ifP rfl (fun cd35 => ?_) (fun cd35 => ?_)
                                                                                    · refine WC.seq ?_
                                                                                      refine WC.region ?_
                                                                                      refine WL.r 2 rfl ?_
                                                                                      refine WL.nil ?_
                                                                                      refine WC.ret ?_
                                                                                      refine ⟨[.string ⟨#[66, 89]⟩, .bool true], ⟨rfl, rfl⟩, ?_⟩
                                                                                      subst cd35; exact ⟨rfl, hS⟩
                                                                                    · refine WC.skip ?_
                                                                                      refine WC.seq ?_
                                                                                      refine WC.region ?_
                                                                                      refine WL.r 2 rfl ?_
                                                                                      refine WL.nil ?_
                                                                                      refine WC.ret ?_
                                                                                      refine ⟨[.string ⟨#[]⟩, .bool false], ⟨rfl, rfl⟩, ?_⟩
                                                                                      have h0 : ¬ (1 ≤ c ∧ c ≤ 35) := by omega
                                                                                      rw [fs_none h0, isOp, decide_eq_false h0]; exact ⟨rfl, hS⟩
end Go.Proofs.YtloebjlnmdjeiaaGreatDoor
/-! ## Opw -/
namespace Go.Proofs.YtloebjlnmdjeiaaGreatDoor
open Go Go.V
set_option maxRecDepth 8192 in
theorem clear_spec {g w : World} {L : List HP} (y : ZM) (ab ae ac : Option Addr) (cb ce cc : Nat) (f : Int) (hS : St g (L) w) :
    Sp Tryz.prog 48 [.agg #[.int .i64 y.code, .int .u64 y.a, .int .u64 y.b, .int .i64 y.key, .int .i64 y.val, .int .i64 y.lo, .int .i64 y.hi, .int .i64 y.n, .bool y.flag, .string y.name, .slice ab y.lb cb, .slice ae y.le ce, .slice ac y.lc cc], .int .i32 f] w (fun v w' => ∃ (ab2 ae2 ac2 : Option Addr) (cb2 ce2 cc2 : Nat), v = .agg #[.int .i64 (clrZ f y).code, .int .u64 (clrZ f y).a, .int .u64 (clrZ f y).b, .int .i64 (clrZ f y).key, .int .i64 (clrZ f y).val, .int .i64 (clrZ f y).lo, .int .i64 (clrZ f y).hi, .int .i64 (clrZ f y).n, .bool (clrZ f y).flag, .string (clrZ f y).name, .slice ab2 (clrZ f y).lb cb2, .slice ae2 (clrZ f y).le ce2, .slice ac2 (clrZ f y).lc cc2] ∧ St g (L) w') := by
  refine Sp.enter Tryz.func48 rfl (by kernel_rfl) (by kernel_rfl) ?_
  refine WC.seq ?_
  refine WC.region ?_
  refine WL.box rfl rfl #[.int .i64 y.code, .int .u64 y.a, .int .u64 y.b, .int .i64 y.key, .int .i64 y.val, .int .i64 y.lo, .int .i64 y.hi, .int .i64 y.n, .bool y.flag, .string y.name, .slice ab y.lb cb, .slice ae y.le ce, .slice ac y.lc cc] hS rfl rfl (fun b1 w hS => ?_)
  refine WL.new rfl rfl zv_63 hS (fun b2 w hS => ?_)
  refine WL.nil ?_
  refine WC.seq ?_
  refine WC.seq ?_
  refine WC.region ?_
  refine WL.r 1 rfl ?_
  refine WL.nil ?_
  refine WC.block ?_
  refine WC.seq ?_
  refine WC.region ?_
  refine WL.r 2 rfl ?_
  refine WL.nil ?_
  refine WC.ifP rfl (fun cd1 => ?_) (fun cd1 => ?_)
  · refine WC.region ?_
    refine WL.r 1 rfl ?_
    refine WL.st rfl rfl rfl 1 hS rfl rfl rfl rfl rfl rfl (fun w hS => ?_)
    replace hS : St g (cel b2 #[.int .i64 0, .int .u64 0, .int .u64 0, .int .i64 0, .int .i64 0, .int .i64 0, .int .i64 0, .int .i64 0, .bool false, .string ⟨#[]⟩, .slice none 0 0, .slice none 0 0, .slice none 0 0] 63 :: cel b1 #[.int .i64 y.code, .int .u64 0, .int .u64 y.b, .int .i64 y.key, .int .i64 y.val, .int .i64 y.lo, .int .i64 y.hi, .int .i64 y.n, .bool y.flag, .string y.name, .slice ab y.lb cb, .slice ae y.le ce, .slice ac y.lc cc] 63 :: L) w := hS
    refine WL.nil ?_
    refine WC.seq ?_
    refine WC.region ?_
    refine WL.ldF rfl rfl 1 hS rfl rfl ag_63 ?_
    refine WL.stF rfl rfl rfl 0 hS rfl rfl rfl rfl rfl ag_63 (fun w hS => ?_)
    replace hS : St g (cel b2 #[.int .i64 y.code, .int .u64 0, .int .u64 y.b, .int .i64 y.key, .int .i64 y.val, .int .i64 y.lo, .int .i64 y.hi, .int .i64 y.n, .bool y.flag, .string y.name, .slice ab y.lb cb, .slice ae y.le ce, .slice ac y.lc cc] 63 :: cel b1 #[.int .i64 y.code, .int .u64 0, .int .u64 y.b, .int .i64 y.key, .int .i64 y.val, .int .i64 y.lo, .int .i64 y.hi, .int .i64 y.n, .bool y.flag, .string y.name, .slice ab y.lb cb, .slice ae y.le ce, .slice ac y.lc cc] 63 :: L) w := hS
    refine WL.nil ?_
    as_aux_lemma =>
      refine WC.ret ?_
      refine ⟨[.agg #[.int .i64 y.code, .int .u64 0, .int .u64 y.b, .int .i64 y.key, .int .i64 y.val, .int .i64 y.lo, .int .i64 y.hi, .int .i64 y.n, .bool y.flag, .string y.name, .slice ab y.lb cb, .slice ae y.le ce, .slice ac y.lc cc]], ⟨⟨_, rfl, hS.lvF 0 rfl ag_63⟩, trivial⟩, ?_⟩
      replace hS := (hS.sel 2 [] rfl)
      subst cd1; rw [clrZ_A]; exact ⟨_, _, _, _, _, _, rfl, hS⟩
  · refine WC.seq ?_
    refine WC.region ?_
    refine WL.r 2 rfl ?_
    refine WL.nil ?_
    refine WC.ifP rfl (fun cd2 => ?_) (fun cd2 => ?_)
    · refine WC.region ?_
      refine WL.r 1 rfl ?_
      refine WL.st rfl rfl rfl 1 hS rfl rfl rfl rfl rfl rfl (fun w hS => ?_)
      replace hS : St g (cel b2 #[.int .i64 0, .int .u64 0, .int .u64 0, .int .i64 0, .int .i64 0, .int .i64 0, .int .i64 0, .int .i64 0, .bool false, .string ⟨#[]⟩, .slice none 0 0, .slice none 0 0, .slice none 0 0] 63 :: cel b1 #[.int .i64 y.code, .int .u64 y.a, .int .u64 0, .int .i64 y.key, .int .i64 y.val, .int .i64 y.lo, .int .i64 y.hi, .int .i64 y.n, .bool y.flag, .string y.name, .slice ab y.lb cb, .slice ae y.le ce, .slice ac y.lc cc] 63 :: L) w := hS
      refine WL.nil ?_
      as_aux_lemma =>
        refine WC.seq ?_
        refine WC.region ?_
        refine WL.ldF rfl rfl 1 hS rfl rfl ag_63 ?_
        refine WL.stF rfl rfl rfl 0 hS rfl rfl rfl rfl rfl ag_63 (fun w hS => ?_)
        replace hS : St g (cel b2 #[.int .i64 y.code, .int .u64 y.a, .int .u64 0, .int .i64 y.key, .int .i64 y.val, .int .i64 y.lo, .int .i64 y.hi, .int .i64 y.n, .bool y.flag, .string y.name, .slice ab y.lb cb, .slice ae y.le ce, .slice ac y.lc cc] 63 :: cel b1 #[.int .i64 y.code, .int .u64 y.a, .int .u64 0, .int .i64 y.key, .int .i64 y.val, .int .i64 y.lo, .int .i64 y.hi, .int .i64 y.n, .bool y.flag, .string y.name, .slice ab y.lb cb, .slice ae y.le ce, .slice ac y.lc cc] 63 :: L) w := hS
        refine WL.nil ?_
        refine WC.ret ?_
        refine ⟨[.agg #[.int .i64 y.code, .int .u64 y.a, .int .u64 0, .int .i64 y.key, .int .i64 y.val, .int .i64 y.lo, .int .i64 y.hi, .int .i64 y.n, .bool y.flag, .string y.name, .slice ab y.lb cb, .slice ae y.le ce, .slice ac y.lc cc]], ⟨⟨_, rfl, hS.lvF 0 rfl ag_63⟩, trivial⟩, ?_⟩
        replace hS := (hS.sel 2 [] rfl)
        subst cd2; rw [clrZ_B]; exact ⟨_, _, _, _, _, _, rfl, hS⟩
    · refine WC.seq ?_
      refine WC.region ?_
      refine WL.r 2 rfl ?_
      refine WL.nil ?_
      as_aux_lemma =>
        refine WC.ifP rfl (fun cd3 => ?_) (fun cd3 => ?_)
        · refine WC.region ?_
          refine WL.r 1 rfl ?_
          refine WL.st rfl rfl rfl 1 hS rfl rfl rfl rfl rfl rfl (fun w hS => ?_)
          replace hS : St g (cel b2 #[.int .i64 0, .int .u64 0, .int .u64 0, .int .i64 0, .int .i64 0, .int .i64 0, .int .i64 0, .int .i64 0, .bool false, .string ⟨#[]⟩, .slice none 0 0, .slice none 0 0, .slice none 0 0] 63 :: cel b1 #[.int .i64 y.code, .int .u64 y.a, .int .u64 y.b, .int .i64 0, .int .i64 y.val, .int .i64 y.lo, .int .i64 y.hi, .int .i64 y.n, .bool y.flag, .string y.name, .slice ab y.lb cb, .slice ae y.le ce, .slice ac y.lc cc] 63 :: L) w := hS
          refine WL.nil ?_
          refine WC.seq ?_
          refine WC.region ?_
          refine WL.ldF rfl rfl 1 hS rfl rfl ag_63 ?_
          refine WL.stF rfl rfl rfl 0 hS rfl rfl rfl rfl rfl ag_63 (fun w hS => ?_)
          replace hS : St g (cel b2 #[.int .i64 y.code, .int .u64 y.a, .int .u64 y.b, .int .i64 0, .int .i64 y.val, .int .i64 y.lo, .int .i64 y.hi, .int .i64 y.n, .bool y.flag, .string y.name, .slice ab y.lb cb, .slice ae y.le ce, .slice ac y.lc cc] 63 :: cel b1 #[.int .i64 y.code, .int .u64 y.a, .int .u64 y.b, .int .i64 0, .int .i64 y.val, .int .i64 y.lo, .int .i64 y.hi, .int .i64 y.n, .bool y.flag, .string y.name, .slice ab y.lb cb, .slice ae y.le ce, .slice ac y.lc cc] 63 :: L) w := hS
          refine WL.nil ?_
          refine WC.ret ?_
          refine ⟨[.agg #[.int .i64 y.code, .int .u64 y.a, .int .u64 y.b, .int .i64 0, .int .i64 y.val, .int .i64 y.lo, .int .i64 y.hi, .int .i64 y.n, .bool y.flag, .string y.name, .slice ab y.lb cb, .slice ae y.le ce, .slice ac y.lc cc]], ⟨⟨_, rfl, hS.lvF 0 rfl ag_63⟩, trivial⟩, ?_⟩
          replace hS := (hS.sel 2 [] rfl)
          subst cd3; rw [clrZ_K]; exact ⟨_, _, _, _, _, _, rfl, hS⟩
        · refine WC.seq ?_
          refine WC.region ?_
          refine WL.r 2 rfl ?_
          refine WL.nil ?_
          refine WC.ifP rfl (fun cd4 => ?_) (fun cd4 => ?_)
          · refine WC.region ?_
            refine WL.r 1 rfl ?_
            refine WL.st rfl rfl rfl 1 hS rfl rfl rfl rfl rfl rfl (fun w hS => ?_)
            replace hS : St g (cel b2 #[.int .i64 0, .int .u64 0, .int .u64 0, .int .i64 0, .int .i64 0, .int .i64 0, .int .i64 0, .int .i64 0, .bool false, .string ⟨#[]⟩, .slice none 0 0, .slice none 0 0, .slice none 0 0] 63 :: cel b1 #[.int .i64 y.code, .int .u64 y.a, .int .u64 y.b, .int .i64 y.key, .int .i64 0, .int .i64 y.lo, .int .i64 y.hi, .int .i64 y.n, .bool y.flag, .string y.name, .slice ab y.lb cb, .slice ae y.le ce, .slice ac y.lc cc] 63 :: L) w := hS
            refine WL.nil ?_
            refine WC.seq ?_
            refine WC.region ?_
            refine WL.ldF rfl rfl 1 hS rfl rfl ag_63 ?_
            refine WL.stF rfl rfl rfl 0 hS rfl rfl rfl rfl rfl ag_63 (fun w hS => ?_)
            replace hS : St g (cel b2 #[.int .i64 y.code, .int .u64 y.a, .int .u64 y.b, .int .i64 y.key, .int .i64 0, .int .i64 y.lo, .int .i64 y.hi, .int .i64 y.n, .bool y.flag, .string y.name, .slice ab y.lb cb, .slice ae y.le ce, .slice ac y.lc cc] 63 :: cel b1 #[.int .i64 y.code, .int .u64 y.a, .int .u64 y.b, .int .i64 y.key, .int .i64 0, .int .i64 y.lo, .int .i64 y.hi, .int .i64 y.n, .bool y.flag, .string y.name, .slice ab y.lb cb, .slice ae y.le ce, .slice ac y.lc cc] 63 :: L) w := hS
            refine WL.nil ?_
            refine WC.ret ?_
            refine ⟨[.agg #[.int .i64 y.code, .int .u64 y.a, .int .u64 y.b, .int .i64 y.key, .int .i64 0, .int .i64 y.lo, .int .i64 y.hi, .int .i64 y.n, .bool y.flag, .string y.name, .slice ab y.lb cb, .slice ae y.le ce, .slice ac y.lc cc]], ⟨⟨_, rfl, hS.lvF 0 rfl ag_63⟩, trivial⟩, ?_⟩
            replace hS := (hS.sel 2 [] rfl)
            subst cd4; rw [clrZ_V]; exact ⟨_, _, _, _, _, _, rfl, hS⟩
          · refine WC.seq ?_
            refine WC.region ?_
            refine WL.r 2 rfl ?_
            refine WL.nil ?_
            refine WC.ifP rfl (fun cd5 => ?_) (fun cd5 => ?_)
            · refine WC.region ?_
              refine WL.r 1 rfl ?_
              refine WL.st rfl rfl rfl 1 hS rfl rfl rfl rfl rfl rfl (fun w hS => ?_)
              replace hS : St g (cel b2 #[.int .i64 0, .int .u64 0, .int .u64 0, .int .i64 0, .int .i64 0, .int .i64 0, .int .i64 0, .int .i64 0, .bool false, .string ⟨#[]⟩, .slice none 0 0, .slice none 0 0, .slice none 0 0] 63 :: cel b1 #[.int .i64 y.code, .int .u64 y.a, .int .u64 y.b, .int .i64 y.key, .int .i64 y.val, .int .i64 0, .int .i64 y.hi, .int .i64 y.n, .bool y.flag, .string y.name, .slice ab y.lb cb, .slice ae y.le ce, .slice ac y.lc cc] 63 :: L) w := hS
              refine WL.nil ?_
              refine WC.seq ?_
              refine WC.region ?_
              refine WL.ldF rfl rfl 1 hS rfl rfl ag_63 ?_
              refine WL.stF rfl rfl rfl 0 hS rfl rfl rfl rfl rfl ag_63 (fun w hS => ?_)
              replace hS : St g (cel b2 #[.int .i64 y.code, .int .u64 y.a, .int .u64 y.b, .int .i64 y.key, .int .i64 y.val, .int .i64 0, .int .i64 y.hi, .int .i64 y.n, .bool y.flag, .string y.name, .slice ab y.lb cb, .slice ae y.le ce, .slice ac y.lc cc] 63 :: cel b1 #[.int .i64 y.code, .int .u64 y.a, .int .u64 y.b, .int .i64 y.key, .int .i64 y.val, .int .i64 0, .int .i64 y.hi, .int .i64 y.n, .bool y.flag, .string y.name, .slice ab y.lb cb, .slice ae y.le ce, .slice ac y.lc cc] 63 :: L) w := hS
              refine WL.nil ?_
              refine WC.ret ?_
              refine ⟨[.agg #[.int .i64 y.code, .int .u64 y.a, .int .u64 y.b, .int .i64 y.key, .int .i64 y.val, .int .i64 0, .int .i64 y.hi, .int .i64 y.n, .bool y.flag, .string y.name, .slice ab y.lb cb, .slice ae y.le ce, .slice ac y.lc cc]], ⟨⟨_, rfl, hS.lvF 0 rfl ag_63⟩, trivial⟩, ?_⟩
              replace hS := (hS.sel 2 [] rfl)
              subst cd5; rw [clrZ_L]; exact ⟨_, _, _, _, _, _, rfl, hS⟩
            · refine WC.seq ?_
              refine WC.region ?_
              refine WL.r 2 rfl ?_
              refine WL.nil ?_
              refine WC.ifP rfl (fun cd6 => ?_) (fun cd6 => ?_)
              · refine WC.region ?_
                refine WL.r 1 rfl ?_
                refine WL.st rfl rfl rfl 1 hS rfl rfl rfl rfl rfl rfl (fun w hS => ?_)
                replace hS : St g (cel b2 #[.int .i64 0, .int .u64 0, .int .u64 0, .int .i64 0, .int .i64 0, .int .i64 0, .int .i64 0, .int .i64 0, .bool false, .string ⟨#[]⟩, .slice none 0 0, .slice none 0 0, .slice none 0 0] 63 :: cel b1 #[.int .i64 y.code, .int .u64 y.a, .int .u64 y.b, .int .i64 y.key, .int .i64 y.val, .int .i64 y.lo, .int .i64 0, .int .i64 y.n, .bool y.flag, .string y.name, .slice ab y.lb cb, .slice ae y.le ce, .slice ac y.lc cc] 63 :: L) w := hS
                refine WL.nil ?_
                refine WC.seq ?_
                refine WC.region ?_
                refine WL.ldF rfl rfl 1 hS rfl rfl ag_63 ?_
                refine WL.stF rfl rfl rfl 0 hS rfl rfl rfl rfl rfl ag_63 (fun w hS => ?_)
                replace hS : St g (cel b2 #[.int .i64 y.code, .int .u64 y.a, .int .u64 y.b, .int .i64 y.key, .int .i64 y.val, .int .i64 y.lo, .int .i64 0, .int .i64 y.n, .bool y.flag, .string y.name, .slice ab y.lb cb, .slice ae y.le ce, .slice ac y.lc cc] 63 :: cel b1 #[.int .i64 y.code, .int .u64 y.a, .int .u64 y.b, .int .i64 y.key, .int .i64 y.val, .int .i64 y.lo, .int .i64 0, .int .i64 y.n, .bool y.flag, .string y.name, .slice ab y.lb cb, .slice ae y.le ce, .slice ac y.lc cc] 63 :: L) w := hS
                refine WL.nil ?_
                as_aux_lemma =>
                  refine WC.ret ?_
                  refine ⟨[.agg #[.int .i64 y.code, .int .u64 y.a, .int .u64 y.b, .int .i64 y.key, .int .i64 y.val, .int .i64 y.lo, .int .i64 0, .int .i64 y.n, .bool y.flag, .string y.name, .slice ab y.lb cb, .slice ae y.le ce, .slice ac y.lc cc]], ⟨⟨_, rfl, hS.lvF 0 rfl ag_63⟩, trivial⟩, ?_⟩
                  replace hS := (hS.sel 2 [] rfl)
                  subst cd6; rw [clrZ_H]; exact ⟨_, _, _, _, _, _, rfl, hS⟩
              · refine WC.seq ?_
                refine WC.region ?_
                refine WL.r 2 rfl ?_
                refine WL.nil ?_
                refine WC.ifP rfl (fun cd7 => ?_) (fun cd7 => ?_)
                · refine WC.region ?_
                  refine WL.r 1 rfl ?_
                  refine WL.st rfl rfl rfl 1 hS rfl rfl rfl rfl rfl rfl (fun w hS => ?_)
                  replace hS : St g (cel b2 #[.int .i64 0, .int .u64 0, .int .u64 0, .int .i64 0, .int .i64 0, .int .i64 0, .int .i64 0, .int .i64 0, .bool false, .string ⟨#[]⟩, .slice none 0 0, .slice none 0 0, .slice none 0 0] 63 :: cel b1 #[.int .i64 y.code, .int .u64 y.a, .int .u64 y.b, .int .i64 y.key, .int .i64 y.val, .int .i64 y.lo, .int .i64 y.hi, .int .i64 0, .bool y.flag, .string y.name, .slice ab y.lb cb, .slice ae y.le ce, .slice ac y.lc cc] 63 :: L) w := hS
                  refine WL.nil ?_
                  as_aux_lemma =>
                    refine WC.seq ?_
                    refine WC.region ?_
                    refine WL.ldF rfl rfl 1 hS rfl rfl ag_63 ?_
                    refine WL.stF rfl rfl rfl 0 hS rfl rfl rfl rfl rfl ag_63 (fun w hS => ?_)
                    replace hS : St g (cel b2 #[.int .i64 y.code, .int .u64 y.a, .int .u64 y.b, .int .i64 y.key, .int .i64 y.val, .int .i64 y.lo, .int .i64 y.hi, .int .i64 0, .bool y.flag, .string y.name, .slice ab y.lb cb, .slice ae y.le ce, .slice ac y.lc cc] 63 :: cel b1 #[.int .i64 y.code, .int .u64 y.a, .int .u64 y.b, .int .i64 y.key, .int .i64 y.val, .int .i64 y.lo, .int .i64 y.hi, .int .i64 0, .bool y.flag, .string y.name, .slice ab y.lb cb, .slice ae y.le ce, .slice ac y.lc cc] 63 :: L) w := hS
                    refine WL.nil ?_
                    refine WC.ret ?_
                    refine ⟨[.agg #[.int .i64 y.code, .int .u64 y.a, .int .u64 y.b, .int .i64 y.key, .int .i64 y.val, .int .i64 y.lo, .int .i64 y.hi, .int .i64 0, .bool y.flag, .string y.name, .slice ab y.lb cb, .slice ae y.le ce, .slice ac y.lc cc]], ⟨⟨_, rfl, hS.lvF 0 rfl ag_63⟩, trivial⟩, ?_⟩
                    replace hS := (hS.sel 2 [] rfl)
                    subst cd7; rw [clrZ_N]; exact ⟨_, _, _, _, _, _, rfl, hS⟩
                · refine WC.seq ?_
                  refine WC.region ?_
                  refine WL.r 2 rfl ?_
                  refine WL.nil ?_
                  as_aux_lemma =>
                    refine WC.ifP rfl (fun cd8 => ?_) (fun cd8 => ?_)
                    · refine WC.region ?_
                      refine WL.r 1 rfl ?_
                      refine WL.st rfl rfl rfl 1 hS rfl rfl rfl rfl rfl rfl (fun w hS => ?_)
                      replace hS : St g (cel b2 #[.int .i64 0, .int .u64 0, .int .u64 0, .int .i64 0, .int .i64 0, .int .i64 0, .int .i64 0, .int .i64 0, .bool false, .string ⟨#[]⟩, .slice none 0 0, .slice none 0 0, .slice none 0 0] 63 :: cel b1 #[.int .i64 y.code, .int .u64 y.a, .int .u64 y.b, .int .i64 y.key, .int .i64 y.val, .int .i64 y.lo, .int .i64 y.hi, .int .i64 y.n, .bool false, .string y.name, .slice ab y.lb cb, .slice ae y.le ce, .slice ac y.lc cc] 63 :: L) w := hS
                      refine WL.nil ?_
                      refine WC.seq ?_
                      refine WC.region ?_
                      refine WL.ldF rfl rfl 1 hS rfl rfl ag_63 ?_
                      refine WL.stF rfl rfl rfl 0 hS rfl rfl rfl rfl rfl ag_63 (fun w hS => ?_)
                      replace hS : St g (cel b2 #[.int .i64 y.code, .int .u64 y.a, .int .u64 y.b, .int .i64 y.key, .int .i64 y.val, .int .i64 y.lo, .int .i64 y.hi, .int .i64 y.n, .bool false, .string y.name, .slice ab y.lb cb, .slice ae y.le ce, .slice ac y.lc cc] 63 :: cel b1 #[.int .i64 y.code, .int .u64 y.a, .int .u64 y.b, .int .i64 y.key, .int .i64 y.val, .int .i64 y.lo, .int .i64 y.hi, .int .i64 y.n, .bool false, .string y.name, .slice ab y.lb cb, .slice ae y.le ce, .slice ac y.lc cc] 63 :: L) w := hS
                      refine WL.nil ?_
                      refine WC.ret ?_
                      refine ⟨[.agg #[.int .i64 y.code, .int .u64 y.a, .int .u64 y.b, .int .i64 y.key, .int .i64 y.val, .int .i64 y.lo, .int .i64 y.hi, .int .i64 y.n, .bool false, .string y.name, .slice ab y.lb cb, .slice ae y.le ce, .slice ac y.lc cc]], ⟨⟨_, rfl, hS.lvF 0 rfl ag_63⟩, trivial⟩, ?_⟩
                      replace hS := (hS.sel 2 [] rfl)
                      subst cd8; rw [clrZ_F]; exact ⟨_, _, _, _, _, _, rfl, hS⟩
                    · refine WC.seq ?_
                      refine WC.region ?_
                      refine WL.r 2 rfl ?_
                      refine WL.nil ?_
                      refine WC.ifP rfl (fun cd9 => ?_) (fun cd9 => ?_)
                      · refine WC.region ?_
                        refine WL.r 1 rfl ?_
                        refine WL.st rfl rfl rfl 1 hS rfl rfl rfl rfl rfl rfl (fun w hS => ?_)
                        replace hS : St g (cel b2 #[.int .i64 0, .int .u64 0, .int .u64 0, .int .i64 0, .int .i64 0, .int .i64 0, .int .i64 0, .int .i64 0, .bool false, .string ⟨#[]⟩, .slice none 0 0, .slice none 0 0, .slice none 0 0] 63 :: cel b1 #[.int .i64 y.code, .int .u64 y.a, .int .u64 y.b, .int .i64 y.key, .int .i64 y.val, .int .i64 y.lo, .int .i64 y.hi, .int .i64 y.n, .bool y.flag, .string ⟨#[]⟩, .slice ab y.lb cb, .slice ae y.le ce, .slice ac y.lc cc] 63 :: L) w := hS
                        refine WL.nil ?_
                        refine WC.seq ?_
                        refine WC.region ?_
                        refine WL.ldF rfl rfl 1 hS rfl rfl ag_63 ?_
                        refine WL.stF rfl rfl rfl 0 hS rfl rfl rfl rfl rfl ag_63 (fun w hS => ?_)
                        replace hS : St g (cel b2 #[.int .i64 y.code, .int .u64 y.a, .int .u64 y.b, .int .i64 y.key, .int .i64 y.val, .int .i64 y.lo, .int .i64 y.hi, .int .i64 y.n, .bool y.flag, .string ⟨#[]⟩, .slice ab y.lb cb, .slice ae y.le ce, .slice ac y.lc cc] 63 :: cel b1 #[.int .i64 y.code, .int .u64 y.a, .int .u64 y.b, .int .i64 y.key, .int .i64 y.val, .int .i64 y.lo, .int .i64 y.hi, .int .i64 y.n, .bool y.flag, .string ⟨#[]⟩, .slice ab y.lb cb, .slice ae y.le ce, .slice ac y.lc cc] 63 :: L) w := hS
                        refine WL.nil ?_
                        refine WC.ret ?_
                        refine ⟨[.agg #[.int .i64 y.code, .int .u64 y.a, .int .u64 y.b, .int .i64 y.key, .int .i64 y.val, .int .i64 y.lo, .int .i64 y.hi, .int .i64 y.n, .bool y.flag, .string ⟨#[]⟩, .slice ab y.lb cb, .slice ae y.le ce, .slice ac y.lc cc]], ⟨⟨_, rfl, hS.lvF 0 rfl ag_63⟩, trivial⟩, ?_⟩
                        replace hS := (hS.sel 2 [] rfl)
                        subst cd9; rw [clrZ_S]; exact ⟨_, _, _, _, _, _, rfl, hS⟩
                      · refine WC.seq ?_
                        refine WC.region ?_
                        refine WL.r 2 rfl ?_
                        refine WL.nil ?_
                        refine WC.ifP rfl (fun cd10 => ?_) (fun cd10 => ?_)
                        · refine WC.region ?_
                          refine WL.r 1 rfl ?_
                          refine WL.st rfl rfl rfl 1 hS rfl rfl rfl rfl rfl rfl (fun w hS => ?_)
                          replace hS : St g (cel b2 #[.int .i64 0, .int .u64 0, .int .u64 0, .int .i64 0, .int .i64 0, .int .i64 0, .int .i64 0, .int .i64 0, .bool false, .string ⟨#[]⟩, .slice none 0 0, .slice none 0 0, .slice none 0 0] 63 :: cel b1 #[.int .i64 y.code, .int .u64 y.a, .int .u64 y.b, .int .i64 y.key, .int .i64 y.val, .int .i64 y.lo, .int .i64 y.hi, .int .i64 y.n, .bool y.flag, .string y.name, .slice none 0 0, .slice ae y.le ce, .slice ac y.lc cc] 63 :: L) w := hS
                          refine WL.nil ?_
                          refine WC.seq ?_
                          refine WC.region ?_
                          refine WL.ldF rfl rfl 1 hS rfl rfl ag_63 ?_
                          refine WL.stF rfl rfl rfl 0 hS rfl rfl rfl rfl rfl ag_63 (fun w hS => ?_)
                          replace hS : St g (cel b2 #[.int .i64 y.code, .int .u64 y.a, .int .u64 y.b, .int .i64 y.key, .int .i64 y.val, .int .i64 y.lo, .int .i64 y.hi, .int .i64 y.n, .bool y.flag, .string y.name, .slice none 0 0, .slice ae y.le ce, .slice ac y.lc cc] 63 :: cel b1 #[.int .i64 y.code, .int .u64 y.a, .int .u64 y.b, .int .i64 y.key, .int .i64 y.val, .int .i64 y.lo, .int .i64 y.hi, .int .i64 y.n, .bool y.flag, .string y.name, .slice none 0 0, .slice ae y.le ce, .slice ac y.lc cc] 63 :: L) w := hS
                          refine WL.nil ?_
                          refine WC.ret ?_
                          refine ⟨[.agg #[.int .i64 y.code, .int .u64 y.a, .int .u64 y.b, .int .i64 y.key, .int .i64 y.val, .int .i64 y.lo, .int .i64 y.hi, .int .i64 y.n, .bool y.flag, .string y.name, .slice none 0 0, .slice ae y.le ce, .slice ac y.lc cc]], ⟨⟨_, rfl, hS.lvF 0 rfl ag_63⟩, trivial⟩, ?_⟩
                          replace hS := (hS.sel 2 [] rfl)
                          subst cd10; rw [clrZ_Y]; exact ⟨_, _, _, _, _, _, rfl, hS⟩
                        · refine WC.seq ?_
                          refine WC.region ?_
                          refine WL.r 2 rfl ?_
                          refine WL.nil ?_
                          refine WC.ifP rfl (fun cd11 => ?_) (fun cd11 => ?_)
                          · refine WC.region ?_
                            refine WL.r 1 rfl ?_
                            refine WL.st rfl rfl rfl 1 hS rfl rfl rfl rfl rfl rfl (fun w hS => ?_)
                            replace hS : St g (cel b2 #[.int .i64 0, .int .u64 0, .int .u64 0, .int .i64 0, .int .i64 0, .int .i64 0, .int .i64 0, .int .i64 0, .bool false, .string ⟨#[]⟩, .slice none 0 0, .slice none 0 0, .slice none 0 0] 63 :: cel b1 #[.int .i64 y.code, .int .u64 y.a, .int .u64 y.b, .int .i64 y.key, .int .i64 y.val, .int .i64 y.lo, .int .i64 y.hi, .int .i64 y.n, .bool y.flag, .string y.name, .slice ab y.lb cb, .slice none 0 0, .slice ac y.lc cc] 63 :: L) w := hS
                            refine WL.nil ?_
                            refine WC.seq ?_
                            refine WC.region ?_
                            refine WL.ldF rfl rfl 1 hS rfl rfl ag_63 ?_
                            refine WL.stF rfl rfl rfl 0 hS rfl rfl rfl rfl rfl ag_63 (fun w hS => ?_)
                            replace hS : St g (cel b2 #[.int .i64 y.code, .int .u64 y.a, .int .u64 y.b, .int .i64 y.key, .int .i64 y.val, .int .i64 y.lo, .int .i64 y.hi, .int .i64 y.n, .bool y.flag, .string y.name, .slice ab y.lb cb, .slice none 0 0, .slice ac y.lc cc] 63 :: cel b1 #[.int .i64 y.code, .int .u64 y.a, .int .u64 y.b, .int .i64 y.key, .int .i64 y.val, .int .i64 y.lo, .int .i64 y.hi, .int .i64 y.n, .bool y.flag, .string y.name, .slice ab y.lb cb, .slice none 0 0, .slice ac y.lc cc] 63 :: L) w := hS
                            refine WL.nil ?_
                            as_aux_lemma =>
                              refine WC.ret ?_
                              refine ⟨[.agg #[.int .i64 y.code, .int .u64 y.a, .int .u64 y.b, .int .i64 y.key, .int .i64 y.val, .int .i64 y.lo, .int .i64 y.hi, .int .i64 y.n, .bool y.flag, .string y.name, .slice ab y.lb cb, .slice none 0 0, .slice ac y.lc cc]], ⟨⟨_, rfl, hS.lvF 0 rfl ag_63⟩, trivial⟩, ?_⟩
                              replace hS := (hS.sel 2 [] rfl)
                              subst cd11; rw [clrZ_E]; exact ⟨_, _, _, _, _, _, rfl, hS⟩
                          · refine WC.seq ?_
                            refine WC.region ?_
                            refine WL.r 2 rfl ?_
                            refine WL.nil ?_
                            refine WC.ifP rfl (fun cd12 => ?_) (fun cd12 => ?_)
                            · refine WC.region ?_
                              refine WL.r 1 rfl ?_
                              refine WL.st rfl rfl rfl 1 hS rfl rfl rfl rfl rfl rfl (fun w hS => ?_)
                              replace hS : St g (cel b2 #[.int .i64 0, .int .u64 0, .int .u64 0, .int .i64 0, .int .i64 0, .int .i64 0, .int .i64 0, .int .i64 0, .bool false, .string ⟨#[]⟩, .slice none 0 0, .slice none 0 0, .slice none 0 0] 63 :: cel b1 #[.int .i64 y.code, .int .u64 y.a, .int .u64 y.b, .int .i64 y.key, .int .i64 y.val, .int .i64 y.lo, .int .i64 y.hi, .int .i64 y.n, .bool y.flag, .string y.name, .slice ab y.lb cb, .slice ae y.le ce, .slice none 0 0] 63 :: L) w := hS
                              refine WL.nil ?_
                              as_aux_lemma =>
                                refine WC.seq ?_
                                refine WC.region ?_
                                refine WL.ldF rfl rfl 1 hS rfl rfl ag_63 ?_
                                refine WL.stF rfl rfl rfl 0 hS rfl rfl rfl rfl rfl ag_63 (fun w hS => ?_)
                                replace hS : St g (cel b2 #[.int .i64 y.code, .int .u64 y.a, .int .u64 y.b, .int .i64 y.key, .int .i64 y.val, .int .i64 y.lo, .int .i64 y.hi, .int .i64 y.n, .bool y.flag, .string y.name, .slice ab y.lb cb, .slice ae y.le ce, .slice none 0 0] 63 :: cel b1 #[.int .i64 y.code, .int .u64 y.a, .int .u64 y.b, .int .i64 y.key, .int .i64 y.val, .int .i64 y.lo, .int .i64 y.hi, .int .i64 y.n, .bool y.flag, .string y.name, .slice ab y.lb cb, .slice ae y.le ce, .slice none 0 0] 63 :: L) w := hS
                                refine WL.nil ?_
                                refine WC.ret ?_
                                refine ⟨[.agg #[.int .i64 y.code, .int .u64 y.a, .int .u64 y.b, .int .i64 y.key, .int .i64 y.val, .int .i64 y.lo, .int .i64 y.hi, .int .i64 y.n, .bool y.flag, .string y.name, .slice ab y.lb cb, .slice ae y.le ce, .slice none 0 0]], ⟨⟨_, rfl, hS.lvF 0 rfl ag_63⟩, trivial⟩, ?_⟩
                                replace hS := (hS.sel 2 [] rfl)
                                subst cd12; rw [clrZ_C]; exact ⟨_, _, _, _, _, _, rfl, hS⟩
                            · refine WC.skip ?_
                              refine WC.seq ?_
                              refine WC.region ?_
                              refine WL.ldF rfl rfl 1 hS rfl rfl ag_63 ?_
                              refine WL.stF rfl rfl rfl 0 hS rfl rfl rfl rfl rfl ag_63 (fun w hS => ?_)
                              replace hS : St g (cel b2 #[.int .i64 y.code, .int .u64 y.a, .int .u64 y.b, .int .i64 y.key, .int .i64 y.val, .int .i64 y.lo, .int .i64 y.hi, .int .i64 y.n, .bool y.flag, .string y.name, .slice ab y.lb cb, .slice ae y.le ce, .slice ac y.lc cc] 63 :: cel b1 #[.int .i64 y.code, .int .u64 y.a, .int .u64 y.b, .int .i64 y.key, .int .i64 y.val, .int .i64 y.lo, .int .i64 y.hi, .int .i64 y.n, .bool y.flag, .string y.name, .slice ab y.lb cb, .slice ae y.le ce, .slice ac y.lc cc] 63 :: L) w := hS
                              refine WL.nil ?_
                              as_aux_lemma =>
                                refine WC.ret ?_
                                refine ⟨[.agg #[.int .i64 y.code, .int .u64 y.a, .int .u64 y.b, .int .i64 y.key, .int .i64 y.val, .int .i64 y.lo, .int .i64 y.hi, .int .i64 y.n, .bool y.flag, .string y.name, .slice ab y.lb cb, .slice ae y.le ce, .slice ac y.lc cc]], ⟨⟨_, rfl, hS.lvF 0 rfl ag_63⟩, trivial⟩, ?_⟩
                                replace hS := (hS.sel 2 [] rfl)
                                rw [clrZ_no (by unfold Ltr; omega)]; exact ⟨_, _, _, _, _, _, rfl, hS⟩
end Go.Proofs.YtloebjlnmdjeiaaGreatDoor
/-! ## App -/
namespace Go.Proofs.YtloebjlnmdjeiaaGreatDoor
open Go Go.V
set_option maxRecDepth 8192 in
theorem valid_spec {g w : World} {L : List HP} (x : OpM) (ab ae ac : Option Addr) (cb ce cc : Nat) (hS : St g (Sh 125 4 (ch4 x.chs) ac cc :: L) w) :
    Sp Tryz.prog 23 [.agg #[.int .i64 x.code, .int .u64 x.a, .int .u64 x.b, .int .i64 x.key, .int .i64 x.val, .int .i64 x.lo, .int .i64 x.hi, .int .i64 x.n, .bool x.flag, .string x.name, .slice ab (List.length (by8 x.bytes)) cb, .slice ae (List.length (en2 x.ents)) ce, .slice ac (List.length (ch4 x.chs)) cc]] w (fun v w' => ∃ (ok : Bool), v = .bool ok ∧ St g (Sh 125 4 (ch4 x.chs) ac cc :: L) w' ∧ (ok = true ↔ okOp x)) := by
  refine Sp.enter Tryz.func23 rfl (by kernel_rfl) (by kernel_rfl) ?_
  refine WC.seq ?_
  refine WC.region ?_
  refine WL.box rfl rfl #[.int .i64 x.code, .int .u64 x.a, .int .u64 x.b, .int .i64 x.key, .int .i64 x.val, .int .i64 x.lo, .int .i64 x.hi, .int .i64 x.n, .bool x.flag, .string x.name, .slice ab (List.length (by8 x.bytes)) cb, .slice ae (List.length (en2 x.ents)) ce, .slice ac (List.length (ch4 x.chs)) cc] hS rfl rfl (fun b1 w hS => ?_)
  refine WL.r 1 rfl ?_
  refine WL.nil ?_
  refine WC.seq ?_
  refine WC.region ?_
  refine WL.run 2 [.int .i64 x.code] rfl (by exact hS.ld 0 rfl rfl) ?_
  refine WL.call rfl rfl (fields_spec (c := x.code)  (hS := hS)) rfl ?_
  clear hS; rintro _ w ⟨rfl, hS⟩
  replace hS : St g (cel b1 #[.int .i64 x.code, .int .u64 x.a, .int .u64 x.b, .int .i64 x.key, .int .i64 x.val, .int .i64 x.lo, .int .i64 x.hi, .int .i64 x.n, .bool x.flag, .string x.name, .slice ab (List.length (by8 x.bytes)) cb, .slice ae (List.length (en2 x.ents)) ce, .slice ac (List.length (ch4 x.chs)) cc] 63 :: Sh 125 4 (ch4 x.chs) ac cc :: L) w := hS
  refine WL.r 5 rfl ?_
  refine WL.nil ?_
  refine WC.seq ?_
  refine WC.seq ?_
  refine WC.region ?_
  refine WL.r 2 rfl ?_
  refine WL.runG 34 [.int .i64 x.n, .int .i64 x.n, .string x.name, .slice ab (List.length (by8 x.bytes)) cb, .slice ae (List.length (en2 x.ents)) ce, .slice ac (List.length (ch4 x.chs)) cc] rfl (by exact ⟨fun _ => hS.ld 0 rfl rfl, fun _ => hS.ld 0 rfl rfl, fun _ => hS.ld 0 rfl rfl, fun _ => hS.ld 0 rfl rfl, fun _ => hS.ld 0 rfl rfl, fun _ => hS.ld 0 rfl rfl⟩) (fun j => ?_)
  refine WL.prop 52 rfl (bor (bor (bor (bor (bor (bor (bnot (dv _)) (dd _)) (dd _)) (dd _)) (dd _)) (dd _)) (dd _)) ?_
  refine WL.nil ?_
  refine WC.ifP rfl (fun cd1 => ?_) (fun cd1 => ?_)
  · refine WC.seq ?_
    refine WC.region ?_
    have hl4 := ch4_len x.chs; have hl2 := en2_len x.ents; have hl1 := by8_len x.bytes
    refine WL.r 1 rfl ?_
    refine WL.nil ?_
    as_aux_lemma =>
      refine WC.ret ?_
      refine ⟨[.bool false], rfl, ?_⟩
      replace hS := (hS.sel 1 [] rfl)
      refine ⟨_, rfl, hS, ⟨fun h => (by cases h), fun h => ?_⟩⟩
      obtain ⟨h1, ⟨h2, h3, h4, h5, h6⟩, _⟩ := h
      rcases cd1 with ((((((c | c) | c) | c) | c) | c) | c)
      · exact absurd h1 c
      all_goals omega
  · refine WC.skip ?_
    refine WC.seq ?_
    refine WC.seq ?_
    refine WC.region ?_
    have hl4 := ch4_len x.chs; have hl2 := en2_len x.ents; have hl1 := by8_len x.bytes
    refine WL.run 4 [.slice ac (List.length (ch4 x.chs)) cc] rfl (by exact hS.ld 0 rfl rfl) ?_
    refine WL.nil ?_
    as_aux_lemma =>
      refine WC.block ?_
      refine WC.loop [1, 3, 54, 55, 56] (fun kM vs w => ∃ (k : Nat), vs = [.pointer (some ⟨b1, 0, none⟩), .string (mkS (fs x.code)), .slice ac (List.length (ch4 x.chs)) cc, .int .i64 (List.length (ch4 x.chs) : Int), .int .i64 (k : Int)] ∧ St g (cel b1 #[.int .i64 x.code, .int .u64 x.a, .int .u64 x.b, .int .i64 x.key, .int .i64 x.val, .int .i64 x.lo, .int .i64 x.hi, .int .i64 x.n, .bool x.flag, .string x.name, .slice ab (List.length (by8 x.bytes)) cb, .slice ae (List.length (en2 x.ents)) ce, .slice ac (List.length (ch4 x.chs)) cc] 63 :: Sh 125 4 (ch4 x.chs) ac cc :: L) w ∧ (k ≤ x.chs.length) ∧ (∀ y ∈ x.chs.take k, 0 ≤ y.1 ∧ y.1 ≤ 255) ∧ (x.chs.length - k) = kM) ((List.length x.chs) - 0) ⟨0, rfl, hS, (Nat.zero_le _), (fun _ h => by cases h), rfl⟩ ?_
      clear hS; rintro _ _ w j ⟨k, rfl, hS, hk, hall, rfl⟩
      refine WC.seq ?_
      refine WC.region ?_
      have hl4 := ch4_len x.chs; have hl2 := en2_len x.ents; have hl1 := by8_len x.bytes
      refine WL.r 1 rfl ?_
      refine WL.nil ?_
      refine WC.seq ?_
      refine WC.ifP rfl (fun cd2 => ?_) (fun cd2 => ?_)
      · refine WC.skip ?_
        refine WC.seq ?_
        refine WC.block ?_
        refine WC.seq ?_
        refine WC.region ?_
        obtain ⟨y, hy⟩ : ∃ y, x.chs[k]? = some y := ⟨_, List.getElem?_eq_getElem (by omega)⟩
        refine WL.ix rfl rfl (i := (k : Int)) (k) el_56 rfl rfl (by omega) (len_of (ch4_at hy)) (hS.rdS 1 rfl (ch4_at hy)).1 ?_
        refine WL.ldC rfl rfl [.int .i64 y.1, .int .i64 y.2.1, .int .i64 y.2.2.1, .int .i64 y.2.2.2] ag_125 rfl (hS.rdS 1 rfl (ch4_at hy)).2 ?_
        refine WL.new rfl rfl zv_125 hS (fun b2 w hS => ?_)
        refine WL.stF rfl rfl rfl 0 hS rfl rfl rfl rfl rfl ag_125 (fun w hS => ?_)
        replace hS : St g (cel b2 #[.int .i64 y.1, .int .i64 y.2.1, .int .i64 y.2.2.1, .int .i64 y.2.2.2] 125 :: cel b1 #[.int .i64 x.code, .int .u64 x.a, .int .u64 x.b, .int .i64 x.key, .int .i64 x.val, .int .i64 x.lo, .int .i64 x.hi, .int .i64 x.n, .bool x.flag, .string x.name, .slice ab (List.length (by8 x.bytes)) cb, .slice ae (List.length (en2 x.ents)) ce, .slice ac (List.length (ch4 x.chs)) cc] 63 :: Sh 125 4 (ch4 x.chs) ac cc :: L) w := hS
        refine WL.nil ?_
        refine WC.seq ?_
        refine WC.region ?_
        refine WL.run 3 [.int .i64 y.1] rfl (by exact hS.ld 0 rfl rfl) ?_
        refine WL.runG 5 [.int .i64 y.1] rfl (by exact (fun _ => hS.ld 0 rfl rfl)) (fun j => ?_)
        refine WL.prop 67 rfl (bor (dd _) (dd _)) ?_
        refine WL.nil ?_
        as_aux_lemma =>
          refine WC.ifP rfl (fun cd3 => ?_) (fun cd3 => ?_)
          · refine WC.seq ?_
            refine WC.region ?_
            refine WL.r 1 rfl ?_
            refine WL.nil ?_
            refine WC.ret ?_
            refine ⟨[.bool false], rfl, ?_⟩
            replace hS := (hS.sel 2 [] rfl)
            refine ⟨_, rfl, hS, ⟨fun h => (by cases h), fun h => ?_⟩⟩
            have := h.2.2.1 y (List.mem_of_getElem? hy); omega
          · refine WC.skip ?_
            refine WC.region ?_
            refine WL.r 1 rfl ?_
            refine WL.nw 68 rfl (w64 (by omega)) ?_
            refine WL.r 1 rfl ?_
            refine WL.nil ?_
            exact ⟨_, by omega, k + 1, rfl, (hS.sel 1 [] rfl), (by omega), (fun z hz => by rw [List.take_add_one, hy] at hz; simp only [Option.toList, List.mem_append, List.mem_singleton] at hz; rcases hz with hz | rfl <;> first | exact hall z hz | omega), rfl⟩
      · refine WC.exit ?_
        refine WC.seq ?_
        refine WC.region ?_
        refine WL.ldF rfl rfl 0 hS rfl rfl ag_63 ?_
        refine WL.new rfl rfl zv_63 hS (fun b2 w hS => ?_)
        refine WL.stF rfl rfl rfl 0 hS rfl rfl rfl rfl rfl ag_63 (fun w hS => ?_)
        replace hS : St g (cel b2 #[.int .i64 x.code, .int .u64 x.a, .int .u64 x.b, .int .i64 x.key, .int .i64 x.val, .int .i64 x.lo, .int .i64 x.hi, .int .i64 x.n, .bool x.flag, .string x.name, .slice ab (List.length (by8 x.bytes)) cb, .slice ae (List.length (en2 x.ents)) ce, .slice ac (List.length (ch4 x.chs)) cc] 63 :: cel b1 #[.int .i64 x.code, .int .u64 x.a, .int .u64 x.b, .int .i64 x.key, .int .i64 x.val, .int .i64 x.lo, .int .i64 x.hi, .int .i64 x.n, .bool x.flag, .string x.name, .slice ab (List.length (by8 x.bytes)) cb, .slice ae (List.length (en2 x.ents)) ce, .slice ac (List.length (ch4 x.chs)) cc] 63 :: Sh 125 4 (ch4 x.chs) ac cc :: L) w := hS
        refine WL.nil ?_
        refine WC.seq ?_
        refine WC.seq ?_
        refine WC.region ?_
        try simp only [not_or, Classical.not_not] at cd1
        refine WL.r 1 rfl ?_
        refine WL.rng rfl rfl rfl hS rfl (fun b3 w hS => ?_)
        replace hS : St g (blk b3 (.stringIter (mkS (fs x.code)) 0) :: cel b2 #[.int .i64 x.code, .int .u64 x.a, .int .u64 x.b, .int .i64 x.key, .int .i64 x.val, .int .i64 x.lo, .int .i64 x.hi, .int .i64 x.n, .bool x.flag, .string x.name, .slice ab (List.length (by8 x.bytes)) cb, .slice ae (List.length (en2 x.ents)) ce, .slice ac (List.length (ch4 x.chs)) cc] 63 :: cel b1 #[.int .i64 x.code, .int .u64 x.a, .int .u64 x.b, .int .i64 x.key, .int .i64 x.val, .int .i64 x.lo, .int .i64 x.hi, .int .i64 x.n, .bool x.flag, .string x.name, .slice ab (List.length (by8 x.bytes)) cb, .slice ae (List.length (en2 x.ents)) ce, .slice ac (List.length (ch4 x.chs)) cc] 63 :: Sh 125 4 (ch4 x.chs) ac cc :: L) w := hS
        refine WL.nil ?_
        as_aux_lemma =>
          refine WC.block ?_
          refine WC.loop [7, 71] (fun kM vs w => ∃ (k : Nat) (y : ZM) (zb ze zc : Option Addr) (yb ye yc : Nat), vs = [.pointer (some ⟨b2, 0, none⟩), .pointer (some ⟨b3, 0, none⟩)] ∧ St g (blk b3 (.stringIter (mkS (fs x.code)) k) :: cel b2 #[.int .i64 y.code, .int .u64 y.a, .int .u64 y.b, .int .i64 y.key, .int .i64 y.val, .int .i64 y.lo, .int .i64 y.hi, .int .i64 y.n, .bool y.flag, .string y.name, .slice zb y.lb yb, .slice ze y.le ye, .slice zc y.lc yc] 63 :: cel b1 #[.int .i64 x.code, .int .u64 x.a, .int .u64 x.b, .int .i64 x.key, .int .i64 x.val, .int .i64 x.lo, .int .i64 x.hi, .int .i64 x.n, .bool x.flag, .string x.name, .slice ab (List.length (by8 x.bytes)) cb, .slice ae (List.length (en2 x.ents)) ce, .slice ac (List.length (ch4 x.chs)) cc] 63 :: Sh 125 4 (ch4 x.chs) ac cc :: L) w ∧ (clrZs (fs x.code) (zOf x) = clrZs ((fs x.code).drop k) y) ∧ ((fs x.code).length - k) = kM) ((List.length (fs x.code)) - 0) ⟨0, zOf x, _, _, _, _, _, _, rfl, hS, (rfl), rfl⟩ ?_
          clear hS; rintro _ _ w j ⟨k, y, zb, ze, zc, yb, ye, yc, rfl, hS, hr, rfl⟩
          refine WC.seq ?_
          refine WC.region ?_
          try simp only [not_or, Classical.not_not] at cd1
          refine WL.nx rfl rfl rfl rfl rfl rfl rfl 0 (fs_as _) hS rfl rfl (fun w hS => ?_)
          replace hS : St g (blk b3 (.stringIter (mkS (fs x.code)) (if (k < (List.length (fs x.code))) then (k + 1) else k)) :: cel b2 #[.int .i64 y.code, .int .u64 y.a, .int .u64 y.b, .int .i64 y.key, .int .i64 y.val, .int .i64 y.lo, .int .i64 y.hi, .int .i64 y.n, .bool y.flag, .string y.name, .slice zb y.lb yb, .slice ze y.le ye, .slice zc y.lc yc] 63 :: cel b1 #[.int .i64 x.code, .int .u64 x.a, .int .u64 x.b, .int .i64 x.key, .int .i64 x.val, .int .i64 x.lo, .int .i64 x.hi, .int .i64 x.n, .bool x.flag, .string x.name, .slice ab (List.length (by8 x.bytes)) cb, .slice ae (List.length (en2 x.ents)) ce, .slice ac (List.length (ch4 x.chs)) cc] 63 :: Sh 125 4 (ch4 x.chs) ac cc :: L) w := hS
          refine WL.nil ?_
          refine WC.seq ?_
          refine WC.ifP rfl (fun cd3 => ?_) (fun cd3 => ?_)
          · refine WC.reb 72 (.tuple #[.bool true, .int .i64 (k : Int), .int .i32 (List.getD (fs x.code) k 0)]) (nx_in cd3) ?_
            rw [if_pos cd3] at hS
            refine WC.skip ?_
            refine WC.block ?_
            refine WC.seq ?_
            refine WC.region ?_
            refine WL.r 2 rfl ?_
            refine WL.nil ?_
            refine WC.region ?_
            refine WL.ldF rfl rfl 1 hS rfl rfl ag_63 ?_
            refine WL.r 1 rfl ?_
            refine WL.call rfl rfl (clear_spec (y := y) (ab := zb) (ae := ze) (ac := zc) (cb := yb) (ce := ye) (cc := yc) (f := List.getD (fs x.code) k 0)  (hS := hS)) rfl ?_
            generalize hY1 : clrZ (List.getD (fs x.code) k 0) y = Y1
            clear hS; rintro _ w ⟨ab1, ae1, ac1, cb1, ce1, cc1, rfl, hS⟩
            replace hS : St g (blk b3 (.stringIter (mkS (fs x.code)) (k + 1)) :: cel b2 #[.int .i64 y.code, .int .u64 y.a, .int .u64 y.b, .int .i64 y.key, .int .i64 y.val, .int .i64 y.lo, .int .i64 y.hi, .int .i64 y.n, .bool y.flag, .string y.name, .slice zb y.lb yb, .slice ze y.le ye, .slice zc y.lc yc] 63 :: cel b1 #[.int .i64 x.code, .int .u64 x.a, .int .u64 x.b, .int .i64 x.key, .int .i64 x.val, .int .i64 x.lo, .int .i64 x.hi, .int .i64 x.n, .bool x.flag, .string x.name, .slice ab (List.length (by8 x.bytes)) cb, .slice ae (List.length (en2 x.ents)) ce, .slice ac (List.length (ch4 x.chs)) cc] 63 :: Sh 125 4 (ch4 x.chs) ac cc :: L) w := hS
            refine WL.stF rfl rfl rfl 1 hS rfl rfl rfl rfl rfl ag_63 (fun w hS => ?_)
            replace hS : St g (blk b3 (.stringIter (mkS (fs x.code)) (k + 1)) :: cel b2 #[.int .i64 Y1.code, .int .u64 Y1.a, .int .u64 Y1.b, .int .i64 Y1.key, .int .i64 Y1.val, .int .i64 Y1.lo, .int .i64 Y1.hi, .int .i64 Y1.n, .bool Y1.flag, .string Y1.name, .slice ab1 Y1.lb cb1, .slice ae1 Y1.le ce1, .slice ac1 Y1.lc cc1] 63 :: cel b1 #[.int .i64 x.code, .int .u64 x.a, .int .u64 x.b, .int .i64 x.key, .int .i64 x.val, .int .i64 x.lo, .int .i64 x.hi, .int .i64 x.n, .bool x.flag, .string x.name, .slice ab (List.length (by8 x.bytes)) cb, .slice ae (List.length (en2 x.ents)) ce, .slice ac (List.length (ch4 x.chs)) cc] 63 :: Sh 125 4 (ch4 x.chs) ac cc :: L) w := hS
            refine WL.nil ?_
            exact ⟨_, by omega, k + 1, Y1, _, _, _, _, _, _, rfl, hS, (by rw [hr, clrZs_go cd3, hY1]), rfl⟩
          · rw [if_neg cd3] at hS
            refine WC.exit ?_
            refine WC.seq ?_
            refine WC.region ?_
            refine WL.run 3 [.int .u64 y.a] rfl (by exact hS.ld 1 rfl rfl) ?_
            refine WL.runG 31 [.int .u64 y.b, .int .i64 y.key, .int .i64 y.val, .int .i64 y.lo, .int .i64 y.hi, .int .i64 y.n] rfl (by exact ⟨fun _ => hS.ld 1 rfl rfl, fun _ => hS.ld 1 rfl rfl, fun _ => hS.ld 1 rfl rfl, fun _ => hS.ld 1 rfl rfl, fun _ => hS.ld 1 rfl rfl, fun _ => hS.ld 1 rfl rfl⟩) (fun j => ?_)
            refine WL.prop 110 rfl (band (band (band (band (band (band (dd _) (dd _)) (dd _)) (dd _)) (dd _)) (dd _)) (dd _)) ?_
            refine WL.nil ?_
            refine WC.seq ?_
            refine WC.region ?_
            refine WL.r 1 rfl ?_
            refine WL.runG 29 [.bool y.flag, .string y.name, .slice zb y.lb yb, .slice ze y.le ye, .slice zc y.lc yc] rfl (by exact ⟨fun _ => hS.ld 1 rfl rfl, fun _ => hS.ld 1 rfl rfl, fun _ => hS.ld 1 rfl rfl, fun _ => hS.ld 1 rfl rfl, fun _ => hS.ld 1 rfl rfl⟩) (fun j => ?_)
            refine WL.prop 139 rfl (band (band (band (band (band (band (band (band (band (band (band (dd _) (dd _)) (dd _)) (dd _)) (dd _)) (dd _)) (dd _)) (bnot (dv _))) (dd _)) (dd _)) (dd _)) (dd _)) ?_
            refine WL.nil ?_
            as_aux_lemma =>
              refine WC.ret ?_
              refine ⟨[.bool (bif (bif (bif (bif (bif (bif (bif (bif (bif (bif (bif (decide (y.a = 0)) then (decide (y.b = 0)) else false) then (decide (y.key = 0)) else false) then (decide (y.val = 0)) else false) then (decide (y.lo = 0)) else false) then (decide (y.hi = 0)) else false) then (decide (y.n = 0)) else false) then (! y.flag) else false) then (decide (y.name = ⟨#[]⟩)) else false) then (decide ((y.lb : Int) = 0)) else false) then (decide ((y.le : Int) = 0)) else false) then (decide ((y.lc : Int) = 0)) else false)], rfl, ?_⟩
              replace hS := (hS.sel 3 [] rfl)
              refine ⟨_, rfl, hS, ?_⟩
              simp only [Bool.cond_false_right, Bool.and_eq_true, decide_eq_true_eq, Bool.not_eq_true', and_assoc, nat0]
              rw [zero_iff (by rw [hr, clrZs_end cd3])]
              refine ⟨fun h => ⟨?_, ⟨?_, ?_, ?_, ?_, ?_⟩, ?_, h⟩, fun h => h.2.2.2⟩
              · exact cd1.1.1.1.1.1.1
              all_goals first | omega | skip
              rw [List.take_of_length_le (by omega)] at hall; exact hall
end Go.Proofs.YtloebjlnmdjeiaaGreatDoor
/-! ## Sc2 -/
namespace Go.Proofs.YtloebjlnmdjeiaaGreatDoor
open Go Go.V Go.RowKit Go.Maps
theorem okOp_1 : okOp (op0 1) := by
  refine ⟨rfl, ⟨?_, ?_, ?_, ?_, ?_⟩, fun _ h => (by cases h), ?_⟩
  · exact ⟨Int.le_refl 0, (by decide)⟩
  · show 0 ≤ 32; decide
  · exact Nat.zero_le _
  · exact Nat.zero_le _
  · exact Nat.zero_le _
  · exact ⟨fun _ => rfl, fun _ => rfl, fun _ => rfl, fun _ => rfl, fun _ => rfl, fun _ => rfl, fun _ => rfl, fun _ => rfl, fun _ => rfl, fun _ => rfl, fun _ => rfl, fun _ => rfl⟩
set_option maxRecDepth 8192 in
theorem valid_1 {g w : World} {L : List HP} (hS : St g (L) w) :
    Sp Tryz.prog 23 [.agg #[.int .i64 1, .int .u64 0, .int .u64 0, .int .i64 0, .int .i64 0, .int .i64 0, .int .i64 0, .int .i64 0, .bool false, .string ⟨#[]⟩, .slice none 0 0, .slice none 0 0, .slice none 0 0]] w (fun v w' => v = .bool true ∧ St g (L) w') := by
  refine (valid_spec (op0 1) none none none 0 0 0 (hS.nilS 125 4)).mono fun v w' h => ?_
  obtain ⟨ok, h1, h2, h3⟩ := h
  have h4 : ok = true := h3.2 okOp_1
  subst h4
  exact ⟨h1, h2.sel 1 [] rfl⟩
set_option maxRecDepth 8192 in
theorem snd_1 {g w : World} {L : List HP} (hS : St g (L) w) :
    Sp Tryz.prog 24 [.agg #[.int .i64 1, .int .u64 0, .int .u64 0, .int .i64 0, .int .i64 0, .int .i64 0, .int .i64 0, .int .i64 0, .bool false, .string ⟨#[]⟩, .slice none 0 0, .slice none 0 0, .slice none 0 0]] w (fun v w' => v = .bool true ∧ St g (L) w') := by
  refine Sp.enter Tryz.func24 rfl (by kernel_rfl) (by kernel_rfl) ?_
  refine WC.seq ?_
  refine WC.region ?_
  refine WL.box rfl rfl #[.int .i64 1, .int .u64 0, .int .u64 0, .int .i64 0, .int .i64 0, .int .i64 0, .int .i64 0, .int .i64 0, .bool false, .string ⟨#[]⟩, .slice none 0 0, .slice none 0 0, .slice none 0 0] hS rfl rfl (fun b1 w hS => ?_)
  refine WL.r 1 rfl ?_
  refine WL.nil ?_
  refine WC.seq ?_
  refine WC.seq ?_
  refine WC.region ?_
  refine WL.run 2 [.int .i64 1] rfl (by exact hS.ld 0 rfl rfl) ?_
  refine WL.nil ?_
  refine WC.block ?_
  refine WC.seq ?_
  refine WC.region ?_
  refine WL.r 2 rfl ?_
  refine WL.nil ?_
  refine WC.ifF rfl (decide_eq_false ((by decide))) ?_
  refine WC.seq ?_
  refine WC.region ?_
  refine WL.r 2 rfl ?_
  refine WL.nil ?_
  refine WC.ifF rfl (decide_eq_false ((by decide))) ?_
  refine WC.seq ?_
  refine WC.region ?_
  refine WL.r 2 rfl ?_
  refine WL.nil ?_
  as_aux_lemma =>
    refine WC.ifF rfl (decide_eq_false ((by decide))) ?_
    refine WC.seq ?_
    refine WC.region ?_
    refine WL.r 2 rfl ?_
    refine WL.nil ?_
    refine WC.ifF rfl (decide_eq_false ((by decide))) ?_
    refine WC.seq ?_
    refine WC.region ?_
    refine WL.r 2 rfl ?_
    refine WL.nil ?_
    refine WC.ifF rfl (decide_eq_false ((by decide))) ?_
    refine WC.seq ?_
    refine WC.region ?_
    refine WL.r 2 rfl ?_
    refine WL.nil ?_
    refine WC.ifF rfl (decide_eq_false ((by decide))) ?_
    refine WC.seq ?_
    refine WC.region ?_
    refine WL.r 2 rfl ?_
    refine WL.nil ?_
    refine WC.ifF rfl (decide_eq_false ((by decide))) ?_
    refine WC.skip ?_
    refine WC.seq ?_
    refine WC.region ?_
    refine WL.r 1 rfl ?_
    refine WL.nil ?_
    as_aux_lemma =>
      refine WC.ret ?_
      refine ⟨[.bool true], rfl, ?_⟩
      replace hS := (hS.sel 1 [] rfl)
      exact ⟨rfl, hS⟩
set_option maxRecDepth 8192 in
theorem opA_1 {g w : World} {L : List HP} (p : Nat) (hS : St g (L) w) :
    Sp Tryz.prog 50 [.pointer (some ⟨p, 0, none⟩), .agg #[.int .i64 1, .int .u64 0, .int .u64 0, .int .i64 0, .int .i64 0, .int .i64 0, .int .i64 0, .int .i64 0, .bool false, .string ⟨#[]⟩, .slice none 0 0, .slice none 0 0, .slice none 0 0]] w (fun v w' => v = .int .i64 0 ∧ St g (L) w') := by
  refine Sp.enter Tryz.func50 rfl (by kernel_rfl) (by kernel_rfl) ?_
  refine WC.seq ?_
  refine WC.region ?_
  refine WL.box rfl rfl #[.int .i64 1, .int .u64 0, .int .u64 0, .int .i64 0, .int .i64 0, .int .i64 0, .int .i64 0, .int .i64 0, .bool false, .string ⟨#[]⟩, .slice none 0 0, .slice none 0 0, .slice none 0 0] hS rfl rfl (fun b1 w hS => ?_)
  refine WL.r 1 rfl ?_
  refine WL.nil ?_
  refine WC.seq ?_
  refine WC.seq ?_
  refine WC.region ?_
  refine WL.run 2 [.int .i64 1] rfl (by exact hS.ld 0 rfl rfl) ?_
  refine WL.nil ?_
  refine WC.block ?_
  refine WC.seq ?_
  refine WC.seq ?_
  refine WC.region ?_
  refine WL.r 2 rfl ?_
  refine WL.nil ?_
  refine WC.ifT rfl (by decide) ?_
  refine WC.skip ?_
  refine WC.ifT rfl (by decide) ?_
  refine WC.seq ?_
  refine WC.region ?_
  refine WL.r 1 rfl ?_
  refine WL.nil ?_
  refine WC.ret ?_
  refine ⟨[.int .i64 0], rfl, ?_⟩
  replace hS := (hS.sel 1 [] rfl)
  exact ⟨rfl, hS⟩
set_option maxRecDepth 8192 in
theorem open_1 {g w : World} {L : List HP} (p : Nat) (hS : St g (L) w) :
    Sp Tryz.prog 26 [.pointer (some ⟨p, 0, none⟩), .agg #[.int .i64 1, .int .u64 0, .int .u64 0, .int .i64 0, .int .i64 0, .int .i64 0, .int .i64 0, .int .i64 0, .bool false, .string ⟨#[]⟩, .slice none 0 0, .slice none 0 0, .slice none 0 0]] w (fun v w' => v = .int .i64 0 ∧ St g (L) w') := by
  refine Sp.enter Tryz.func26 rfl (by kernel_rfl) (by kernel_rfl) ?_
  refine WC.seq ?_
  refine WC.region ?_
  refine WL.box rfl rfl #[.int .i64 1, .int .u64 0, .int .u64 0, .int .i64 0, .int .i64 0, .int .i64 0, .int .i64 0, .int .i64 0, .bool false, .string ⟨#[]⟩, .slice none 0 0, .slice none 0 0, .slice none 0 0] hS rfl rfl (fun b1 w hS => ?_)
  refine WL.r 1 rfl ?_
  refine WL.nil ?_
  refine WC.seq ?_
  refine WC.seq ?_
  refine WC.region ?_
  refine WL.r 1 rfl ?_
  refine WL.ldF rfl rfl 0 hS rfl rfl ag_63 ?_
  refine WL.call rfl rfl (opA_1 (p := p)  (hS := hS)) rfl ?_
  clear hS; rintro _ w ⟨rfl, hS⟩
  replace hS : St g (cel b1 #[.int .i64 1, .int .u64 0, .int .u64 0, .int .i64 0, .int .i64 0, .int .i64 0, .int .i64 0, .int .i64 0, .bool false, .string ⟨#[]⟩, .slice none 0 0, .slice none 0 0, .slice none 0 0] 63 :: L) w := hS
  refine WL.r 1 rfl ?_
  refine WL.nil ?_
  refine WC.seq ?_
  refine WC.region ?_
  refine WL.r 2 rfl ?_
  refine WL.nil ?_
  refine WC.ifF rfl (decide_eq_false ((by decide))) ?_
  refine WC.skip ?_
  refine WC.seq ?_
  refine WC.seq ?_
  refine WC.region ?_
  refine WL.run 2 [.int .i64 1] rfl (by exact hS.ld 0 rfl rfl) ?_
  refine WL.nil ?_
  as_aux_lemma =>
    refine WC.block ?_
    refine WC.seq ?_
    refine WC.seq ?_
    refine WC.region ?_
    refine WL.r 2 rfl ?_
    refine WL.nil ?_
    refine WC.ifF rfl (decide_eq_false ((by decide))) ?_
    refine WC.seq ?_
    refine WC.region ?_
    refine WL.r 2 rfl ?_
    refine WL.nil ?_
    refine WC.ifF rfl (decide_eq_false ((by decide))) ?_
    refine WC.seq ?_
    refine WC.region ?_
    refine WL.r 2 rfl ?_
    refine WL.nil ?_
    refine WC.ifF rfl (decide_eq_false ((by decide))) ?_
    refine WC.seq ?_
    refine WC.region ?_
    refine WL.r 2 rfl ?_
    refine WL.nil ?_
    refine WC.ifF rfl (decide_eq_false ((by decide))) ?_
    refine WC.region ?_
    refine WL.r 2 rfl ?_
    refine WL.nil ?_
    as_aux_lemma =>
      refine WC.ifF rfl (decide_eq_false ((by decide))) ?_
      refine WC.seq ?_
      refine WC.seq ?_
      refine WC.region ?_
      refine WL.r 2 rfl ?_
      refine WL.nil ?_
      refine WC.ifF rfl (decide_eq_false ((by decide))) ?_
      refine WC.seq ?_
      refine WC.region ?_
      refine WL.r 2 rfl ?_
      refine WL.nil ?_
      refine WC.ifF rfl (decide_eq_false ((by decide))) ?_
      refine WC.region ?_
      refine WL.r 2 rfl ?_
      refine WL.nil ?_
      refine WC.ifF rfl (decide_eq_false ((by decide))) ?_
      refine WC.skip ?_
      refine WC.seq ?_
      refine WC.region ?_
      refine WL.r 1 rfl ?_
      refine WL.nil ?_
      refine WC.ret ?_
      refine ⟨[.int .i64 0], rfl, ?_⟩
      replace hS := (hS.sel 1 [] rfl)
      exact ⟨rfl, hS⟩
set_option maxRecDepth 8192 in
theorem creates_1 {g w : World} {L : List HP} (hS : St g (L) w) :
    Sp Tryz.prog 27 [.int .i64 1] w (fun v w' => v = .bool true ∧ St g (L) w') := by
  refine Sp.enter Tryz.func27 rfl (by kernel_rfl) (by kernel_rfl) ?_
  refine WC.seq ?_
  refine WC.region ?_
  refine WL.r 1 rfl ?_
  refine WL.nil ?_
  refine WC.seq ?_
  refine WC.seq ?_
  refine WC.region ?_
  refine WL.r 1 rfl ?_
  refine WL.nil ?_
  refine WC.block ?_
  refine WC.seq ?_
  refine WC.seq ?_
  refine WC.region ?_
  refine WL.r 2 rfl ?_
  refine WL.nil ?_
  refine WC.ifT rfl (decide_eq_true ((by decide))) ?_
  refine WC.skip ?_
  refine WC.ifT rfl (decide_eq_true ((by decide))) ?_
  refine WC.seq ?_
  refine WC.region ?_
  refine WL.r 1 rfl ?_
  refine WL.nil ?_
  refine WC.ret ?_
  refine ⟨[.bool true], rfl, ?_⟩
  exact ⟨rfl, hS⟩
theorem opn_0 {V : VM} (hT : TOk V.T) : V.T.s.opn 0 = false := by
  have : V.T.s.ok 0 = false := hT.s.u0
  unfold SM.opn
  rw [show (0 : Int) % 4294967296 = 0 from rfl, this]; rfl
set_option maxRecDepth 8192 in
theorem root_0 {g w : World} {L : List HP} (p s a : Nat) (V : VM) (hT : TOk V.T) (hS : St g (Sto p s a V :: L) w) :
    Sp Tryz.prog 54 [.pointer (some ⟨p, 0, none⟩), .int .u64 0] w (fun v w' => v = .int .u32 0 ∧ St g (Sto p s a V :: L) w') := by
  refine Sp.enter Tryz.func54 rfl (by kernel_rfl) (by kernel_rfl) ?_
  refine WC.seq ?_
  refine WC.region ?_
  refine WL.r 1 rfl ?_
  refine WL.nil ?_
  refine WC.seq ?_
  refine WC.region ?_
  obtain ⟨⟨nm, c, x, m⟩, hS⟩ := St.exOpen (f := stoF p s a V) hS
  replace hS : St g (cel p #[.pointer (some ⟨s, 0, none⟩), .pointer (some ⟨nm, 0, none⟩), .pointer (some ⟨c, 0, none⟩), .pointer (some ⟨x, 0, none⟩), .map (some m)] 49 :: Vst s a V :: blk m (.map (mE []) 0) :: L) w := hS
  refine WL.run 5 [.pointer (some ⟨s, 0, none⟩)] rfl (by exact hS.ld 0 rfl rfl) ?_
  refine WL.call rfl rfl (vs_root_bad (s := s) (a := a) (V := V) (h := 0) (hT := hT) (hh := (by decide)) (hn := opn_0 hT) (hS := (hS.sel 2 [1, 0] rfl))) rfl ?_
  clear hS; rintro _ w ⟨rfl, hS⟩
  replace hS : St g (Vst s a V :: cel p #[.pointer (some ⟨s, 0, none⟩), .pointer (some ⟨nm, 0, none⟩), .pointer (some ⟨c, 0, none⟩), .pointer (some ⟨x, 0, none⟩), .map (some m)] 49 :: blk m (.map (mE []) 0) :: L) w := hS
  refine WL.r 5 rfl ?_
  refine WL.nil ?_
  refine WC.seq ?_
  refine WC.region ?_
  refine WL.r 2 rfl ?_
  refine WL.nil ?_
  refine WC.ret ?_
  replace hS := St.exClose (f := stoF p s a V) (L := L) ⟨nm, c, x, m⟩ ((hS.sel 2 [1, 0] rfl))
  replace hS : St g (Sto p s a V :: L) w := hS
  refine ⟨[.int .u32 0], rfl, ?_⟩
  exact ⟨rfl, hS⟩
set_option maxRecDepth 8192 in
theorem create_1 {g w : World} {L : List HP} (p s a : Nat) (V : VM) (A : AM) (R : List Int) (hV : VI V A R) (hrm : 0 < V.room) (hla : V.last < 1000000000) (hlen : R.length ≤ 900000000) (hS : St g (Sto p s a V :: Arn a A :: L) w) :
    Sp Tryz.prog 29 [.pointer (some ⟨p, 0, none⟩), .agg #[.int .i64 1, .int .u64 0, .int .u64 0, .int .i64 0, .int .i64 0, .int .i64 0, .int .i64 0, .int .i64 0, .bool false, .string ⟨#[]⟩, .slice none 0 0, .slice none 0 0, .slice none 0 0]] w (fun v w' => ∃ (V2 : VM), v = .agg #[.int .i64 0, .int .u64 V.T.newH, .int .i64 0, .bool false, .int .i64 0, .int .i64 0, .int .i64 0, .int .i64 0, .int .i64 0, .int .i64 0, .int .i64 0, .slice none 0 0, .slice none 0 0, .slice none 0 0, .slice none 0 0] ∧ St g (Sto p s a V2 :: Arn a A :: L) w' ∧ (VI V2 A R) ∧ (Com V 0 [] V2)) := by
  refine Sp.enter Tryz.func29 rfl (by kernel_rfl) (by kernel_rfl) ?_
  refine WC.seq ?_
  refine WC.region ?_
  refine WL.box rfl rfl #[.int .i64 1, .int .u64 0, .int .u64 0, .int .i64 0, .int .i64 0, .int .i64 0, .int .i64 0, .int .i64 0, .bool false, .string ⟨#[]⟩, .slice none 0 0, .slice none 0 0, .slice none 0 0] hS rfl rfl (fun b1 w hS => ?_)
  refine WL.new rfl rfl zv_60 hS (fun b2 w hS => ?_)
  refine WL.nil ?_
  refine WC.seq ?_
  refine WC.region ?_
  refine WL.run 2 [.int .u64 0] rfl (by exact hS.ld 1 rfl rfl) ?_
  refine WL.lit rfl rfl (u64s [0]) el_130 hS (by exact ⟨rfl, rfl⟩) (u64s_ok _) rfl (by decide) (fun b3 w hS => ?_)
  refine WL.r 1 rfl ?_
  refine WL.nil ?_
  refine WC.seq ?_
  refine WC.region ?_
  refine WL.new rfl rfl zv_60 hS (fun b4 w hS => ?_)
  refine WL.nil ?_
  refine WC.seq ?_
  refine WC.region ?_
  refine WL.r 1 rfl ?_
  refine WL.nil ?_
  refine WC.seq ?_
  refine WC.region ?_
  refine WL.run 3 [.int .u64 0] rfl (by exact hS.ld 3 rfl rfl) ?_
  refine WL.call rfl rfl (root_0 (p := p) (s := s) (a := a) (V := V) (hT := hV.t) (hS := (hS.sel 5 [4, 0, 0, 0, 0] rfl))) rfl ?_
  clear hS; rintro _ w ⟨rfl, hS⟩
  replace hS : St g (Sto p s a V :: cel b4 #[.int .i64 0, .int .u64 0, .int .i64 0, .bool false, .int .i64 0, .int .i64 0, .int .i64 0, .int .i64 0, .int .i64 0, .int .i64 0, .int .i64 0, .slice none 0 0, .slice none 0 0, .slice none 0 0, .slice none 0 0] 60 :: Own 50 1 (u64s [0]) (some ⟨b3, 0, none⟩) (List.length (u64s [0])) :: cel b2 #[.int .i64 0, .int .u64 0, .int .i64 0, .bool false, .int .i64 0, .int .i64 0, .int .i64 0, .int .i64 0, .int .i64 0, .int .i64 0, .int .i64 0, .slice none 0 0, .slice none 0 0, .slice none 0 0, .slice none 0 0] 60 :: cel b1 #[.int .i64 1, .int .u64 0, .int .u64 0, .int .i64 0, .int .i64 0, .int .i64 0, .int .i64 0, .int .i64 0, .bool false, .string ⟨#[]⟩, .slice none 0 0, .slice none 0 0, .slice none 0 0] 63 :: Arn a A :: L) w := hS
  refine WL.r 1 rfl ?_
  refine WL.nil ?_
  as_aux_lemma =>
    refine WC.seq ?_
    refine WC.seq ?_
    refine WC.region ?_
    refine WL.run 2 [.int .i64 1] rfl (by exact hS.ld 4 rfl rfl) ?_
    refine WL.nil ?_
    refine WC.block ?_
    refine WC.seq ?_
    refine WC.region ?_
    refine WL.r 2 rfl ?_
    refine WL.nil ?_
    refine WC.ifT rfl (decide_eq_true ((by decide))) ?_
    refine WC.region ?_
    refine WL.r 1 rfl ?_
    refine WL.nil ?_
    refine WC.seq ?_
    refine WC.seq ?_
    refine WC.region ?_
    refine WL.run 3 [.int .i64 0] rfl (by exact hS.ld 1 rfl rfl) ?_
    refine WL.nil ?_
    refine WC.ifF rfl (decide_eq_false ((by decide))) ?_
    refine WC.skip ?_
    refine WC.seq ?_
    refine WC.region ?_
    obtain ⟨⟨nm, c, x, m⟩, hS⟩ := St.exOpen (f := stoF p s a V) hS
    replace hS : St g (cel p #[.pointer (some ⟨s, 0, none⟩), .pointer (some ⟨nm, 0, none⟩), .pointer (some ⟨c, 0, none⟩), .pointer (some ⟨x, 0, none⟩), .map (some m)] 49 :: Vst s a V :: blk m (.map (mE []) 0) :: cel b4 #[.int .i64 0, .int .u64 0, .int .i64 0, .bool false, .int .i64 0, .int .i64 0, .int .i64 0, .int .i64 0, .int .i64 0, .int .i64 0, .int .i64 0, .slice none 0 0, .slice none 0 0, .slice none 0 0, .slice none 0 0] 60 :: Own 50 1 (u64s [0]) (some ⟨b3, 0, none⟩) (List.length (u64s [0])) :: cel b2 #[.int .i64 0, .int .u64 0, .int .i64 0, .bool false, .int .i64 0, .int .i64 0, .int .i64 0, .int .i64 0, .int .i64 0, .int .i64 0, .int .i64 0, .slice none 0 0, .slice none 0 0, .slice none 0 0, .slice none 0 0] 60 :: cel b1 #[.int .i64 1, .int .u64 0, .int .u64 0, .int .i64 0, .int .i64 0, .int .i64 0, .int .i64 0, .int .i64 0, .bool false, .string ⟨#[]⟩, .slice none 0 0, .slice none 0 0, .slice none 0 0] 63 :: Arn a A :: L) w := hS
    refine WL.run 6 [.pointer (some ⟨s, 0, none⟩)] rfl (by exact hS.ld 0 rfl rfl) ?_
    replace hS := hS.nilS 50 1
    replace hS : St g (Sh 50 1 (u64s []) none 0 :: cel p #[.pointer (some ⟨s, 0, none⟩), .pointer (some ⟨nm, 0, none⟩), .pointer (some ⟨c, 0, none⟩), .pointer (some ⟨x, 0, none⟩), .map (some m)] 49 :: Vst s a V :: blk m (.map (mE []) 0) :: cel b4 #[.int .i64 0, .int .u64 0, .int .i64 0, .bool false, .int .i64 0, .int .i64 0, .int .i64 0, .int .i64 0, .int .i64 0, .int .i64 0, .int .i64 0, .slice none 0 0, .slice none 0 0, .slice none 0 0, .slice none 0 0] 60 :: Own 50 1 (u64s [0]) (some ⟨b3, 0, none⟩) (List.length (u64s [0])) :: cel b2 #[.int .i64 0, .int .u64 0, .int .i64 0, .bool false, .int .i64 0, .int .i64 0, .int .i64 0, .int .i64 0, .int .i64 0, .int .i64 0, .int .i64 0, .slice none 0 0, .slice none 0 0, .slice none 0 0, .slice none 0 0] 60 :: cel b1 #[.int .i64 1, .int .u64 0, .int .u64 0, .int .i64 0, .int .i64 0, .int .i64 0, .int .i64 0, .int .i64 0, .bool false, .string ⟨#[]⟩, .slice none 0 0, .slice none 0 0, .slice none 0 0] 63 :: Arn a A :: L) w := hS
    refine WL.call rfl rfl (vs_commit (s := s) (a := a) (V := V) (A := A) (R := R) (root := 0) (hs := []) (pa := none) (pc := 0) (hV := hV) (hr := (.inl rfl)) (hps := okPs_nil) (hop := (fun _ h => by cases h)) (hrm := hrm) (hla := hla) (hlen := hlen) (hS := (hS.sel 9 [2, 7, 0, 0, 0, 0, 0, 0, 0] rfl))) rfl ?_
    clear hS; rintro _ w ⟨V1, rfl, hS, f1, f2⟩
    replace hS : St g (Vst s a V1 :: Arn a (A.ret 0) :: Sh 50 1 (u64s []) none 0 :: cel p #[.pointer (some ⟨s, 0, none⟩), .pointer (some ⟨nm, 0, none⟩), .pointer (some ⟨c, 0, none⟩), .pointer (some ⟨x, 0, none⟩), .map (some m)] 49 :: blk m (.map (mE []) 0) :: cel b4 #[.int .i64 0, .int .u64 0, .int .i64 0, .bool false, .int .i64 0, .int .i64 0, .int .i64 0, .int .i64 0, .int .i64 0, .int .i64 0, .int .i64 0, .slice none 0 0, .slice none 0 0, .slice none 0 0, .slice none 0 0] 60 :: Own 50 1 (u64s [0]) (some ⟨b3, 0, none⟩) (List.length (u64s [0])) :: cel b2 #[.int .i64 0, .int .u64 0, .int .i64 0, .bool false, .int .i64 0, .int .i64 0, .int .i64 0, .int .i64 0, .int .i64 0, .int .i64 0, .int .i64 0, .slice none 0 0, .slice none 0 0, .slice none 0 0, .slice none 0 0] 60 :: cel b1 #[.int .i64 1, .int .u64 0, .int .u64 0, .int .i64 0, .int .i64 0, .int .i64 0, .int .i64 0, .int .i64 0, .bool false, .string ⟨#[]⟩, .slice none 0 0, .slice none 0 0, .slice none 0 0] 63 :: L) w := hS
    refine WL.r 4 rfl ?_
    refine WL.st rfl rfl rfl 5 hS rfl rfl rfl rfl rfl rfl (fun w hS => ?_)
    replace hS : St g (Vst s a V1 :: Arn a (A.ret 0) :: Sh 50 1 (u64s []) none 0 :: cel p #[.pointer (some ⟨s, 0, none⟩), .pointer (some ⟨nm, 0, none⟩), .pointer (some ⟨c, 0, none⟩), .pointer (some ⟨x, 0, none⟩), .map (some m)] 49 :: blk m (.map (mE []) 0) :: cel b4 #[.int .i64 0, .int .u64 V.T.newH, .int .i64 0, .bool false, .int .i64 0, .int .i64 0, .int .i64 0, .int .i64 0, .int .i64 0, .int .i64 0, .int .i64 0, .slice none 0 0, .slice none 0 0, .slice none 0 0, .slice none 0 0] 60 :: Own 50 1 (u64s [0]) (some ⟨b3, 0, none⟩) (List.length (u64s [0])) :: cel b2 #[.int .i64 0, .int .u64 0, .int .i64 0, .bool false, .int .i64 0, .int .i64 0, .int .i64 0, .int .i64 0, .int .i64 0, .int .i64 0, .int .i64 0, .slice none 0 0, .slice none 0 0, .slice none 0 0, .slice none 0 0] 60 :: cel b1 #[.int .i64 1, .int .u64 0, .int .u64 0, .int .i64 0, .int .i64 0, .int .i64 0, .int .i64 0, .int .i64 0, .bool false, .string ⟨#[]⟩, .slice none 0 0, .slice none 0 0, .slice none 0 0] 63 :: L) w := hS
    refine WL.r 1 rfl ?_
    refine WL.st rfl rfl rfl 5 hS rfl rfl rfl rfl rfl rfl (fun w hS => ?_)
    replace hS : St g (Vst s a V1 :: Arn a (A.ret 0) :: Sh 50 1 (u64s []) none 0 :: cel p #[.pointer (some ⟨s, 0, none⟩), .pointer (some ⟨nm, 0, none⟩), .pointer (some ⟨c, 0, none⟩), .pointer (some ⟨x, 0, none⟩), .map (some m)] 49 :: blk m (.map (mE []) 0) :: cel b4 #[.int .i64 0, .int .u64 V.T.newH, .int .i64 0, .bool false, .int .i64 0, .int .i64 0, .int .i64 0, .int .i64 0, .int .i64 0, .int .i64 0, .int .i64 0, .slice none 0 0, .slice none 0 0, .slice none 0 0, .slice none 0 0] 60 :: Own 50 1 (u64s [0]) (some ⟨b3, 0, none⟩) (List.length (u64s [0])) :: cel b2 #[.int .i64 0, .int .u64 0, .int .i64 0, .bool false, .int .i64 0, .int .i64 0, .int .i64 0, .int .i64 0, .int .i64 0, .int .i64 0, .int .i64 0, .slice none 0 0, .slice none 0 0, .slice none 0 0, .slice none 0 0] 60 :: cel b1 #[.int .i64 1, .int .u64 0, .int .u64 0, .int .i64 0, .int .i64 0, .int .i64 0, .int .i64 0, .int .i64 0, .bool false, .string ⟨#[]⟩, .slice none 0 0, .slice none 0 0, .slice none 0 0] 63 :: L) w := hS
    refine WL.nil ?_
    as_aux_lemma =>
      refine WC.seq ?_
      refine WC.region ?_
      replace hS := St.exClose (f := stoF p s a V1) (L := Arn a (A.ret 0) :: Sh 50 1 (u64s []) none 0 :: cel b4 #[.int .i64 0, .int .u64 V.T.newH, .int .i64 0, .bool false, .int .i64 0, .int .i64 0, .int .i64 0, .int .i64 0, .int .i64 0, .int .i64 0, .int .i64 0, .slice none 0 0, .slice none 0 0, .slice none 0 0, .slice none 0 0] 60 :: Own 50 1 (u64s [0]) (some ⟨b3, 0, none⟩) (List.length (u64s [0])) :: cel b2 #[.int .i64 0, .int .u64 0, .int .i64 0, .bool false, .int .i64 0, .int .i64 0, .int .i64 0, .int .i64 0, .int .i64 0, .int .i64 0, .int .i64 0, .slice none 0 0, .slice none 0 0, .slice none 0 0, .slice none 0 0] 60 :: cel b1 #[.int .i64 1, .int .u64 0, .int .u64 0, .int .i64 0, .int .i64 0, .int .i64 0, .int .i64 0, .int .i64 0, .bool false, .string ⟨#[]⟩, .slice none 0 0, .slice none 0 0, .slice none 0 0] 63 :: L) ⟨nm, c, x, m⟩ ((hS.sel 5 [3, 0, 2, 0, 0] rfl))
      replace hS : St g (Sto p s a V1 :: Arn a (A.ret 0) :: Sh 50 1 (u64s []) none 0 :: cel b4 #[.int .i64 0, .int .u64 V.T.newH, .int .i64 0, .bool false, .int .i64 0, .int .i64 0, .int .i64 0, .int .i64 0, .int .i64 0, .int .i64 0, .int .i64 0, .slice none 0 0, .slice none 0 0, .slice none 0 0, .slice none 0 0] 60 :: Own 50 1 (u64s [0]) (some ⟨b3, 0, none⟩) (List.length (u64s [0])) :: cel b2 #[.int .i64 0, .int .u64 0, .int .i64 0, .bool false, .int .i64 0, .int .i64 0, .int .i64 0, .int .i64 0, .int .i64 0, .int .i64 0, .int .i64 0, .slice none 0 0, .slice none 0 0, .slice none 0 0, .slice none 0 0] 60 :: cel b1 #[.int .i64 1, .int .u64 0, .int .u64 0, .int .i64 0, .int .i64 0, .int .i64 0, .int .i64 0, .int .i64 0, .bool false, .string ⟨#[]⟩, .slice none 0 0, .slice none 0 0, .slice none 0 0] 63 :: L) w := hS
      refine WL.r 1 rfl ?_
      refine WL.call rfl rfl (st_arena (p := p) (s := s) (a := a) (V := V1)  (hS := hS)) rfl ?_
      clear hS; rintro _ w ⟨rfl, hS⟩
      replace hS : St g (Sto p s a V1 :: Arn a (A.ret 0) :: Sh 50 1 (u64s []) none 0 :: cel b4 #[.int .i64 0, .int .u64 V.T.newH, .int .i64 0, .bool false, .int .i64 0, .int .i64 0, .int .i64 0, .int .i64 0, .int .i64 0, .int .i64 0, .int .i64 0, .slice none 0 0, .slice none 0 0, .slice none 0 0, .slice none 0 0] 60 :: Own 50 1 (u64s [0]) (some ⟨b3, 0, none⟩) (List.length (u64s [0])) :: cel b2 #[.int .i64 0, .int .u64 0, .int .i64 0, .bool false, .int .i64 0, .int .i64 0, .int .i64 0, .int .i64 0, .int .i64 0, .int .i64 0, .int .i64 0, .slice none 0 0, .slice none 0 0, .slice none 0 0, .slice none 0 0] 60 :: cel b1 #[.int .i64 1, .int .u64 0, .int .u64 0, .int .i64 0, .int .i64 0, .int .i64 0, .int .i64 0, .int .i64 0, .bool false, .string ⟨#[]⟩, .slice none 0 0, .slice none 0 0, .slice none 0 0] 63 :: L) w := hS
      refine WL.r 1 rfl ?_
      refine WL.call rfl rfl (ar_release0 (a := a) (A := A.ret 0)  (hS := (hS.sel 2 [1, 0] rfl))) rfl ?_
      clear hS; rintro _ w ⟨rfl, hS⟩
      replace hS : St g (Arn a (A.ret 0) :: Sto p s a V1 :: Sh 50 1 (u64s []) none 0 :: cel b4 #[.int .i64 0, .int .u64 V.T.newH, .int .i64 0, .bool false, .int .i64 0, .int .i64 0, .int .i64 0, .int .i64 0, .int .i64 0, .int .i64 0, .int .i64 0, .slice none 0 0, .slice none 0 0, .slice none 0 0, .slice none 0 0] 60 :: Own 50 1 (u64s [0]) (some ⟨b3, 0, none⟩) (List.length (u64s [0])) :: cel b2 #[.int .i64 0, .int .u64 0, .int .i64 0, .bool false, .int .i64 0, .int .i64 0, .int .i64 0, .int .i64 0, .int .i64 0, .int .i64 0, .int .i64 0, .slice none 0 0, .slice none 0 0, .slice none 0 0, .slice none 0 0] 60 :: cel b1 #[.int .i64 1, .int .u64 0, .int .u64 0, .int .i64 0, .int .i64 0, .int .i64 0, .int .i64 0, .int .i64 0, .bool false, .string ⟨#[]⟩, .slice none 0 0, .slice none 0 0, .slice none 0 0] 63 :: L) w := hS
      refine WL.nil ?_
      refine WC.seq ?_
      refine WC.region ?_
      refine WL.ldF rfl rfl 3 hS rfl rfl ag_60 ?_
      refine WL.stF rfl rfl rfl 5 hS rfl rfl rfl rfl rfl ag_60 (fun w hS => ?_)
      replace hS : St g (Arn a (A.ret 0) :: Sto p s a V1 :: Sh 50 1 (u64s []) none 0 :: cel b4 #[.int .i64 0, .int .u64 V.T.newH, .int .i64 0, .bool false, .int .i64 0, .int .i64 0, .int .i64 0, .int .i64 0, .int .i64 0, .int .i64 0, .int .i64 0, .slice none 0 0, .slice none 0 0, .slice none 0 0, .slice none 0 0] 60 :: Own 50 1 (u64s [0]) (some ⟨b3, 0, none⟩) (List.length (u64s [0])) :: cel b2 #[.int .i64 0, .int .u64 V.T.newH, .int .i64 0, .bool false, .int .i64 0, .int .i64 0, .int .i64 0, .int .i64 0, .int .i64 0, .int .i64 0, .int .i64 0, .slice none 0 0, .slice none 0 0, .slice none 0 0, .slice none 0 0] 60 :: cel b1 #[.int .i64 1, .int .u64 0, .int .u64 0, .int .i64 0, .int .i64 0, .int .i64 0, .int .i64 0, .int .i64 0, .bool false, .string ⟨#[]⟩, .slice none 0 0, .slice none 0 0, .slice none 0 0] 63 :: L) w := hS
      refine WL.nil ?_
      refine WC.ret ?_
      refine ⟨[.agg #[.int .i64 0, .int .u64 V.T.newH, .int .i64 0, .bool false, .int .i64 0, .int .i64 0, .int .i64 0, .int .i64 0, .int .i64 0, .int .i64 0, .int .i64 0, .slice none 0 0, .slice none 0 0, .slice none 0 0, .slice none 0 0]], ⟨⟨_, rfl, hS.lvF 5 rfl ag_60⟩, trivial⟩, ?_⟩
      replace hS := (hS.sel 7 [1, 0] rfl)
      exact ⟨_, rfl, hS, f1, f2⟩
set_option maxRecDepth 8192 in
theorem do_1 {g w : World} {L : List HP} (p s a : Nat) (V : VM) (A : AM) (R : List Int) (hV : VI V A R) (hrm : 0 < V.room) (hla : V.last < 1000000000) (hlen : R.length ≤ 900000000) (hS : St g (Sto p s a V :: Arn a A :: L) w) :
    Sp Tryz.prog 14 [.pointer (some ⟨p, 0, none⟩), .agg #[.int .i64 1, .int .u64 0, .int .u64 0, .int .i64 0, .int .i64 0, .int .i64 0, .int .i64 0, .int .i64 0, .bool false, .string ⟨#[]⟩, .slice none 0 0, .slice none 0 0, .slice none 0 0]] w (fun v w' => ∃ (V2 : VM), v = .agg #[.int .i64 0, .int .u64 V.T.newH, .int .i64 0, .bool false, .int .i64 0, .int .i64 0, .int .i64 0, .int .i64 0, .int .i64 0, .int .i64 0, .int .i64 0, .slice none 0 0, .slice none 0 0, .slice none 0 0, .slice none 0 0] ∧ St g (Sto p s a V2 :: Arn a A :: L) w' ∧ (VI V2 A R) ∧ (Com V 0 [] V2)) := by
  refine Sp.enter Tryz.func14 rfl (by kernel_rfl) (by kernel_rfl) ?_
  refine WC.seq ?_
  refine WC.region ?_
  refine WL.box rfl rfl #[.int .i64 1, .int .u64 0, .int .u64 0, .int .i64 0, .int .i64 0, .int .i64 0, .int .i64 0, .int .i64 0, .bool false, .string ⟨#[]⟩, .slice none 0 0, .slice none 0 0, .slice none 0 0] hS rfl rfl (fun b1 w hS => ?_)
  refine WL.new rfl rfl zv_60 hS (fun b2 w hS => ?_)
  refine WL.nil ?_
  refine WC.seq ?_
  refine WC.seq ?_
  refine WC.region ?_
  refine WL.ldF rfl rfl 1 hS rfl rfl ag_63 ?_
  refine WL.call rfl rfl (valid_1   (hS := hS)) rfl ?_
  clear hS; rintro _ w ⟨rfl, hS⟩
  replace hS : St g (cel b2 #[.int .i64 0, .int .u64 0, .int .i64 0, .bool false, .int .i64 0, .int .i64 0, .int .i64 0, .int .i64 0, .int .i64 0, .int .i64 0, .int .i64 0, .slice none 0 0, .slice none 0 0, .slice none 0 0, .slice none 0 0] 60 :: cel b1 #[.int .i64 1, .int .u64 0, .int .u64 0, .int .i64 0, .int .i64 0, .int .i64 0, .int .i64 0, .int .i64 0, .bool false, .string ⟨#[]⟩, .slice none 0 0, .slice none 0 0, .slice none 0 0] 63 :: Sto p s a V :: Arn a A :: L) w := hS
  refine WL.r 2 rfl ?_
  refine WL.ung rfl rfl rfl ?_
  refine WL.ldF rfl rfl 1 hS rfl rfl ag_63 ?_
  refine WL.ung rfl rfl rfl ?_
  refine WL.call rfl rfl (snd_1   (hS := hS)) rfl ?_
  clear hS; rintro _ w ⟨rfl, hS⟩
  replace hS : St g (cel b2 #[.int .i64 0, .int .u64 0, .int .i64 0, .bool false, .int .i64 0, .int .i64 0, .int .i64 0, .int .i64 0, .int .i64 0, .int .i64 0, .int .i64 0, .slice none 0 0, .slice none 0 0, .slice none 0 0, .slice none 0 0] 60 :: cel b1 #[.int .i64 1, .int .u64 0, .int .u64 0, .int .i64 0, .int .i64 0, .int .i64 0, .int .i64 0, .int .i64 0, .bool false, .string ⟨#[]⟩, .slice none 0 0, .slice none 0 0, .slice none 0 0] 63 :: Sto p s a V :: Arn a A :: L) w := hS
  refine WL.ung rfl rfl rfl ?_
  refine WL.r 2 rfl ?_
  refine WL.nil ?_
  refine WC.ifF rfl rfl ?_
  refine WC.skip ?_
  as_aux_lemma =>
    refine WC.seq ?_
    refine WC.seq ?_
    refine WC.region ?_
    refine WL.r 1 rfl ?_
    refine WL.ldF rfl rfl 1 hS rfl rfl ag_63 ?_
    refine WL.call rfl rfl (open_1 (p := p)  (hS := hS)) rfl ?_
    clear hS; rintro _ w ⟨rfl, hS⟩
    replace hS : St g (cel b2 #[.int .i64 0, .int .u64 0, .int .i64 0, .bool false, .int .i64 0, .int .i64 0, .int .i64 0, .int .i64 0, .int .i64 0, .int .i64 0, .int .i64 0, .slice none 0 0, .slice none 0 0, .slice none 0 0, .slice none 0 0] 60 :: cel b1 #[.int .i64 1, .int .u64 0, .int .u64 0, .int .i64 0, .int .i64 0, .int .i64 0, .int .i64 0, .int .i64 0, .bool false, .string ⟨#[]⟩, .slice none 0 0, .slice none 0 0, .slice none 0 0] 63 :: Sto p s a V :: Arn a A :: L) w := hS
    refine WL.r 1 rfl ?_
    refine WL.nil ?_
    refine WC.seq ?_
    refine WC.region ?_
    refine WL.r 2 rfl ?_
    refine WL.nil ?_
    refine WC.ifF rfl (decide_eq_false ((by decide))) ?_
    refine WC.skip ?_
    refine WC.seq ?_
    refine WC.seq ?_
    refine WC.region ?_
    refine WL.run 2 [.int .i64 1] rfl (by exact hS.ld 1 rfl rfl) ?_
    refine WL.call rfl rfl (creates_1   (hS := hS)) rfl ?_
    clear hS; rintro _ w ⟨rfl, hS⟩
    replace hS : St g (cel b2 #[.int .i64 0, .int .u64 0, .int .i64 0, .bool false, .int .i64 0, .int .i64 0, .int .i64 0, .int .i64 0, .int .i64 0, .int .i64 0, .int .i64 0, .slice none 0 0, .slice none 0 0, .slice none 0 0, .slice none 0 0] 60 :: cel b1 #[.int .i64 1, .int .u64 0, .int .u64 0, .int .i64 0, .int .i64 0, .int .i64 0, .int .i64 0, .int .i64 0, .bool false, .string ⟨#[]⟩, .slice none 0 0, .slice none 0 0, .slice none 0 0] 63 :: Sto p s a V :: Arn a A :: L) w := hS
    refine WL.nil ?_
    refine WC.ifT rfl rfl ?_
    refine WC.seq ?_
    refine WC.seq ?_
    refine WC.region ?_
    obtain ⟨⟨nm, c, x, m⟩, hS⟩ := St.exOpen (f := stoF p s a V) (hS.at_ 2 rfl)
    replace hS : St g (cel p #[.pointer (some ⟨s, 0, none⟩), .pointer (some ⟨nm, 0, none⟩), .pointer (some ⟨c, 0, none⟩), .pointer (some ⟨x, 0, none⟩), .map (some m)] 49 :: Vst s a V :: blk m (.map (mE []) 0) :: cel b2 #[.int .i64 0, .int .u64 0, .int .i64 0, .bool false, .int .i64 0, .int .i64 0, .int .i64 0, .int .i64 0, .int .i64 0, .int .i64 0, .int .i64 0, .slice none 0 0, .slice none 0 0, .slice none 0 0, .slice none 0 0] 60 :: cel b1 #[.int .i64 1, .int .u64 0, .int .u64 0, .int .i64 0, .int .i64 0, .int .i64 0, .int .i64 0, .int .i64 0, .bool false, .string ⟨#[]⟩, .slice none 0 0, .slice none 0 0, .slice none 0 0] 63 :: Arn a A :: L) w := hS
    obtain ⟨ss, hK⟩ := keys_ex hV.g.ok.uniq
    refine WL.run 4 [.pointer (some ⟨s, 0, none⟩)] rfl (by exact hS.ld 0 rfl rfl) ?_
    refine WL.call rfl rfl (vs_room (s := s) (a := a) (V := V) (ss := ss) (hT := hV.t) (hG := hV.g) (hp := hK.perm) (hs := hK.le) (hS := (hS.sel 2 [1, 0] rfl))) rfl ?_
    clear hS; rintro _ w ⟨rfl, hS⟩
    replace hS : St g (Vst s a V :: cel p #[.pointer (some ⟨s, 0, none⟩), .pointer (some ⟨nm, 0, none⟩), .pointer (some ⟨c, 0, none⟩), .pointer (some ⟨x, 0, none⟩), .map (some m)] 49 :: blk m (.map (mE []) 0) :: cel b2 #[.int .i64 0, .int .u64 0, .int .i64 0, .bool false, .int .i64 0, .int .i64 0, .int .i64 0, .int .i64 0, .int .i64 0, .int .i64 0, .int .i64 0, .slice none 0 0, .slice none 0 0, .slice none 0 0, .slice none 0 0] 60 :: cel b1 #[.int .i64 1, .int .u64 0, .int .u64 0, .int .i64 0, .int .i64 0, .int .i64 0, .int .i64 0, .int .i64 0, .bool false, .string ⟨#[]⟩, .slice none 0 0, .slice none 0 0, .slice none 0 0] 63 :: Arn a A :: L) w := hS
    refine WL.r 1 rfl ?_
    refine WL.nil ?_
    as_aux_lemma =>
      refine WC.ifF rfl (decide_eq_false ((by omega))) ?_
      refine WC.skip ?_
      refine WC.seq ?_
      refine WC.region ?_
      replace hS := St.exClose (f := stoF p s a V) (L := cel b2 #[.int .i64 0, .int .u64 0, .int .i64 0, .bool false, .int .i64 0, .int .i64 0, .int .i64 0, .int .i64 0, .int .i64 0, .int .i64 0, .int .i64 0, .slice none 0 0, .slice none 0 0, .slice none 0 0, .slice none 0 0] 60 :: cel b1 #[.int .i64 1, .int .u64 0, .int .u64 0, .int .i64 0, .int .i64 0, .int .i64 0, .int .i64 0, .int .i64 0, .bool false, .string ⟨#[]⟩, .slice none 0 0, .slice none 0 0, .slice none 0 0] 63 :: Arn a A :: L) ⟨nm, c, x, m⟩ ((hS.sel 2 [1, 0] rfl))
      replace hS : St g (Sto p s a V :: cel b2 #[.int .i64 0, .int .u64 0, .int .i64 0, .bool false, .int .i64 0, .int .i64 0, .int .i64 0, .int .i64 0, .int .i64 0, .int .i64 0, .int .i64 0, .slice none 0 0, .slice none 0 0, .slice none 0 0, .slice none 0 0] 60 :: cel b1 #[.int .i64 1, .int .u64 0, .int .u64 0, .int .i64 0, .int .i64 0, .int .i64 0, .int .i64 0, .int .i64 0, .bool false, .string ⟨#[]⟩, .slice none 0 0, .slice none 0 0, .slice none 0 0] 63 :: Arn a A :: L) w := hS
      refine WL.r 1 rfl ?_
      refine WL.ldF rfl rfl 2 hS rfl rfl ag_63 ?_
      refine WL.call rfl rfl (create_1 (p := p) (s := s) (a := a) (V := V) (A := A) (R := R) (hV := hV) (hrm := hrm) (hla := hla) (hlen := hlen) (hS := (hS.sel 4 [0, 2, 0, 0] rfl))) rfl ?_
      clear hS; rintro _ w ⟨V1, rfl, hS, f1, f2⟩
      replace hS : St g (Sto p s a V1 :: Arn a A :: cel b2 #[.int .i64 0, .int .u64 0, .int .i64 0, .bool false, .int .i64 0, .int .i64 0, .int .i64 0, .int .i64 0, .int .i64 0, .int .i64 0, .int .i64 0, .slice none 0 0, .slice none 0 0, .slice none 0 0, .slice none 0 0] 60 :: cel b1 #[.int .i64 1, .int .u64 0, .int .u64 0, .int .i64 0, .int .i64 0, .int .i64 0, .int .i64 0, .int .i64 0, .bool false, .string ⟨#[]⟩, .slice none 0 0, .slice none 0 0, .slice none 0 0] 63 :: L) w := hS
      refine WL.stF rfl rfl rfl 2 hS rfl rfl rfl rfl rfl ag_60 (fun w hS => ?_)
      replace hS : St g (Sto p s a V1 :: Arn a A :: cel b2 #[.int .i64 0, .int .u64 V.T.newH, .int .i64 0, .bool false, .int .i64 0, .int .i64 0, .int .i64 0, .int .i64 0, .int .i64 0, .int .i64 0, .int .i64 0, .slice none 0 0, .slice none 0 0, .slice none 0 0, .slice none 0 0] 60 :: cel b1 #[.int .i64 1, .int .u64 0, .int .u64 0, .int .i64 0, .int .i64 0, .int .i64 0, .int .i64 0, .int .i64 0, .bool false, .string ⟨#[]⟩, .slice none 0 0, .slice none 0 0, .slice none 0 0] 63 :: L) w := hS
      refine WL.nil ?_
      refine WC.ret ?_
      refine ⟨[.agg #[.int .i64 0, .int .u64 V.T.newH, .int .i64 0, .bool false, .int .i64 0, .int .i64 0, .int .i64 0, .int .i64 0, .int .i64 0, .int .i64 0, .int .i64 0, .slice none 0 0, .slice none 0 0, .slice none 0 0, .slice none 0 0]], ⟨⟨_, rfl, hS.lvF 2 rfl ag_60⟩, trivial⟩, ?_⟩
      replace hS := (hS.sel 4 [0, 0] rfl)
      exact ⟨_, rfl, hS, f1, f2⟩
end Go.Proofs.YtloebjlnmdjeiaaGreatDoor
/-! ## W1 -/
namespace Go.Proofs.YtloebjlnmdjeiaaGreatDoor
open Go Go.V
set_option maxRecDepth 8192 in
theorem tr_rel {g w : World} {L : List HP} (a : Nat) (A : AM) (R : List Int) (i : Int) (hA : ARf A (i :: R)) (hR : R.length ≤ 900000000) (hS : St g (Arn a A :: L) w) :
    Sp Tryz.prog 69 [.pointer (some ⟨a, 0, none⟩), .int .u32 i] w (fun v w' => ∃ (A2 : AM) (f : Int), v = .tuple #[.int .i64 f, .int .i64 0] ∧ St g (Arn a A2 :: L) w' ∧ (Rl A A2 R) ∧ (f = A2.s.free - A.s.free)) := by
  exact (ar_rel a A R i hA hR hS).mono fun v w' ⟨A2, f, hv, hS', h1, h2, h3, h4⟩ => ⟨A2, f, hv, hS', ⟨h1, h2.kp h1, by omega, h2.cap⟩, h3⟩
set_option maxRecDepth 8192 in
theorem tr_size {g w : World} {L : List HP} (a : Nat) (A : AM) (R : List Int) (i : Int) (t : Tr) (hA : ARf A R) (hi : Is A t i) (hS : St g (Arn a A :: L) w) :
    Sp Tryz.prog 126 [.pointer (some ⟨a, 0, none⟩), .int .u32 i] w (fun v w' => v = .int .i64 (t.n : Int) ∧ St g (Arn a A :: L) w') := by
  have h := hA.okrng hi.ref
  rw [← Is.sz hA t i hi]
  exact ar_size a A i hA.toAWf (by omega) hS
set_option maxRecDepth 8192 in
theorem tw_node {g w : World} {L : List HP} (a : Nat) (A : AM) (R : List Int) (l r k z : Int) (tl tr : Tr) (hA : ARf A (l :: r :: R)) (hl : Is A tl l) (hr : Is A tr r) (hf : 0 < A.s.free) (hz : R.length + tl.n + tr.n ≤ 850000000) (hS : St g (Arn a A :: L) w) :
    Sp Tryz.prog 197 [.pointer (some ⟨a, 0, none⟩), .int .u32 l, .agg #[.int .i64 k, .int .i64 z], .int .u32 r] w (fun v w' => ∃ (A2 : AM) (i : Int), v = .int .u32 i ∧ St g (Arn a A2 :: L) w' ∧ (TOp A A2 R i (.node tl k z tr) 1)) := by
  refine Sp.enter Tryz.func197 rfl (by kernel_rfl) (by kernel_rfl) ?_
  have _ := hz
  refine WC.seq ?_
  refine WC.region ?_
  have hM := Mk.of (k := k) (v := z) hA hl hr hf (by omega) (by omega); have hrl := hA.rng (r := l) (by simp); have hrr := hA.rng (r := r) (by simp)
  refine WL.box rfl rfl #[.int .i64 k, .int .i64 z] hS rfl rfl (fun b1 w hS => ?_)
  refine WL.r 1 rfl ?_
  refine WL.nil ?_
  refine WC.seq ?_
  refine WC.region ?_
  refine WL.run 7 [.int .i64 k, .int .i64 z] rfl (by exact ⟨hS.ld 0 rfl rfl, hS.ld 0 rfl rfl⟩) ?_
  refine WL.call rfl rfl (ar_make (a := a) (A := A) (key := k) (val := z) (l := l) (r := r) (hA := hA.toAWf) (hK := hM.kd) (hf := hf) (hS := (hS.sel 2 [1, 0] rfl))) rfl ?_
  clear hS; rintro _ w ⟨rfl, hS⟩
  replace hS : St g (Arn a (A.make (A.nodeOf k z l r)) :: cel b1 #[.int .i64 k, .int .i64 z] 52 :: L) w := hS
  refine WL.r 5 rfl ?_
  refine WL.nil ?_
  refine WC.seq ?_
  refine WC.region ?_
  refine WL.r 2 rfl ?_
  refine WL.call rfl rfl (tr_rel (a := a) (A := A.make (A.nodeOf k z l r)) (R := A.s.next :: r :: R) (i := l) (hA := hM.p1) (hR := (by simp only [List.length_cons]; omega)) (hS := hS)) rfl ?_
  clear hS; rintro _ w ⟨A1, f1, rfl, hS, f2, f3⟩
  replace hS : St g (Arn a A1 :: cel b1 #[.int .i64 k, .int .i64 z] 52 :: L) w := hS
  refine WL.nil ?_
  refine WC.seq ?_
  refine WC.region ?_
  refine WL.r 2 rfl ?_
  refine WL.call rfl rfl (tr_rel (a := a) (A := A1) (R := A.s.next :: R) (i := r) (hA := f2.p1) (hR := (by simp only [List.length_cons]; omega)) (hS := hS)) rfl ?_
  clear hS; rintro _ w ⟨A2, f4, rfl, hS, f5, f6⟩
  replace hS : St g (Arn a A2 :: cel b1 #[.int .i64 k, .int .i64 z] 52 :: L) w := hS
  refine WL.nil ?_
  as_aux_lemma =>
    refine WC.seq ?_
    refine WC.region ?_
    refine WL.r 2 rfl ?_
    refine WL.nil ?_
    refine WC.ret ?_
    refine ⟨[.int .u32 A.s.next], rfl, ?_⟩
    replace hS := (hS.sel 2 [0] rfl)
    exact ⟨_, _, rfl, hS, hM.op f2 f5⟩
theorem perm3 (x y i : Int) (R : List Int) : (y :: x :: i :: R).Perm (i :: x :: y :: R) :=
  ((List.Perm.swap x y _).trans (List.Perm.cons x (List.Perm.swap i y R))).trans (List.Perm.swap i x _)
set_option maxRecDepth 8192 in
theorem tw_open {g w : World} {L : List HP} (a : Nat) (A : AM) (R : List Int) (i k z : Int) (l r : Tr) (hA : ARf A (i :: R)) (hi : Is A (.node l k z r) i) (hz : R.length ≤ 850000000) (hS : St g (Arn a A :: L) w) :
    Sp Tryz.prog 200 [.pointer (some ⟨a, 0, none⟩), .int .u32 i] w (fun v w' => ∃ (A2 : AM) (x y : Int), v = .tuple #[.int .u32 x, .agg #[.int .i64 k, .int .i64 z], .int .u32 y] ∧ St g (Arn a A2 :: L) w' ∧ (Opn A A2 R x y l r)) := by
  refine Sp.enter Tryz.func200 rfl (by kernel_rfl) (by kernel_rfl) ?_
  have _ := hz
  refine WC.seq ?_
  refine WC.region ?_
  obtain ⟨hi1, hi2, hik, hiv, hil, hir⟩ := hi; have hri := hA.rng (r := i) (by simp); have hrl := hA.okrng hil.ref; have hrr := hA.okrng hir.ref
  have hr1 := AM.ret_eq hA hil.ref (by simp; omega); have hr2 := AM.ret_eq hr1.1 (hir.ret (A.nd i).lf).ref (by simp; omega)
  refine WL.r 1 rfl ?_
  refine WL.new rfl rfl zv_52 hS (fun b1 w hS => ?_)
  refine WL.r 1 rfl ?_
  refine WL.nil ?_
  refine WC.seq ?_
  refine WC.region ?_
  refine WL.r 2 rfl ?_
  refine WL.call rfl rfl (ar_node (a := a) (A := A) (i := i) (hA := hA.toAWf) (hi := (by omega)) (hio := hi2) (hS := (hS.sel 2 [1, 0] rfl))) rfl ?_
  clear hS; rintro _ w ⟨rfl, hS⟩
  replace hS : St g (Arn a A :: cel b1 #[.int .i64 0, .int .i64 0] 52 :: L) w := hS
  refine WL.r 3 rfl ?_
  refine WL.new rfl rfl zv_113 hS (fun b2 w hS => ?_)
  refine WL.stF rfl rfl rfl 0 hS rfl rfl rfl rfl rfl ag_113 (fun w hS => ?_)
  replace hS : St g (cel b2 #[.int .i64 (A.nd i).key, .int .i64 (A.nd i).val, .int .u32 (A.nd i).lf, .int .u32 (A.nd i).rg, .int .i64 (A.nd i).size, .int .i64 (A.nd i).sum, .int .i64 (A.nd i).mn, .int .i64 (A.nd i).mx] 113 :: Arn a A :: cel b1 #[.int .i64 0, .int .i64 0] 52 :: L) w := hS
  refine WL.r 1 rfl ?_
  refine WL.nil ?_
  refine WC.seq ?_
  refine WC.seq ?_
  refine WC.region ?_
  refine WL.r 2 rfl ?_
  refine WL.nil ?_
  as_aux_lemma =>
    refine WC.ifF rfl rfl ?_
    refine WC.skip ?_
    refine WC.seq ?_
    refine WC.region ?_
    refine WL.run 3 [.int .u32 (A.nd i).lf] rfl (by exact hS.ld 0 rfl rfl) ?_
    refine WL.call rfl rfl (ar_retain (a := a) (A := A) (i := (A.nd i).lf) (hA := hA.toAWf) (hi := (by omega)) (hS := (hS.sel 2 [1, 0] rfl))) rfl ?_
    clear hS; rintro _ w ⟨rfl, hS⟩
    replace hS : St g (Arn a (A.ret (A.nd i).lf) :: cel b2 #[.int .i64 (A.nd i).key, .int .i64 (A.nd i).val, .int .u32 (A.nd i).lf, .int .u32 (A.nd i).rg, .int .i64 (A.nd i).size, .int .i64 (A.nd i).sum, .int .i64 (A.nd i).mn, .int .i64 (A.nd i).mx] 113 :: cel b1 #[.int .i64 0, .int .i64 0] 52 :: L) w := hS
    refine WL.nil ?_
    refine WC.seq ?_
    refine WC.region ?_
    refine WL.run 3 [.int .u32 (A.nd i).rg] rfl (by exact hS.ld 1 rfl rfl) ?_
    refine WL.call rfl rfl (ar_retain (a := a) (A := A.ret (A.nd i).lf) (i := (A.nd i).rg) (hA := hr1.1.toAWf) (hi := (by omega)) (hS := hS)) rfl ?_
    clear hS; rintro _ w ⟨rfl, hS⟩
    replace hS : St g (Arn a ((A.ret (A.nd i).lf).ret (A.nd i).rg) :: cel b2 #[.int .i64 (A.nd i).key, .int .i64 (A.nd i).val, .int .u32 (A.nd i).lf, .int .u32 (A.nd i).rg, .int .i64 (A.nd i).size, .int .i64 (A.nd i).sum, .int .i64 (A.nd i).mn, .int .i64 (A.nd i).mx] 113 :: cel b1 #[.int .i64 0, .int .i64 0] 52 :: L) w := hS
    refine WL.nil ?_
    refine WC.seq ?_
    refine WC.region ?_
    refine WL.r 2 rfl ?_
    refine WL.call rfl rfl (tr_rel (a := a) (A := (A.ret (A.nd i).lf).ret (A.nd i).rg) (R := (A.nd i).lf :: (A.nd i).rg :: R) (i := i) (hA := (hr2.1.perm (perm3 _ _ _ _))) (hR := (by simp only [List.length_cons]; omega)) (hS := hS)) rfl ?_
    clear hS; rintro _ w ⟨A1, f1, rfl, hS, f2, f3⟩
    replace hS : St g (Arn a A1 :: cel b2 #[.int .i64 (A.nd i).key, .int .i64 (A.nd i).val, .int .u32 (A.nd i).lf, .int .u32 (A.nd i).rg, .int .i64 (A.nd i).size, .int .i64 (A.nd i).sum, .int .i64 (A.nd i).mn, .int .i64 (A.nd i).mx] 113 :: cel b1 #[.int .i64 0, .int .i64 0] 52 :: L) w := hS
    refine WL.nil ?_
    refine WC.seq ?_
    refine WC.plan [([0, 2, 4, 7, 1, 3, 5, 8, 9], some (6, [0, 1, 7, 8, 9])), ([], some (10, [7, 8])), ([11], none)] (by kernel_rfl) (by kernel_rfl) ?_
    refine WQ.run 9 [.int .u32 (A.nd i).lf, .int .i64 (A.nd i).key, .int .i64 (A.nd i).val, .int .u32 (A.nd i).rg] rfl (by exact ⟨hS.ld 1 rfl rfl, hS.ld 1 rfl rfl, hS.ld 1 rfl rfl, hS.ld 1 rfl rfl⟩) ?_
    refine WQ.nil ?_
    intro m1
    replace hS := hS.drewN m1; generalize hwm1 : World.drewN _ _ = w at *; clear hwm1
    refine WL.build rfl rfl (cs := [.int .i64 (A.nd i).key, .int .i64 (A.nd i).val]) zv_52 rfl rfl ?_
    refine WL.nil ?_
    refine ⟨by exact ⟨RQ.pure rfl rfl rfl rfl, RQ.load rfl rfl rfl rfl (hS.ld 1 rfl rfl), RQ.pure rfl rfl rfl rfl, RQ.load rfl rfl rfl rfl (hS.ld 1 rfl rfl), RQ.pure rfl rfl rfl rfl⟩, ?_⟩
    refine WQ.nil ?_
    intro m2
    replace hS := hS.drewN m2; generalize hwm2 : World.drewN _ _ = w at *; clear hwm2
    refine WL.stF rfl rfl rfl 2 hS rfl rfl rfl rfl rfl ag_52 (fun w hS => ?_)
    replace hS : St g (Arn a A1 :: cel b2 #[.int .i64 (A.nd i).key, .int .i64 (A.nd i).val, .int .u32 (A.nd i).lf, .int .u32 (A.nd i).rg, .int .i64 (A.nd i).size, .int .i64 (A.nd i).sum, .int .i64 (A.nd i).mn, .int .i64 (A.nd i).mx] 113 :: cel b1 #[.int .i64 (A.nd i).key, .int .i64 (A.nd i).val] 52 :: L) w := hS
    refine WL.nil ?_
    refine ⟨by exact ⟨RQ.pure rfl rfl rfl rfl, RQ.load rfl rfl rfl rfl (hS.ld 1 rfl rfl)⟩, ?_⟩
    refine WQ.r 1 rfl ?_
    refine WQ.nil ?_
    intro m3
    replace hS := hS.drewN m3; generalize hwm3 : World.drewN _ _ = w at *; clear hwm3
    as_aux_lemma =>
      refine WC.ret ?_
      refine ⟨[.int .u32 (A.nd i).lf, .agg #[.int .i64 (A.nd i).key, .int .i64 (A.nd i).val], .int .u32 (A.nd i).rg], ⟨rfl, ⟨_, rfl, hS.lvF 2 rfl ag_52⟩, rfl⟩, ?_⟩
      replace hS := (hS.sel 3 [0] rfl)
      exact ⟨_, _, _, by rw [← hik, ← hiv]; rfl, hS, Opn.of ⟨hi1, hi2, hik, hiv, hil, hir⟩ f2⟩
theorem bif_and (p q : Prop) [Decidable p] [Decidable q] : (bif decide p then decide q else false) = decide (p ∧ q) := by
  by_cases h1 : p <;> by_cases h2 : q <;> simp [h1, h2]
set_option maxRecDepth 8192 in
theorem bal_spec {g w : World} {L : List HP} (x y : Int) (hx : 0 ≤ x ∧ x ≤ 2000000000) (hy : 0 ≤ y ∧ y ≤ 2000000000) (hS : St g (L) w) :
    Sp Tryz.prog 271 [.int .i64 x, .int .i64 y] w (fun v w' => v = .bool (decide (x + 1 ≤ 3 * (y + 1) ∧ y + 1 ≤ 3 * (x + 1))) ∧ St g (L) w') := by
  refine Sp.enter Tryz.func271 rfl (by kernel_rfl) (by kernel_rfl) ?_
  have _ := hy
  have _ := hx
  refine WC.seq ?_
  refine WC.region ?_
  refine WL.r 1 rfl ?_
  refine WL.nil ?_
  refine WC.seq ?_
  refine WC.seq ?_
  refine WC.region ?_
  refine WL.r 2 rfl ?_
  refine WL.rG 12 rfl (fun j => ?_)
  refine WL.prop 18 rfl (bor (bor (bor (dd _) (dd _)) (dd _)) (dd _)) ?_
  refine WL.nil ?_
  refine WC.ifF rfl (decide_eq_false ((by omega))) ?_
  refine WC.skip ?_
  refine WC.seq ?_
  refine WC.region ?_
  refine WL.r 2 rfl ?_
  refine WL.nw 20 rfl (w64 (by omega)) ?_
  refine WL.r 2 rfl ?_
  refine WL.nw 22 rfl (w64 (by omega)) ?_
  refine WL.r 1 rfl ?_
  refine WL.nw 23 rfl (w64 (by omega)) ?_
  refine WL.r 1 rfl ?_
  refine WL.rG 9 rfl (fun j => ?_)
  refine WL.prop 32 rfl (band (dd _) (dd _)) ?_
  refine WL.nil ?_
  as_aux_lemma =>
    refine WC.ret ?_
    refine ⟨[.bool (bif (decide ((x + 1) ≤ (3 * (y + 1)))) then (decide ((IntKind.i64.wrap (y + 1)) ≤ (IntKind.i64.wrap (3 * (IntKind.i64.wrap (x + 1)))))) else false)], rfl, ?_⟩
    exact ⟨congrArg Value.bool (by rw [w64 (z := y + 1) (by omega), w64 (z := x + 1) (by omega), w64 (z := 3 * (x + 1)) (by omega), bif_and]), hS⟩
end Go.Proofs.YtloebjlnmdjeiaaGreatDoor
/-! ## W2 -/
namespace Go.Proofs.YtloebjlnmdjeiaaGreatDoor
open Go Go.V
theorem not_nil {t : Tr} (h : t.n ≠ 0) : ∃ l k v r, t = .node l k v r := by
  cases t with
  | nil => exact absurd rfl h
  | node l k v r => exact ⟨l, k, v, r, rfl⟩
theorem dec_congr {a b : Prop} [Decidable a] [Decidable b] (h : a ↔ b) : decide a = decide b := by
  by_cases h1 : a
  · rw [decide_eq_true h1, decide_eq_true (h.1 h1)]
  · rw [decide_eq_false h1, decide_eq_false (fun h2 => h1 (h.2 h2))]
set_option maxHeartbeats 1000000 in
set_option maxRecDepth 8192 in
theorem tw_litL {g w : World} {L : List HP} (a : Nat) (A : AM) (R : List Int) (l r k z : Int) (tl tm ts : Tr) (fk fz : Int) (hA : ARf A (l :: r :: R)) (hl : Is A tl l) (hr : Is A (.node tm fk fz ts) r) (hf : 3 ≤ A.s.free) (hz : R.length + tl.n + tm.n + ts.n ≤ 800000000) (hS : St g (Arn a A :: L) w) :
    Sp Tryz.prog 318 [.pointer (some ⟨a, 0, none⟩), .int .i64 (tl.n : Int), .int .u32 l, .agg #[.int .i64 k, .int .i64 z], .int .u32 r] w (fun v w' => ∃ (A2 : AM) (i : Int), v = .int .u32 i ∧ St g (Arn a A2 :: L) w' ∧ (TOp A A2 R i (Tr.litL tl k z (.node tm fk fz ts)) 3)) := by
  refine Sp.enter Tryz.func318 rfl (by kernel_rfl) (by kernel_rfl) ?_
  have _ := hz
  have _ := hf
  refine WC.seq ?_
  refine WC.region ?_
  refine WL.box rfl rfl #[.int .i64 k, .int .i64 z] hS rfl rfl (fun b1 w hS => ?_)
  refine WL.r 1 rfl ?_
  refine WL.nil ?_
  refine WC.seq ?_
  refine WC.region ?_
  refine WL.r 2 rfl ?_
  refine WL.call rfl rfl (tw_open (a := a) (A := A) (R := l :: R) (i := r) (k := fk) (z := fz) (l := tm) (r := ts) (hA := hA.sw) (hi := hr) (hz := (by simp only [List.length_cons]; omega)) (hS := (hS.sel 2 [1, 0] rfl))) rfl ?_
  clear hS; rintro _ w ⟨A1, x1, y1, rfl, hS, f1⟩
  replace hS : St g (Arn a A1 :: cel b1 #[.int .i64 k, .int .i64 z] 52 :: L) w := hS
  refine WL.r 4 rfl ?_
  refine WL.new rfl rfl zv_52 hS (fun b2 w hS => ?_)
  refine WL.r 1 rfl ?_
  refine WL.stF rfl rfl rfl 0 hS rfl rfl rfl rfl rfl ag_52 (fun w hS => ?_)
  replace hS : St g (cel b2 #[.int .i64 fk, .int .i64 fz] 52 :: Arn a A1 :: cel b1 #[.int .i64 k, .int .i64 z] 52 :: L) w := hS
  refine WL.r 1 rfl ?_
  refine WL.nil ?_
  refine WC.seq ?_
  refine WC.region ?_
  have hr1 := f1.rng; have hl1 := f1.kp l (by simp) tl hl; have hx0 := Is.nil_iff f1.il; have hfr1 := f1.fr
  refine WL.r 2 rfl ?_
  refine WL.call rfl rfl (tr_size (a := a) (A := A1) (R := x1 :: y1 :: l :: R) (i := x1) (t := tm) (hA := f1.ref) (hi := f1.il) (hS := (hS.sel 2 [1, 0] rfl))) rfl ?_
  clear hS; rintro _ w ⟨rfl, hS⟩
  replace hS : St g (Arn a A1 :: cel b2 #[.int .i64 fk, .int .i64 fz] 52 :: cel b1 #[.int .i64 k, .int .i64 z] 52 :: L) w := hS
  refine WL.r 1 rfl ?_
  refine WL.nil ?_
  as_aux_lemma =>
    refine WC.seq ?_
    refine WC.seq ?_
    refine WC.cut [0, 2, 8, 10, 11, 12, 13, 45] (fun vs w => ∃ (tb : Bool), vs = [.pointer (some ⟨a, 0, none⟩), .int .u32 l, .pointer (some ⟨b1, 0, none⟩), .int .u32 0, .int .u32 x1, .pointer (some ⟨b2, 0, none⟩), .int .u32 y1, .bool tb] ∧ St g (Arn a A1 :: cel b2 #[.int .i64 fk, .int .i64 fz] 52 :: cel b1 #[.int .i64 k, .int .i64 z] 52 :: L) w ∧ (tb = decide (tm.n = 0 ∨ (Bal tl.n tm.n ∧ Bal (tl.n + tm.n + 1) ts.n)))) ?_ ?_
    · refine WC.region ?_
      refine WL.r 3 rfl ?_
      by_cases cg1 : x1 = 0
      · refine WL.reb 31 (.bool true) (congrArg Value.bool (decide_eq_true cg1)) ?_
        refine WL.skp rfl rfl rfl rfl ?_
        refine WL.skp rfl rfl rfl rfl ?_
        refine WL.skp rfl rfl rfl rfl ?_
        refine WL.skp rfl rfl rfl rfl ?_
        refine WL.skU rfl rfl rfl ?_
        refine WL.skU rfl rfl rfl ?_
        refine WL.skU rfl rfl rfl ?_
        refine WL.skU rfl rfl rfl ?_
        refine WL.skU rfl rfl rfl ?_
        refine WL.skU rfl rfl rfl ?_
        refine WL.skU rfl rfl rfl ?_
        refine WL.skU rfl rfl rfl ?_
        refine WL.skp rfl rfl rfl rfl ?_
        refine WL.r 1 rfl ?_
        refine WL.nil ?_
        exact ⟨true, rfl, hS, (decide_eq_true (.inl (by rw [hx0.1 cg1]; rfl))).symm⟩
      · refine WL.reb 31 (.bool false) (congrArg Value.bool (decide_eq_false cg1)) ?_
        refine WL.ung rfl rfl rfl ?_
        refine WL.r 1 rfl ?_
        refine WL.ung rfl rfl rfl ?_
        refine WL.r 1 rfl ?_
        refine WL.ung rfl rfl rfl ?_
        refine WL.call rfl rfl (bal_spec (x := (tl.n : Int)) (y := (tm.n : Int)) (hx := (by omega)) (hy := (by omega)) (hS := hS)) rfl ?_
        clear hS; rintro _ w ⟨rfl, hS⟩
        replace hS : St g (Arn a A1 :: cel b2 #[.int .i64 fk, .int .i64 fz] 52 :: cel b1 #[.int .i64 k, .int .i64 z] 52 :: L) w := hS
        refine WL.ung rfl rfl rfl ?_
        refine WL.r 1 rfl ?_
        by_cases cg2 : (tl.n : Int) + 1 ≤ 3 * ((tm.n : Int) + 1) ∧ (tm.n : Int) + 1 ≤ 3 * ((tl.n : Int) + 1)
        · refine WL.reb 35 (.bool true) (congrArg Value.bool (decide_eq_true cg2)) ?_
          refine WL.ung rfl rfl rfl ?_
          refine WL.r 1 rfl ?_
          refine WL.ung rfl rfl rfl ?_
          refine WL.r 1 rfl ?_
          refine WL.ung rfl rfl rfl ?_
          refine WL.r 1 rfl ?_
          refine WL.nw 38 rfl (w64 (by omega)) ?_
          refine WL.ung rfl rfl rfl ?_
          refine WL.r 1 rfl ?_
          refine WL.nw 39 rfl (w64 (by omega)) ?_
          refine WL.ung rfl rfl rfl ?_
          refine WL.r 1 rfl ?_
          refine WL.ung rfl rfl rfl ?_
          refine WL.r 1 rfl ?_
          refine WL.ung rfl rfl rfl ?_
          refine WL.call rfl rfl (tr_size (a := a) (A := A1) (R := x1 :: y1 :: l :: R) (i := y1) (t := ts) (hA := f1.ref) (hi := f1.ir) (hS := hS)) rfl ?_
          clear hS; rintro _ w ⟨rfl, hS⟩
          replace hS : St g (Arn a A1 :: cel b2 #[.int .i64 fk, .int .i64 fz] 52 :: cel b1 #[.int .i64 k, .int .i64 z] 52 :: L) w := hS
          refine WL.ung rfl rfl rfl ?_
          refine WL.call rfl rfl (bal_spec (x := ((tl.n : Int) + (tm.n : Int)) + 1) (y := (ts.n : Int)) (hx := (by omega)) (hy := (by omega)) (hS := hS)) rfl ?_
          clear hS; rintro _ w ⟨rfl, hS⟩
          replace hS : St g (Arn a A1 :: cel b2 #[.int .i64 fk, .int .i64 fz] 52 :: cel b1 #[.int .i64 k, .int .i64 z] 52 :: L) w := hS
          refine WL.ung rfl rfl rfl ?_
          refine WL.r 2 rfl ?_
          refine WL.nil ?_
          exact ⟨decide ((((tl.n : Int) + (tm.n : Int)) + 1) + 1 ≤ 3 * ((ts.n : Int) + 1) ∧ (ts.n : Int) + 1 ≤ 3 * ((((tl.n : Int) + (tm.n : Int)) + 1) + 1)), rfl, hS, (dec_congr (by have h9 : tm.n ≠ 0 := fun e => cg1 (hx0.2 (Tr.n0 e)); unfold Bal; omega))⟩
        · refine WL.reb 35 (.bool false) (congrArg Value.bool (decide_eq_false cg2)) ?_
          refine WL.skp rfl rfl rfl rfl ?_
          refine WL.skp rfl rfl rfl rfl ?_
          refine WL.skp rfl rfl rfl rfl ?_
          refine WL.skp rfl rfl rfl rfl ?_
          refine WL.skp rfl rfl rfl rfl ?_
          refine WL.skp rfl rfl rfl rfl ?_
          refine WL.skp rfl rfl rfl rfl ?_
          refine WL.skp rfl rfl rfl rfl ?_
          refine WL.ung rfl rfl rfl ?_
          refine WL.r 2 rfl ?_
          refine WL.nil ?_
          exact ⟨false, rfl, hS, (decide_eq_false (by have h9 : tm.n ≠ 0 := fun e => cg1 (hx0.2 (Tr.n0 e)); unfold Bal; omega)).symm⟩
    clear hS; rintro _ w j ⟨tb, rfl, hS, hb⟩
    refine WC.if_ rfl (fun hc => ?_) (fun hc => ?_)
    · refine WC.seq ?_
      refine WC.plan [([0, 1, 2, 3, 4, 6, 7], some (5, [0, 6, 7])), ([], some (8, [])), ([9], none)] (by kernel_rfl) (by kernel_rfl) ?_
      refine WQ.r 3 rfl ?_
      refine WQ.ldF rfl rfl 2 hS rfl rfl ag_52 ?_
      refine WQ.r 1 rfl ?_
      refine WQ.ldF rfl rfl 1 hS rfl rfl ag_52 ?_
      refine WQ.r 1 rfl ?_
      refine WQ.nil ?_
      intro m1
      replace hS := hS.drewN m1; generalize hwm1 : World.drewN _ _ = w at *; clear hwm1
      refine WL.call rfl rfl (tw_node (a := a) (A := A1) (R := y1 :: R) (l := l) (r := x1) (k := k) (z := z) (tl := tl) (tr := tm) (hA := f1.ref.r3) (hl := hl1) (hr := f1.il) (hf := (by omega)) (hz := (by simp only [List.length_cons]; omega)) (hS := hS)) rfl ?_
      clear hS; rintro _ w ⟨A2, i1, rfl, hS, f2⟩
      replace hS : St g (Arn a A2 :: cel b2 #[.int .i64 fk, .int .i64 fz] 52 :: cel b1 #[.int .i64 k, .int .i64 z] 52 :: L) w := hS
      refine WL.nil ?_
      refine ⟨by exact ⟨RQ.pure rfl rfl rfl rfl, RQ.ldF rfl rfl 1 hS rfl rfl ag_52 rfl rfl, RQ.pure rfl rfl rfl rfl⟩, ?_⟩
      refine WQ.nil ?_
      intro m2
      replace hS := hS.drewN m2; generalize hwm2 : World.drewN _ _ = w at *; clear hwm2
      refine WL.call rfl rfl (tw_node (a := a) (A := A2) (R := R) (l := i1) (r := y1) (k := fk) (z := fz) (tl := .node tl k z tm) (tr := ts) (hA := f2.ref) (hl := f2.is) (hr := (f2.kp y1 (by simp) ts f1.ir)) (hf := (by have := f2.fr; omega)) (hz := (by simp only [Tr.n]; omega)) (hS := hS)) rfl ?_
      clear hS; rintro _ w ⟨A3, i2, rfl, hS, f3⟩
      replace hS : St g (Arn a A3 :: cel b2 #[.int .i64 fk, .int .i64 fz] 52 :: cel b1 #[.int .i64 k, .int .i64 z] 52 :: L) w := hS
      refine WL.nil ?_
      refine ⟨by exact trivial, ?_⟩
      refine WQ.r 1 rfl ?_
      refine WQ.nil ?_
      intro m3
      replace hS := hS.drewN m3; generalize hwm3 : World.drewN _ _ = w at *; clear hwm3
      as_aux_lemma =>
        refine WC.ret ?_
        refine ⟨[.int .u32 i2], rfl, ?_⟩
        replace hS := (hS.sel 3 [0] rfl)
        exact ⟨_, _, rfl, hS, by rw [Tr.litL, if_pos (of_decide_eq_true (hb ▸ hc))]; exact f3.after (f1.ch.trans f2.ch sb1 sb1) sb0 (by omega)⟩
    · refine WC.skip ?_
      refine WC.seq ?_
      refine WC.region ?_
      have hcn := of_decide_eq_false (hb.symm.trans hc); obtain ⟨tx, gk, gz, ty, htm⟩ := not_nil (t := tm) (fun e => hcn (.inl e)); have him : Is A1 (.node tx gk gz ty) x1 := htm ▸ f1.il; have htn : tm.n = tx.n + ty.n + 1 := (by rw [htm]; rfl)
      refine WL.r 2 rfl ?_
      refine WL.call rfl rfl (tw_open (a := a) (A := A1) (R := y1 :: l :: R) (i := x1) (k := gk) (z := gz) (l := tx) (r := ty) (hA := f1.ref) (hi := him) (hz := (by simp only [List.length_cons]; omega)) (hS := hS)) rfl ?_
      clear hS; rintro _ w ⟨A2, x2, y2, rfl, hS, f2⟩
      replace hS : St g (Arn a A2 :: cel b2 #[.int .i64 fk, .int .i64 fz] 52 :: cel b1 #[.int .i64 k, .int .i64 z] 52 :: L) w := hS
      refine WL.r 4 rfl ?_
      refine WL.new rfl rfl zv_52 hS (fun b3 w hS => ?_)
      refine WL.r 1 rfl ?_
      refine WL.stF rfl rfl rfl 0 hS rfl rfl rfl rfl rfl ag_52 (fun w hS => ?_)
      replace hS : St g (cel b3 #[.int .i64 gk, .int .i64 gz] 52 :: Arn a A2 :: cel b2 #[.int .i64 fk, .int .i64 fz] 52 :: cel b1 #[.int .i64 k, .int .i64 z] 52 :: L) w := hS
      refine WL.r 1 rfl ?_
      refine WL.nil ?_
      refine WC.seq ?_
      refine WC.region ?_
      have hr2 := f2.rng; have hl2 := f2.kp l (by simp) tl hl1; have hs2 := f2.kp y1 (by simp) ts f1.ir; have hfr2 := f2.fr
      refine WL.r 2 rfl ?_
      refine WL.ldF rfl rfl 3 hS rfl rfl ag_52 ?_
      refine WL.r 1 rfl ?_
      refine WL.call rfl rfl (tw_node (a := a) (A := A2) (R := y2 :: y1 :: R) (l := l) (r := x2) (k := k) (z := z) (tl := tl) (tr := tx) (hA := f2.ref.r4) (hl := hl2) (hr := f2.il) (hf := (by omega)) (hz := (by simp only [List.length_cons]; omega)) (hS := (hS.sel 2 [1, 0] rfl))) rfl ?_
      clear hS; rintro _ w ⟨A3, i1, rfl, hS, f3⟩
      replace hS : St g (Arn a A3 :: cel b3 #[.int .i64 gk, .int .i64 gz] 52 :: cel b2 #[.int .i64 fk, .int .i64 fz] 52 :: cel b1 #[.int .i64 k, .int .i64 z] 52 :: L) w := hS
      refine WL.r 1 rfl ?_
      refine WL.nil ?_
      as_aux_lemma =>
        refine WC.seq ?_
        refine WC.plan [([0, 1, 2, 3, 4, 5, 6], some (7, [0, 1, 2])), ([], some (8, [])), ([9], none)] (by kernel_rfl) (by kernel_rfl) ?_
        have hr3 := f3.rng; have hfr3 := f3.fr
        refine WQ.r 2 rfl ?_
        refine WQ.ldF rfl rfl 1 hS rfl rfl ag_52 ?_
        refine WQ.r 2 rfl ?_
        refine WQ.ldF rfl rfl 2 hS rfl rfl ag_52 ?_
        refine WQ.r 1 rfl ?_
        refine WQ.nil ?_
        intro m1
        replace hS := hS.drewN m1; generalize hwm1 : World.drewN _ _ = w at *; clear hwm1
        refine WL.call rfl rfl (tw_node (a := a) (A := A3) (R := i1 :: R) (l := y2) (r := y1) (k := fk) (z := fz) (tl := ty) (tr := ts) (hA := f3.ref.r3.r3) (hl := (f3.kp y2 (by simp) ty f2.ir)) (hr := (f3.kp y1 (by simp) ts hs2)) (hf := (by omega)) (hz := (by simp only [List.length_cons]; omega)) (hS := hS)) rfl ?_
        clear hS; rintro _ w ⟨A4, i2, rfl, hS, f4⟩
        replace hS : St g (Arn a A4 :: cel b3 #[.int .i64 gk, .int .i64 gz] 52 :: cel b2 #[.int .i64 fk, .int .i64 fz] 52 :: cel b1 #[.int .i64 k, .int .i64 z] 52 :: L) w := hS
        refine WL.nil ?_
        refine ⟨by exact ⟨RQ.pure rfl rfl rfl rfl, RQ.pure rfl rfl rfl rfl, RQ.ldF rfl rfl 1 hS rfl rfl ag_52 rfl rfl⟩, ?_⟩
        refine WQ.nil ?_
        intro m2
        replace hS := hS.drewN m2; generalize hwm2 : World.drewN _ _ = w at *; clear hwm2
        refine WL.call rfl rfl (tw_node (a := a) (A := A4) (R := R) (l := i1) (r := i2) (k := gk) (z := gz) (tl := .node tl k z tx) (tr := .node ty fk fz ts) (hA := f4.ref.sw) (hl := (f4.kp i1 (by simp) _ f3.is)) (hr := f4.is) (hf := (by have := f4.fr; omega)) (hz := (by simp only [Tr.n]; omega)) (hS := hS)) rfl ?_
        clear hS; rintro _ w ⟨A5, i3, rfl, hS, f5⟩
        replace hS : St g (Arn a A5 :: cel b3 #[.int .i64 gk, .int .i64 gz] 52 :: cel b2 #[.int .i64 fk, .int .i64 fz] 52 :: cel b1 #[.int .i64 k, .int .i64 z] 52 :: L) w := hS
        refine WL.nil ?_
        refine ⟨by exact trivial, ?_⟩
        refine WQ.r 1 rfl ?_
        refine WQ.nil ?_
        intro m3
        replace hS := hS.drewN m3; generalize hwm3 : World.drewN _ _ = w at *; clear hwm3
        as_aux_lemma =>
          refine WC.ret ?_
          refine ⟨[.int .u32 i3], rfl, ?_⟩
          replace hS := (hS.sel 4 [0] rfl)
          exact ⟨_, _, rfl, hS, by rw [Tr.litL, if_neg hcn, htm]; exact f5.after ((f1.ch.trans f2.ch sb1 sb2).trans (f3.ch.trans f4.ch sb2 sb1) sb0 sb0) sb0 (by omega)⟩
set_option maxHeartbeats 1000000 in
set_option maxRecDepth 8192 in
theorem tw_litR {g w : World} {L : List HP} (a : Nat) (A : AM) (R : List Int) (l r k z : Int) (tr tm ts : Tr) (fk fz : Int) (hA : ARf A (l :: r :: R)) (hl : Is A (.node ts fk fz tm) l) (hr : Is A tr r) (hf : 3 ≤ A.s.free) (hz : R.length + tr.n + tm.n + ts.n ≤ 800000000) (hS : St g (Arn a A :: L) w) :
    Sp Tryz.prog 319 [.pointer (some ⟨a, 0, none⟩), .int .i64 (tr.n : Int), .int .u32 l, .agg #[.int .i64 k, .int .i64 z], .int .u32 r] w (fun v w' => ∃ (A2 : AM) (i : Int), v = .int .u32 i ∧ St g (Arn a A2 :: L) w' ∧ (TOp A A2 R i (Tr.litR tr k z (.node ts fk fz tm)) 3)) := by
  refine Sp.enter Tryz.func319 rfl (by kernel_rfl) (by kernel_rfl) ?_
  have _ := hz
  have _ := hf
  refine WC.seq ?_
  refine WC.region ?_
  refine WL.box rfl rfl #[.int .i64 k, .int .i64 z] hS rfl rfl (fun b1 w hS => ?_)
  refine WL.r 1 rfl ?_
  refine WL.nil ?_
  refine WC.seq ?_
  refine WC.region ?_
  refine WL.r 2 rfl ?_
  refine WL.call rfl rfl (tw_open (a := a) (A := A) (R := r :: R) (i := l) (k := fk) (z := fz) (l := ts) (r := tm) (hA := hA) (hi := hl) (hz := (by simp only [List.length_cons]; omega)) (hS := (hS.sel 2 [1, 0] rfl))) rfl ?_
  clear hS; rintro _ w ⟨A1, x1, y1, rfl, hS, f1⟩
  replace hS : St g (Arn a A1 :: cel b1 #[.int .i64 k, .int .i64 z] 52 :: L) w := hS
  refine WL.r 4 rfl ?_
  refine WL.new rfl rfl zv_52 hS (fun b2 w hS => ?_)
  refine WL.r 1 rfl ?_
  refine WL.stF rfl rfl rfl 0 hS rfl rfl rfl rfl rfl ag_52 (fun w hS => ?_)
  replace hS : St g (cel b2 #[.int .i64 fk, .int .i64 fz] 52 :: Arn a A1 :: cel b1 #[.int .i64 k, .int .i64 z] 52 :: L) w := hS
  refine WL.r 1 rfl ?_
  refine WL.nil ?_
  refine WC.seq ?_
  refine WC.region ?_
  have hr1 := f1.rng; have hl1 := f1.kp r (by simp) tr hr; have hx0 := Is.nil_iff f1.ir; have hfr1 := f1.fr
  refine WL.r 2 rfl ?_
  refine WL.call rfl rfl (tr_size (a := a) (A := A1) (R := x1 :: y1 :: r :: R) (i := y1) (t := tm) (hA := f1.ref) (hi := f1.ir) (hS := (hS.sel 2 [1, 0] rfl))) rfl ?_
  clear hS; rintro _ w ⟨rfl, hS⟩
  replace hS : St g (Arn a A1 :: cel b2 #[.int .i64 fk, .int .i64 fz] 52 :: cel b1 #[.int .i64 k, .int .i64 z] 52 :: L) w := hS
  refine WL.r 1 rfl ?_
  refine WL.nil ?_
  as_aux_lemma =>
    refine WC.seq ?_
    refine WC.seq ?_
    refine WC.cut [0, 4, 8, 10, 11, 12, 13, 45] (fun vs w => ∃ (tb : Bool), vs = [.pointer (some ⟨a, 0, none⟩), .int .u32 r, .pointer (some ⟨b1, 0, none⟩), .int .u32 0, .int .u32 x1, .pointer (some ⟨b2, 0, none⟩), .int .u32 y1, .bool tb] ∧ St g (Arn a A1 :: cel b2 #[.int .i64 fk, .int .i64 fz] 52 :: cel b1 #[.int .i64 k, .int .i64 z] 52 :: L) w ∧ (tb = decide (tm.n = 0 ∨ (Bal tm.n tr.n ∧ Bal ts.n (tm.n + tr.n + 1))))) ?_ ?_
    · refine WC.region ?_
      refine WL.r 3 rfl ?_
      by_cases cg1 : y1 = 0
      · refine WL.reb 31 (.bool true) (congrArg Value.bool (decide_eq_true cg1)) ?_
        refine WL.skp rfl rfl rfl rfl ?_
        refine WL.skp rfl rfl rfl rfl ?_
        refine WL.skp rfl rfl rfl rfl ?_
        refine WL.skp rfl rfl rfl rfl ?_
        refine WL.skU rfl rfl rfl ?_
        refine WL.skU rfl rfl rfl ?_
        refine WL.skU rfl rfl rfl ?_
        refine WL.skU rfl rfl rfl ?_
        refine WL.skU rfl rfl rfl ?_
        refine WL.skU rfl rfl rfl ?_
        refine WL.skU rfl rfl rfl ?_
        refine WL.skU rfl rfl rfl ?_
        refine WL.skp rfl rfl rfl rfl ?_
        refine WL.r 1 rfl ?_
        refine WL.nil ?_
        exact ⟨true, rfl, hS, (decide_eq_true (.inl (by rw [hx0.1 cg1]; rfl))).symm⟩
      · refine WL.reb 31 (.bool false) (congrArg Value.bool (decide_eq_false cg1)) ?_
        refine WL.ung rfl rfl rfl ?_
        refine WL.r 1 rfl ?_
        refine WL.ung rfl rfl rfl ?_
        refine WL.r 1 rfl ?_
        refine WL.ung rfl rfl rfl ?_
        refine WL.call rfl rfl (bal_spec (x := (tm.n : Int)) (y := (tr.n : Int)) (hx := (by omega)) (hy := (by omega)) (hS := hS)) rfl ?_
        clear hS; rintro _ w ⟨rfl, hS⟩
        replace hS : St g (Arn a A1 :: cel b2 #[.int .i64 fk, .int .i64 fz] 52 :: cel b1 #[.int .i64 k, .int .i64 z] 52 :: L) w := hS
        refine WL.ung rfl rfl rfl ?_
        refine WL.r 1 rfl ?_
        by_cases cg2 : (tm.n : Int) + 1 ≤ 3 * ((tr.n : Int) + 1) ∧ (tr.n : Int) + 1 ≤ 3 * ((tm.n : Int) + 1)
        · refine WL.reb 35 (.bool true) (congrArg Value.bool (decide_eq_true cg2)) ?_
          refine WL.ung rfl rfl rfl ?_
          refine WL.r 1 rfl ?_
          refine WL.ung rfl rfl rfl ?_
          refine WL.r 1 rfl ?_
          refine WL.ung rfl rfl rfl ?_
          refine WL.call rfl rfl (tr_size (a := a) (A := A1) (R := x1 :: y1 :: r :: R) (i := x1) (t := ts) (hA := f1.ref) (hi := f1.il) (hS := hS)) rfl ?_
          clear hS; rintro _ w ⟨rfl, hS⟩
          replace hS : St g (Arn a A1 :: cel b2 #[.int .i64 fk, .int .i64 fz] 52 :: cel b1 #[.int .i64 k, .int .i64 z] 52 :: L) w := hS
          refine WL.ung rfl rfl rfl ?_
          refine WL.r 1 rfl ?_
          refine WL.ung rfl rfl rfl ?_
          refine WL.r 1 rfl ?_
          refine WL.ung rfl rfl rfl ?_
          refine WL.r 1 rfl ?_
          refine WL.nw 41 rfl (w64 (by omega)) ?_
          refine WL.ung rfl rfl rfl ?_
          refine WL.r 1 rfl ?_
          refine WL.nw 42 rfl (w64 (by omega)) ?_
          refine WL.ung rfl rfl rfl ?_
          refine WL.call rfl rfl (bal_spec (x := (ts.n : Int)) (y := ((tm.n : Int) + (tr.n : Int)) + 1) (hx := (by omega)) (hy := (by omega)) (hS := hS)) rfl ?_
          clear hS; rintro _ w ⟨rfl, hS⟩
          replace hS : St g (Arn a A1 :: cel b2 #[.int .i64 fk, .int .i64 fz] 52 :: cel b1 #[.int .i64 k, .int .i64 z] 52 :: L) w := hS
          refine WL.ung rfl rfl rfl ?_
          refine WL.r 2 rfl ?_
          refine WL.nil ?_
          exact ⟨decide ((ts.n : Int) + 1 ≤ 3 * ((((tm.n : Int) + (tr.n : Int)) + 1) + 1) ∧ (((tm.n : Int) + (tr.n : Int)) + 1) + 1 ≤ 3 * ((ts.n : Int) + 1)), rfl, hS, (dec_congr (by have h9 : tm.n ≠ 0 := fun e => cg1 (hx0.2 (Tr.n0 e)); unfold Bal; omega))⟩
        · refine WL.reb 35 (.bool false) (congrArg Value.bool (decide_eq_false cg2)) ?_
          refine WL.skp rfl rfl rfl rfl ?_
          refine WL.skp rfl rfl rfl rfl ?_
          refine WL.skp rfl rfl rfl rfl ?_
          refine WL.skp rfl rfl rfl rfl ?_
          refine WL.skp rfl rfl rfl rfl ?_
          refine WL.skp rfl rfl rfl rfl ?_
          refine WL.skp rfl rfl rfl rfl ?_
          refine WL.skp rfl rfl rfl rfl ?_
          refine WL.ung rfl rfl rfl ?_
          refine WL.r 2 rfl ?_
          refine WL.nil ?_
          exact ⟨false, rfl, hS, (decide_eq_false (by have h9 : tm.n ≠ 0 := fun e => cg1 (hx0.2 (Tr.n0 e)); unfold Bal; omega)).symm⟩
    clear hS; rintro _ w j ⟨tb, rfl, hS, hb⟩
    refine WC.if_ rfl (fun hc => ?_) (fun hc => ?_)
    · refine WC.seq ?_
      refine WC.plan [([0, 1, 2, 3, 4, 5, 6], some (7, [0, 1, 2])), ([], some (8, [])), ([9], none)] (by kernel_rfl) (by kernel_rfl) ?_
      refine WQ.r 2 rfl ?_
      refine WQ.ldF rfl rfl 1 hS rfl rfl ag_52 ?_
      refine WQ.r 2 rfl ?_
      refine WQ.ldF rfl rfl 2 hS rfl rfl ag_52 ?_
      refine WQ.r 1 rfl ?_
      refine WQ.nil ?_
      intro m1
      replace hS := hS.drewN m1; generalize hwm1 : World.drewN _ _ = w at *; clear hwm1
      refine WL.call rfl rfl (tw_node (a := a) (A := A1) (R := x1 :: R) (l := y1) (r := r) (k := k) (z := z) (tl := tm) (tr := tr) (hA := f1.ref.r3.r3) (hl := f1.ir) (hr := hl1) (hf := (by omega)) (hz := (by simp only [List.length_cons]; omega)) (hS := hS)) rfl ?_
      clear hS; rintro _ w ⟨A2, i1, rfl, hS, f2⟩
      replace hS : St g (Arn a A2 :: cel b2 #[.int .i64 fk, .int .i64 fz] 52 :: cel b1 #[.int .i64 k, .int .i64 z] 52 :: L) w := hS
      refine WL.nil ?_
      refine ⟨by exact ⟨RQ.pure rfl rfl rfl rfl, RQ.pure rfl rfl rfl rfl, RQ.ldF rfl rfl 1 hS rfl rfl ag_52 rfl rfl⟩, ?_⟩
      refine WQ.nil ?_
      intro m2
      replace hS := hS.drewN m2; generalize hwm2 : World.drewN _ _ = w at *; clear hwm2
      refine WL.call rfl rfl (tw_node (a := a) (A := A2) (R := R) (l := x1) (r := i1) (k := fk) (z := fz) (tl := ts) (tr := .node tm k z tr) (hA := f2.ref.sw) (hl := (f2.kp x1 (by simp) ts f1.il)) (hr := f2.is) (hf := (by have := f2.fr; omega)) (hz := (by simp only [Tr.n]; omega)) (hS := hS)) rfl ?_
      clear hS; rintro _ w ⟨A3, i2, rfl, hS, f3⟩
      replace hS : St g (Arn a A3 :: cel b2 #[.int .i64 fk, .int .i64 fz] 52 :: cel b1 #[.int .i64 k, .int .i64 z] 52 :: L) w := hS
      refine WL.nil ?_
      refine ⟨by exact trivial, ?_⟩
      refine WQ.r 1 rfl ?_
      refine WQ.nil ?_
      intro m3
      replace hS := hS.drewN m3; generalize hwm3 : World.drewN _ _ = w at *; clear hwm3
      as_aux_lemma =>
        refine WC.ret ?_
        refine ⟨[.int .u32 i2], rfl, ?_⟩
        replace hS := (hS.sel 3 [0] rfl)
        exact ⟨_, _, rfl, hS, by rw [Tr.litR, if_pos (of_decide_eq_true (hb ▸ hc))]; exact f3.after (f1.ch.trans f2.ch sb1 sb1) sb0 (by omega)⟩
    · refine WC.skip ?_
      refine WC.seq ?_
      refine WC.region ?_
      have hcn := of_decide_eq_false (hb.symm.trans hc); obtain ⟨tx, gk, gz, ty, htm⟩ := not_nil (t := tm) (fun e => hcn (.inl e)); have him : Is A1 (.node tx gk gz ty) y1 := htm ▸ f1.ir; have htn : tm.n = tx.n + ty.n + 1 := (by rw [htm]; rfl)
      refine WL.r 2 rfl ?_
      refine WL.call rfl rfl (tw_open (a := a) (A := A1) (R := x1 :: r :: R) (i := y1) (k := gk) (z := gz) (l := tx) (r := ty) (hA := f1.swap) (hi := him) (hz := (by simp only [List.length_cons]; omega)) (hS := hS)) rfl ?_
      clear hS; rintro _ w ⟨A2, x2, y2, rfl, hS, f2⟩
      replace hS : St g (Arn a A2 :: cel b2 #[.int .i64 fk, .int .i64 fz] 52 :: cel b1 #[.int .i64 k, .int .i64 z] 52 :: L) w := hS
      refine WL.r 4 rfl ?_
      refine WL.new rfl rfl zv_52 hS (fun b3 w hS => ?_)
      refine WL.r 1 rfl ?_
      refine WL.stF rfl rfl rfl 0 hS rfl rfl rfl rfl rfl ag_52 (fun w hS => ?_)
      replace hS : St g (cel b3 #[.int .i64 gk, .int .i64 gz] 52 :: Arn a A2 :: cel b2 #[.int .i64 fk, .int .i64 fz] 52 :: cel b1 #[.int .i64 k, .int .i64 z] 52 :: L) w := hS
      refine WL.r 1 rfl ?_
      refine WL.nil ?_
      refine WC.seq ?_
      refine WC.region ?_
      have hr2 := f2.rng; have hl2 := f2.kp r (by simp) tr hl1; have hs2 := f2.kp x1 (by simp) ts f1.il; have hfr2 := f2.fr
      refine WL.r 2 rfl ?_
      refine WL.ldF rfl rfl 2 hS rfl rfl ag_52 ?_
      refine WL.r 1 rfl ?_
      refine WL.call rfl rfl (tw_node (a := a) (A := A2) (R := y2 :: r :: R) (l := x1) (r := x2) (k := fk) (z := fz) (tl := ts) (tr := tx) (hA := f2.ref.r3) (hl := hs2) (hr := f2.il) (hf := (by omega)) (hz := (by simp only [List.length_cons]; omega)) (hS := (hS.sel 2 [1, 0] rfl))) rfl ?_
      clear hS; rintro _ w ⟨A3, i1, rfl, hS, f3⟩
      replace hS : St g (Arn a A3 :: cel b3 #[.int .i64 gk, .int .i64 gz] 52 :: cel b2 #[.int .i64 fk, .int .i64 fz] 52 :: cel b1 #[.int .i64 k, .int .i64 z] 52 :: L) w := hS
      refine WL.r 1 rfl ?_
      refine WL.nil ?_
      as_aux_lemma =>
        refine WC.seq ?_
        refine WC.plan [([0, 1, 2, 3, 4, 5, 6], some (7, [0, 1, 2])), ([], some (8, [])), ([9], none)] (by kernel_rfl) (by kernel_rfl) ?_
        have hr3 := f3.rng; have hfr3 := f3.fr
        refine WQ.r 2 rfl ?_
        refine WQ.ldF rfl rfl 1 hS rfl rfl ag_52 ?_
        refine WQ.r 2 rfl ?_
        refine WQ.ldF rfl rfl 3 hS rfl rfl ag_52 ?_
        refine WQ.r 1 rfl ?_
        refine WQ.nil ?_
        intro m1
        replace hS := hS.drewN m1; generalize hwm1 : World.drewN _ _ = w at *; clear hwm1
        refine WL.call rfl rfl (tw_node (a := a) (A := A3) (R := i1 :: R) (l := y2) (r := r) (k := k) (z := z) (tl := ty) (tr := tr) (hA := f3.ref.r3.r3) (hl := (f3.kp y2 (by simp) ty f2.ir)) (hr := (f3.kp r (by simp) tr hl2)) (hf := (by omega)) (hz := (by simp only [List.length_cons]; omega)) (hS := hS)) rfl ?_
        clear hS; rintro _ w ⟨A4, i2, rfl, hS, f4⟩
        replace hS : St g (Arn a A4 :: cel b3 #[.int .i64 gk, .int .i64 gz] 52 :: cel b2 #[.int .i64 fk, .int .i64 fz] 52 :: cel b1 #[.int .i64 k, .int .i64 z] 52 :: L) w := hS
        refine WL.nil ?_
        refine ⟨by exact ⟨RQ.pure rfl rfl rfl rfl, RQ.pure rfl rfl rfl rfl, RQ.ldF rfl rfl 1 hS rfl rfl ag_52 rfl rfl⟩, ?_⟩
        refine WQ.nil ?_
        intro m2
        replace hS := hS.drewN m2; generalize hwm2 : World.drewN _ _ = w at *; clear hwm2
        refine WL.call rfl rfl (tw_node (a := a) (A := A4) (R := R) (l := i1) (r := i2) (k := gk) (z := gz) (tl := .node ts fk fz tx) (tr := .node ty k z tr) (hA := f4.ref.sw) (hl := (f4.kp i1 (by simp) _ f3.is)) (hr := f4.is) (hf := (by have := f4.fr; omega)) (hz := (by simp only [Tr.n]; omega)) (hS := hS)) rfl ?_
        clear hS; rintro _ w ⟨A5, i3, rfl, hS, f5⟩
        replace hS : St g (Arn a A5 :: cel b3 #[.int .i64 gk, .int .i64 gz] 52 :: cel b2 #[.int .i64 fk, .int .i64 fz] 52 :: cel b1 #[.int .i64 k, .int .i64 z] 52 :: L) w := hS
        refine WL.nil ?_
        refine ⟨by exact trivial, ?_⟩
        refine WQ.r 1 rfl ?_
        refine WQ.nil ?_
        intro m3
        replace hS := hS.drewN m3; generalize hwm3 : World.drewN _ _ = w at *; clear hwm3
        as_aux_lemma =>
          refine WC.ret ?_
          refine ⟨[.int .u32 i3], rfl, ?_⟩
          replace hS := (hS.sel 4 [0] rfl)
          exact ⟨_, _, rfl, hS, by rw [Tr.litR, if_neg hcn, htm]; exact f5.after ((f1.ch.trans f2.ch sb1 sb2).trans (f3.ch.trans f4.ch sb2 sb1) sb0 sb0) sb0 (by omega)⟩
set_option maxHeartbeats 1000000 in
set_option maxRecDepth 8192 in
theorem tw_bal {g w : World} {L : List HP} (a : Nat) (A : AM) (R : List Int) (l r k z : Int) (tl tr : Tr) (hA : ARf A (l :: r :: R)) (hl : Is A tl l) (hr : Is A tr r) (hf : 3 ≤ A.s.free) (hz : R.length + tl.n + tr.n ≤ 800000000) (hS : St g (Arn a A :: L) w) :
    Sp Tryz.prog 272 [.pointer (some ⟨a, 0, none⟩), .int .u32 l, .agg #[.int .i64 k, .int .i64 z], .int .u32 r] w (fun v w' => ∃ (A2 : AM) (i : Int), v = .int .u32 i ∧ St g (Arn a A2 :: L) w' ∧ (TOp A A2 R i (Tr.bal tl k z tr) 3)) := by
  refine Sp.enter Tryz.func272 rfl (by kernel_rfl) (by kernel_rfl) ?_
  have _ := hz
  refine WC.seq ?_
  refine WC.region ?_
  refine WL.box rfl rfl #[.int .i64 k, .int .i64 z] hS rfl rfl (fun b1 w hS => ?_)
  refine WL.r 1 rfl ?_
  refine WL.nil ?_
  refine WC.seq ?_
  refine WC.region ?_
  refine WL.r 2 rfl ?_
  refine WL.call rfl rfl (tr_size (a := a) (A := A) (R := l :: r :: R) (i := l) (t := tl) (hA := hA) (hi := hl) (hS := (hS.sel 2 [1, 0] rfl))) rfl ?_
  clear hS; rintro _ w ⟨rfl, hS⟩
  replace hS : St g (Arn a A :: cel b1 #[.int .i64 k, .int .i64 z] 52 :: L) w := hS
  refine WL.r 2 rfl ?_
  refine WL.call rfl rfl (tr_size (a := a) (A := A) (R := l :: r :: R) (i := r) (t := tr) (hA := hA) (hi := hr) (hS := hS)) rfl ?_
  clear hS; rintro _ w ⟨rfl, hS⟩
  replace hS : St g (Arn a A :: cel b1 #[.int .i64 k, .int .i64 z] 52 :: L) w := hS
  refine WL.r 2 rfl ?_
  refine WL.nil ?_
  refine WC.seq ?_
  refine WC.block ?_
  refine WC.seq ?_
  refine WC.region ?_
  refine WL.r 2 rfl ?_
  refine WL.call rfl rfl (bal_spec (x := (tl.n : Int)) (y := (tr.n : Int)) (hx := (by omega)) (hy := (by omega)) (hS := hS)) rfl ?_
  clear hS; rintro _ w ⟨rfl, hS⟩
  replace hS : St g (Arn a A :: cel b1 #[.int .i64 k, .int .i64 z] 52 :: L) w := hS
  refine WL.r 1 rfl ?_
  refine WL.nil ?_
  as_aux_lemma =>
    refine WC.ifP rfl (fun hb => ?_) (fun hb => ?_)
    · refine WC.seq ?_
      refine WC.region ?_
      refine WL.r 2 rfl ?_
      refine WL.ldF rfl rfl 1 hS rfl rfl ag_52 ?_
      refine WL.r 1 rfl ?_
      refine WL.call rfl rfl (tw_node (a := a) (A := A) (R := R) (l := l) (r := r) (k := k) (z := z) (tl := tl) (tr := tr) (hA := hA) (hl := hl) (hr := hr) (hf := (by omega)) (hz := (by omega)) (hS := hS)) rfl ?_
      clear hS; rintro _ w ⟨A1, i1, rfl, hS, f1⟩
      replace hS : St g (Arn a A1 :: cel b1 #[.int .i64 k, .int .i64 z] 52 :: L) w := hS
      refine WL.r 1 rfl ?_
      refine WL.nil ?_
      refine WC.ret ?_
      refine ⟨[.int .u32 i1], rfl, ?_⟩
      replace hS := (hS.sel 2 [0] rfl)
      exact ⟨_, _, rfl, hS, by unfold Tr.bal; rw [if_pos (show Bal tl.n tr.n by unfold Bal; omega)]; exact f1.weak (by omega)⟩
    · refine WC.seq ?_
      refine WC.region ?_
      refine WL.r 4 rfl ?_
      refine WL.nil ?_
      refine WC.ifP rfl (fun hlt => ?_) (fun hlt => ?_)
      · refine WC.seq ?_
        refine WC.region ?_
        have hbn : ¬ Bal tl.n tr.n := (by unfold Bal; omega); obtain ⟨tm, fk, fz, ts, htr⟩ := not_nil (t := tr) (by omega); have htn : tr.n = tm.n + ts.n + 1 := (by rw [htr]; rfl); have hr2 : Is A (.node tm fk fz ts) r := htr ▸ hr
        refine WL.r 3 rfl ?_
        refine WL.ldF rfl rfl 1 hS rfl rfl ag_52 ?_
        refine WL.r 1 rfl ?_
        refine WL.call rfl rfl (tw_litL (a := a) (A := A) (R := R) (l := l) (r := r) (k := k) (z := z) (tl := tl) (tm := tm) (ts := ts) (fk := fk) (fz := fz) (hA := hA) (hl := hl) (hr := hr2) (hf := hf) (hz := (by omega)) (hS := hS)) rfl ?_
        clear hS; rintro _ w ⟨A1, i1, rfl, hS, f1⟩
        replace hS : St g (Arn a A1 :: cel b1 #[.int .i64 k, .int .i64 z] 52 :: L) w := hS
        refine WL.r 1 rfl ?_
        refine WL.nil ?_
        refine WC.ret ?_
        refine ⟨[.int .u32 i1], rfl, ?_⟩
        replace hS := (hS.sel 2 [0] rfl)
        exact ⟨_, _, rfl, hS, by unfold Tr.bal; rw [if_neg hbn, if_pos (show tl.n < tr.n by omega), htr]; exact f1⟩
      · refine WC.skip ?_
        refine WC.seq ?_
        refine WC.region ?_
        have hbn : ¬ Bal tl.n tr.n := (by unfold Bal; omega); obtain ⟨ts, fk, fz, tm, htr⟩ := not_nil (t := tl) (by omega); have htn : tl.n = ts.n + tm.n + 1 := (by rw [htr]; rfl); have hl2 : Is A (.node ts fk fz tm) l := htr ▸ hl
        refine WL.r 3 rfl ?_
        refine WL.ldF rfl rfl 1 hS rfl rfl ag_52 ?_
        refine WL.r 1 rfl ?_
        refine WL.call rfl rfl (tw_litR (a := a) (A := A) (R := R) (l := l) (r := r) (k := k) (z := z) (tr := tr) (tm := tm) (ts := ts) (fk := fk) (fz := fz) (hA := hA) (hl := hl2) (hr := hr) (hf := hf) (hz := (by omega)) (hS := hS)) rfl ?_
        clear hS; rintro _ w ⟨A1, i1, rfl, hS, f1⟩
        replace hS : St g (Arn a A1 :: cel b1 #[.int .i64 k, .int .i64 z] 52 :: L) w := hS
        refine WL.r 1 rfl ?_
        refine WL.nil ?_
        refine WC.ret ?_
        refine ⟨[.int .u32 i1], rfl, ?_⟩
        replace hS := (hS.sel 2 [0] rfl)
        exact ⟨_, _, rfl, hS, by unfold Tr.bal; rw [if_neg hbn, if_neg (show ¬ tl.n < tr.n by omega), htr]; exact f1⟩
end Go.Proofs.YtloebjlnmdjeiaaGreatDoor
/-! ## W3 -/
namespace Go.Proofs.YtloebjlnmdjeiaaGreatDoor
open Go Go.V
theorem join_bal {l r : Tr} {k v : Int} (h : Bal l.n r.n) : Tr.join l k v r = .node l k v r := by
  cases l with
  | nil =>
    cases r with
    | nil => rw [Tr.join]
    | node m a b s => rw [Tr.join, if_pos (by simpa [Tr.n] using h)]
  | node s a b m =>
    cases r with
    | nil => rw [Tr.join, if_pos (by simpa [Tr.n] using h)]
    | node m' a' b' s' => rw [Tr.join, if_pos (by simpa [Tr.n] using h)]
theorem join_gt {s m r : Tr} {fk fv k v : Int} (h : ¬ Bal (Tr.node s fk fv m).n r.n) (hg : r.n < (Tr.node s fk fv m).n) : Tr.join (.node s fk fv m) k v r = Tr.bal s fk fv (Tr.join m k v r) ∧ Tr.jc (.node s fk fv m) r = Tr.jc m r + 3 := by
  cases r with
  | nil => rw [Tr.join, if_neg (by simpa [Tr.n] using h), Tr.jc, if_neg (by simpa [Tr.n] using h)]; exact ⟨rfl, rfl⟩
  | node m' a' b' s' =>
    have h2 : m'.n + s'.n < s.n + m.n := by simp only [Tr.n] at hg; omega
    rw [Tr.join, if_neg (by simpa [Tr.n] using h), if_pos h2, Tr.jc, if_neg (by simpa [Tr.n] using h), if_pos h2]; exact ⟨rfl, rfl⟩
theorem join_lt {l m s : Tr} {fk fv k v : Int} (h : ¬ Bal l.n (Tr.node m fk fv s).n) (hg : ¬ (Tr.node m fk fv s).n < l.n) : Tr.join l k v (.node m fk fv s) = Tr.bal (Tr.join l k v m) fk fv s ∧ Tr.jc l (.node m fk fv s) = Tr.jc l m + 3 := by
  cases l with
  | nil => rw [Tr.join, if_neg (by simpa [Tr.n] using h), Tr.jc, if_neg (by simpa [Tr.n] using h)]; exact ⟨rfl, rfl⟩
  | node s' a' b' m' =>
    have h2 : ¬ m.n + s.n < s'.n + m'.n := by simp only [Tr.n] at hg; omega
    rw [Tr.join, if_neg (by simpa [Tr.n] using h), if_neg h2, Tr.jc, if_neg (by simpa [Tr.n] using h), if_neg h2]; exact ⟨rfl, rfl⟩
theorem jc_pos (l r : Tr) : 1 ≤ Tr.jc l r := by
  cases l <;> cases r <;> rw [Tr.jc] <;> (repeat' split) <;> omega
set_option maxHeartbeats 1000000 in
set_option maxRecDepth 8192 in
theorem tw_join_step (nM : Nat) (ih : ∀ mM : Nat, mM < nM → ∀ (g w : World) (L : List HP) (a : Nat) (A : AM) (R : List Int) (l r k z : Int) (tl tr : Tr), (ARf A (l :: r :: R)) → (Is A tl l) → (Is A tr r) → ((Tr.jc tl tr : Int) ≤ A.s.free) → (R.length + tl.n + tr.n ≤ 700000000) → tl.n + tr.n = mM → St g (Arn a A :: L) w → Sp Tryz.prog 201 [.pointer (some ⟨a, 0, none⟩), .int .u32 l, .agg #[.int .i64 k, .int .i64 z], .int .u32 r] w (fun v w' => ∃ (A2 : AM) (i : Int), v = .int .u32 i ∧ St g (Arn a A2 :: L) w' ∧ (TOp A A2 R i (Tr.join tl k z tr) (Tr.jc tl tr)))) {g w : World} {L : List HP} (a : Nat) (A : AM) (R : List Int) (l r k z : Int) (tl tr : Tr) (hA : ARf A (l :: r :: R)) (hl : Is A tl l) (hr : Is A tr r) (hf : (Tr.jc tl tr : Int) ≤ A.s.free) (hz : R.length + tl.n + tr.n ≤ 700000000) (hM : tl.n + tr.n = nM) (hS : St g (Arn a A :: L) w) :
    Sp Tryz.prog 201 [.pointer (some ⟨a, 0, none⟩), .int .u32 l, .agg #[.int .i64 k, .int .i64 z], .int .u32 r] w (fun v w' => ∃ (A2 : AM) (i : Int), v = .int .u32 i ∧ St g (Arn a A2 :: L) w' ∧ (TOp A A2 R i (Tr.join tl k z tr) (Tr.jc tl tr))) := by
  refine Sp.enter Tryz.func201 rfl (by kernel_rfl) (by kernel_rfl) ?_
  have _ := hz
  have _ := hf
  refine WC.seq ?_
  refine WC.region ?_
  refine WL.box rfl rfl #[.int .i64 k, .int .i64 z] hS rfl rfl (fun b1 w hS => ?_)
  refine WL.r 1 rfl ?_
  refine WL.nil ?_
  refine WC.seq ?_
  refine WC.region ?_
  have hjp := jc_pos tl tr
  refine WL.r 2 rfl ?_
  refine WL.call rfl rfl (tr_size (a := a) (A := A) (R := l :: r :: R) (i := l) (t := tl) (hA := hA) (hi := hl) (hS := (hS.sel 2 [1, 0] rfl))) rfl ?_
  clear hS; rintro _ w ⟨rfl, hS⟩
  replace hS : St g (Arn a A :: cel b1 #[.int .i64 k, .int .i64 z] 52 :: L) w := hS
  refine WL.r 2 rfl ?_
  refine WL.call rfl rfl (tr_size (a := a) (A := A) (R := l :: r :: R) (i := r) (t := tr) (hA := hA) (hi := hr) (hS := hS)) rfl ?_
  clear hS; rintro _ w ⟨rfl, hS⟩
  replace hS : St g (Arn a A :: cel b1 #[.int .i64 k, .int .i64 z] 52 :: L) w := hS
  refine WL.r 2 rfl ?_
  refine WL.nil ?_
  refine WC.seq ?_
  refine WC.block ?_
  refine WC.seq ?_
  refine WC.region ?_
  refine WL.r 2 rfl ?_
  refine WL.call rfl rfl (bal_spec (x := (tl.n : Int)) (y := (tr.n : Int)) (hx := (by omega)) (hy := (by omega)) (hS := hS)) rfl ?_
  clear hS; rintro _ w ⟨rfl, hS⟩
  replace hS : St g (Arn a A :: cel b1 #[.int .i64 k, .int .i64 z] 52 :: L) w := hS
  refine WL.r 1 rfl ?_
  refine WL.nil ?_
  as_aux_lemma =>
    refine WC.ifP rfl (fun hb => ?_) (fun hb => ?_)
    · refine WC.seq ?_
      refine WC.region ?_
      refine WL.r 2 rfl ?_
      refine WL.ldF rfl rfl 1 hS rfl rfl ag_52 ?_
      refine WL.r 1 rfl ?_
      refine WL.call rfl rfl (tw_node (a := a) (A := A) (R := R) (l := l) (r := r) (k := k) (z := z) (tl := tl) (tr := tr) (hA := hA) (hl := hl) (hr := hr) (hf := (by omega)) (hz := (by omega)) (hS := hS)) rfl ?_
      clear hS; rintro _ w ⟨A1, i1, rfl, hS, f1⟩
      replace hS : St g (Arn a A1 :: cel b1 #[.int .i64 k, .int .i64 z] 52 :: L) w := hS
      refine WL.r 1 rfl ?_
      refine WL.nil ?_
      refine WC.ret ?_
      refine ⟨[.int .u32 i1], rfl, ?_⟩
      replace hS := (hS.sel 2 [0] rfl)
      exact ⟨_, _, rfl, hS, by have h9 : Bal tl.n tr.n := (by unfold Bal; omega); rw [join_bal h9, Tr.jc_bal h9]; exact f1⟩
    · refine WC.seq ?_
      refine WC.region ?_
      refine WL.r 4 rfl ?_
      refine WL.nil ?_
      refine WC.ifP rfl (fun hlt => ?_) (fun hlt => ?_)
      · refine WC.seq ?_
        refine WC.region ?_
        have hbn : ¬ Bal tl.n tr.n := (by unfold Bal; omega); obtain ⟨ts, fk, fz, tm, htl⟩ := not_nil (t := tl) (by omega); have htn : tl.n = ts.n + tm.n + 1 := (by rw [htl]; rfl); have hl2 : Is A (.node ts fk fz tm) l := htl ▸ hl; have hj := join_gt (k := k) (v := z) (r := tr) (by rw [← htl]; exact hbn) (by rw [← htl]; omega); rw [← htl] at hj
        refine WL.r 2 rfl ?_
        refine WL.call rfl rfl (tw_open (a := a) (A := A) (R := r :: R) (i := l) (k := fk) (z := fz) (l := ts) (r := tm) (hA := hA) (hi := hl2) (hz := (by simp only [List.length_cons]; omega)) (hS := hS)) rfl ?_
        clear hS; rintro _ w ⟨A1, x1, y1, rfl, hS, f1⟩
        replace hS : St g (Arn a A1 :: cel b1 #[.int .i64 k, .int .i64 z] 52 :: L) w := hS
        refine WL.r 4 rfl ?_
        refine WL.new rfl rfl zv_52 hS (fun b2 w hS => ?_)
        refine WL.r 1 rfl ?_
        refine WL.stF rfl rfl rfl 0 hS rfl rfl rfl rfl rfl ag_52 (fun w hS => ?_)
        replace hS : St g (cel b2 #[.int .i64 fk, .int .i64 fz] 52 :: Arn a A1 :: cel b1 #[.int .i64 k, .int .i64 z] 52 :: L) w := hS
        refine WL.r 1 rfl ?_
        refine WL.nil ?_
        refine WC.seq ?_
        refine WC.plan [([0, 1, 2, 3, 4, 5, 6], some (7, [0, 1, 2])), ([], some (8, [])), ([9], none)] (by kernel_rfl) (by kernel_rfl) ?_
        have hr1 := f1.rng; have hr2 := f1.kp r (by simp) tr hr; have hfr1 := f1.fr
        refine WQ.r 2 rfl ?_
        refine WQ.ldF rfl rfl 0 hS rfl rfl ag_52 ?_
        refine WQ.r 2 rfl ?_
        refine WQ.ldF rfl rfl 2 hS rfl rfl ag_52 ?_
        refine WQ.r 1 rfl ?_
        refine WQ.nil ?_
        intro m1
        replace hS := hS.drewN m1; generalize hwm1 : World.drewN _ _ = w at *; clear hwm1
        refine WL.call rfl rfl (ih (tm.n + tr.n) (by omega) _ _ _ a A1 (x1 :: R) y1 r k z tm tr (f1.ref.r3.r3) (f1.ir) (hr2) ((by omega)) ((by simp only [List.length_cons]; omega)) rfl (hS.sel 2 [1, 0] rfl)) rfl ?_
        clear hS; rintro _ w ⟨A2, i1, rfl, hS, f2⟩
        replace hS : St g (Arn a A2 :: cel b2 #[.int .i64 fk, .int .i64 fz] 52 :: cel b1 #[.int .i64 k, .int .i64 z] 52 :: L) w := hS
        refine WL.nil ?_
        refine ⟨by exact ⟨RQ.pure rfl rfl rfl rfl, RQ.pure rfl rfl rfl rfl, RQ.ldF rfl rfl 1 hS rfl rfl ag_52 rfl rfl⟩, ?_⟩
        refine WQ.nil ?_
        intro m2
        replace hS := hS.drewN m2; generalize hwm2 : World.drewN _ _ = w at *; clear hwm2
        refine WL.call rfl rfl (tw_bal (a := a) (A := A2) (R := R) (l := x1) (r := i1) (k := fk) (z := fz) (tl := ts) (tr := Tr.join tm k z tr) (hA := f2.ref.sw) (hl := (f2.kp x1 (by simp) ts f1.il)) (hr := f2.is) (hf := (by have := f2.fr; omega)) (hz := (by rw [(Tr.join_n _ _ _ _).1]; omega)) (hS := hS)) rfl ?_
        clear hS; rintro _ w ⟨A3, i2, rfl, hS, f3⟩
        replace hS : St g (Arn a A3 :: cel b2 #[.int .i64 fk, .int .i64 fz] 52 :: cel b1 #[.int .i64 k, .int .i64 z] 52 :: L) w := hS
        refine WL.nil ?_
        refine ⟨by exact trivial, ?_⟩
        refine WQ.r 1 rfl ?_
        refine WQ.nil ?_
        intro m3
        replace hS := hS.drewN m3; generalize hwm3 : World.drewN _ _ = w at *; clear hwm3
        as_aux_lemma =>
          refine WC.ret ?_
          refine ⟨[.int .u32 i2], rfl, ?_⟩
          replace hS := (hS.sel 3 [0] rfl)
          exact ⟨_, _, rfl, hS, by rw [hj.1, hj.2]; exact f3.after (f1.ch.trans f2.ch sb1 sb1) sb0 (by omega)⟩
      · refine WC.skip ?_
        refine WC.seq ?_
        refine WC.region ?_
        have hbn : ¬ Bal tl.n tr.n := (by unfold Bal; omega); obtain ⟨tm, fk, fz, ts, htr⟩ := not_nil (t := tr) (by omega); have htn : tr.n = tm.n + ts.n + 1 := (by rw [htr]; rfl); have hr2 : Is A (.node tm fk fz ts) r := htr ▸ hr; have hj := join_lt (k := k) (v := z) (l := tl) (by rw [← htr]; exact hbn) (by rw [← htr]; omega); rw [← htr] at hj
        refine WL.r 2 rfl ?_
        refine WL.call rfl rfl (tw_open (a := a) (A := A) (R := l :: R) (i := r) (k := fk) (z := fz) (l := tm) (r := ts) (hA := hA.sw) (hi := hr2) (hz := (by simp only [List.length_cons]; omega)) (hS := hS)) rfl ?_
        clear hS; rintro _ w ⟨A1, x1, y1, rfl, hS, f1⟩
        replace hS : St g (Arn a A1 :: cel b1 #[.int .i64 k, .int .i64 z] 52 :: L) w := hS
        refine WL.r 4 rfl ?_
        refine WL.new rfl rfl zv_52 hS (fun b2 w hS => ?_)
        refine WL.r 1 rfl ?_
        refine WL.stF rfl rfl rfl 0 hS rfl rfl rfl rfl rfl ag_52 (fun w hS => ?_)
        replace hS : St g (cel b2 #[.int .i64 fk, .int .i64 fz] 52 :: Arn a A1 :: cel b1 #[.int .i64 k, .int .i64 z] 52 :: L) w := hS
        refine WL.r 1 rfl ?_
        refine WL.nil ?_
        refine WC.seq ?_
        refine WC.plan [([0, 1, 2, 3, 4, 6, 7], some (5, [0, 6, 7])), ([], some (8, [])), ([9], none)] (by kernel_rfl) (by kernel_rfl) ?_
        have hr1 := f1.rng; have hl2 := f1.kp l (by simp) tl hl; have hfr1 := f1.fr
        refine WQ.r 3 rfl ?_
        refine WQ.ldF rfl rfl 2 hS rfl rfl ag_52 ?_
        refine WQ.r 1 rfl ?_
        refine WQ.ldF rfl rfl 0 hS rfl rfl ag_52 ?_
        refine WQ.r 1 rfl ?_
        refine WQ.nil ?_
        intro m1
        replace hS := hS.drewN m1; generalize hwm1 : World.drewN _ _ = w at *; clear hwm1
        refine WL.call rfl rfl (ih (tl.n + tm.n) (by omega) _ _ _ a A1 (y1 :: R) l x1 k z tl tm (f1.ref.r3) (hl2) (f1.il) ((by omega)) ((by simp only [List.length_cons]; omega)) rfl (hS.sel 2 [1, 0] rfl)) rfl ?_
        clear hS; rintro _ w ⟨A2, i1, rfl, hS, f2⟩
        replace hS : St g (Arn a A2 :: cel b2 #[.int .i64 fk, .int .i64 fz] 52 :: cel b1 #[.int .i64 k, .int .i64 z] 52 :: L) w := hS
        refine WL.nil ?_
        refine ⟨by exact ⟨RQ.pure rfl rfl rfl rfl, RQ.ldF rfl rfl 1 hS rfl rfl ag_52 rfl rfl, RQ.pure rfl rfl rfl rfl⟩, ?_⟩
        refine WQ.nil ?_
        intro m2
        replace hS := hS.drewN m2; generalize hwm2 : World.drewN _ _ = w at *; clear hwm2
        refine WL.call rfl rfl (tw_bal (a := a) (A := A2) (R := R) (l := i1) (r := y1) (k := fk) (z := fz) (tl := Tr.join tl k z tm) (tr := ts) (hA := f2.ref) (hl := f2.is) (hr := (f2.kp y1 (by simp) ts f1.ir)) (hf := (by have := f2.fr; omega)) (hz := (by rw [(Tr.join_n _ _ _ _).1]; omega)) (hS := hS)) rfl ?_
        clear hS; rintro _ w ⟨A3, i2, rfl, hS, f3⟩
        replace hS : St g (Arn a A3 :: cel b2 #[.int .i64 fk, .int .i64 fz] 52 :: cel b1 #[.int .i64 k, .int .i64 z] 52 :: L) w := hS
        refine WL.nil ?_
        refine ⟨by exact trivial, ?_⟩
        refine WQ.r 1 rfl ?_
        refine WQ.nil ?_
        intro m3
        replace hS := hS.drewN m3; generalize hwm3 : World.drewN _ _ = w at *; clear hwm3
        as_aux_lemma =>
          refine WC.ret ?_
          refine ⟨[.int .u32 i2], rfl, ?_⟩
          replace hS := (hS.sel 3 [0] rfl)
          exact ⟨_, _, rfl, hS, by rw [hj.1, hj.2]; exact f3.after (f1.ch.trans f2.ch sb1 sb1) sb0 (by omega)⟩
theorem tw_join_all (nM : Nat) : ∀ (g w : World) (L : List HP) (a : Nat) (A : AM) (R : List Int) (l r k z : Int) (tl tr : Tr), (ARf A (l :: r :: R)) → (Is A tl l) → (Is A tr r) → ((Tr.jc tl tr : Int) ≤ A.s.free) → (R.length + tl.n + tr.n ≤ 700000000) → tl.n + tr.n = nM → St g (Arn a A :: L) w → Sp Tryz.prog 201 [.pointer (some ⟨a, 0, none⟩), .int .u32 l, .agg #[.int .i64 k, .int .i64 z], .int .u32 r] w (fun v w' => ∃ (A2 : AM) (i : Int), v = .int .u32 i ∧ St g (Arn a A2 :: L) w' ∧ (TOp A A2 R i (Tr.join tl k z tr) (Tr.jc tl tr))) := by
  induction nM using Nat.strongRecOn with
  | _ nM ih => intro g w L a A R l r k z tl tr hA hl hr hf hz hM hS; exact tw_join_step nM ih a A R l r k z tl tr hA hl hr hf hz hM hS
theorem tw_join {g w : World} {L : List HP} (a : Nat) (A : AM) (R : List Int) (l r k z : Int) (tl tr : Tr) (hA : ARf A (l :: r :: R)) (hl : Is A tl l) (hr : Is A tr r) (hf : (Tr.jc tl tr : Int) ≤ A.s.free) (hz : R.length + tl.n + tr.n ≤ 700000000) (hS : St g (Arn a A :: L) w) :
    Sp Tryz.prog 201 [.pointer (some ⟨a, 0, none⟩), .int .u32 l, .agg #[.int .i64 k, .int .i64 z], .int .u32 r] w (fun v w' => ∃ (A2 : AM) (i : Int), v = .int .u32 i ∧ St g (Arn a A2 :: L) w' ∧ (TOp A A2 R i (Tr.join tl k z tr) (Tr.jc tl tr))) := tw_join_all _ g w L a A R l r k z tl tr hA hl hr hf hz rfl hS
end Go.Proofs.YtloebjlnmdjeiaaGreatDoor
/-! ## W4 -/
namespace Go.Proofs.YtloebjlnmdjeiaaGreatDoor
open Go Go.V
theorem nil_or {t : Tr} (h : t ≠ .nil) : ∃ l k v r, t = .node l k v r := by
  cases t with
  | nil => exact absurd rfl h
  | node l k v r => exact ⟨l, k, v, r, rfl⟩
set_option maxHeartbeats 1000000 in
set_option maxRecDepth 8192 in
theorem tw_ins_step (nM : Nat) (ih : ∀ mM : Nat, mM < nM → ∀ (g w : World) (L : List HP) (a : Nat) (A : AM) (R : List Int) (i k z : Int) (t : Tr), (ARf A (i :: R)) → (Is A t i) → ((Tr.ic k z t : Int) ≤ A.s.free) → (R.length + t.n ≤ 600000000) → t.n = mM → St g (Arn a A :: L) w → Sp Tryz.prog 127 [.pointer (some ⟨a, 0, none⟩), .int .u32 i, .agg #[.int .i64 k, .int .i64 z]] w (fun v w' => ∃ (A2 : AM) (j : Int), v = .int .u32 j ∧ St g (Arn a A2 :: L) w' ∧ (TOp A A2 R j (Tr.ins k z t) (Tr.ic k z t)))) {g w : World} {L : List HP} (a : Nat) (A : AM) (R : List Int) (i k z : Int) (t : Tr) (hA : ARf A (i :: R)) (hi : Is A t i) (hf : (Tr.ic k z t : Int) ≤ A.s.free) (hz : R.length + t.n ≤ 600000000) (hM : t.n = nM) (hS : St g (Arn a A :: L) w) :
    Sp Tryz.prog 127 [.pointer (some ⟨a, 0, none⟩), .int .u32 i, .agg #[.int .i64 k, .int .i64 z]] w (fun v w' => ∃ (A2 : AM) (j : Int), v = .int .u32 j ∧ St g (Arn a A2 :: L) w' ∧ (TOp A A2 R j (Tr.ins k z t) (Tr.ic k z t))) := by
  refine Sp.enter Tryz.func127 rfl (by kernel_rfl) (by kernel_rfl) ?_
  have _ := hz
  have _ := hf
  refine WC.seq ?_
  refine WC.region ?_
  refine WL.box rfl rfl #[.int .i64 k, .int .i64 z] hS rfl rfl (fun b1 w hS => ?_)
  refine WL.r 1 rfl ?_
  refine WL.nil ?_
  refine WC.seq ?_
  refine WC.seq ?_
  refine WC.region ?_
  have hx0 := Is.nil_iff hi
  refine WL.r 2 rfl ?_
  refine WL.nil ?_
  refine WC.ifP rfl (fun hx => ?_) (fun hx => ?_)
  · refine WC.seq ?_
    refine WC.region ?_
    have h9 := hx0.1 hx; subst h9; have hA0 : ARf A (0 :: 0 :: R) := (by rw [hx] at hA; exact hA.cons0 (by simp; omega)); have hf1 : Tr.ic k z .nil = 1 := rfl
    refine WL.r 1 rfl ?_
    refine WL.ldF rfl rfl 0 hS rfl rfl ag_52 ?_
    refine WL.call rfl rfl (tw_node (a := a) (A := A) (R := R) (l := 0) (r := 0) (k := k) (z := z) (tl := .nil) (tr := .nil) (hA := hA0) (hl := rfl) (hr := rfl) (hf := (by omega)) (hz := (by simp only [Tr.n]; omega)) (hS := (hS.sel 2 [1, 0] rfl))) rfl ?_
    clear hS; rintro _ w ⟨A1, i1, rfl, hS, f1⟩
    replace hS : St g (Arn a A1 :: cel b1 #[.int .i64 k, .int .i64 z] 52 :: L) w := hS
    refine WL.r 1 rfl ?_
    refine WL.nil ?_
    refine WC.ret ?_
    refine ⟨[.int .u32 i1], rfl, ?_⟩
    replace hS := (hS.sel 2 [0] rfl)
    exact ⟨_, _, rfl, hS, f1⟩
  · refine WC.skip ?_
    refine WC.seq ?_
    refine WC.region ?_
    obtain ⟨tl, fk, fz, tr, ht⟩ := nil_or (t := t) (fun e => hx (hx0.2 e)); have htn : t.n = tl.n + tr.n + 1 := (by rw [ht]; rfl); have hi2 : Is A (.node tl fk fz tr) i := ht ▸ hi
    refine WL.r 2 rfl ?_
    refine WL.call rfl rfl (tw_open (a := a) (A := A) (R := R) (i := i) (k := fk) (z := fz) (l := tl) (r := tr) (hA := hA) (hi := hi2) (hz := (by omega)) (hS := (hS.sel 2 [1, 0] rfl))) rfl ?_
    clear hS; rintro _ w ⟨A1, x1, y1, rfl, hS, f1⟩
    replace hS : St g (Arn a A1 :: cel b1 #[.int .i64 k, .int .i64 z] 52 :: L) w := hS
    refine WL.r 4 rfl ?_
    refine WL.new rfl rfl zv_52 hS (fun b2 w hS => ?_)
    refine WL.r 1 rfl ?_
    refine WL.stF rfl rfl rfl 0 hS rfl rfl rfl rfl rfl ag_52 (fun w hS => ?_)
    replace hS : St g (cel b2 #[.int .i64 fk, .int .i64 fz] 52 :: Arn a A1 :: cel b1 #[.int .i64 k, .int .i64 z] 52 :: L) w := hS
    refine WL.r 1 rfl ?_
    refine WL.nil ?_
    as_aux_lemma =>
      refine WC.seq ?_
      refine WC.block ?_
      refine WC.seq ?_
      refine WC.region ?_
      have hr1 := f1.rng; have hfr1 := f1.fr
      refine WL.run 6 [.int .i64 k, .int .i64 fk] rfl (by exact ⟨hS.ld 2 rfl rfl, hS.ld 0 rfl rfl⟩) ?_
      refine WL.nil ?_
      refine WC.ifP rfl (fun hlt => ?_) (fun hlt => ?_)
      · refine WC.seq ?_
        refine WC.plan [([0, 1, 2, 3, 5, 6], some (4, [0, 5, 6])), ([], some (7, [])), ([8], none)] (by kernel_rfl) (by kernel_rfl) ?_
        have hie : Tr.ic k z t = Tr.ic k z tl + Tr.jc (Tr.ins k z tl) tr := (by rw [ht, Tr.ic, if_pos hlt]); have hne : Tr.ins k z t = Tr.join (Tr.ins k z tl) fk fz tr := (by rw [ht, Tr.ins, if_pos hlt]); have hin := Tr.ins_n k z tl
        refine WQ.r 3 rfl ?_
        refine WQ.ldF rfl rfl 2 hS rfl rfl ag_52 ?_
        refine WQ.ldF rfl rfl 0 hS rfl rfl ag_52 ?_
        refine WQ.r 1 rfl ?_
        refine WQ.nil ?_
        intro m1
        replace hS := hS.drewN m1; generalize hwm1 : World.drewN _ _ = w at *; clear hwm1
        refine WL.call rfl rfl (ih (tl.n) (by omega) _ _ _ a A1 (y1 :: R) x1 k z tl (f1.ref) (f1.il) ((by omega)) ((by simp only [List.length_cons]; omega)) rfl (hS.sel 2 [1, 0] rfl)) rfl ?_
        clear hS; rintro _ w ⟨A2, j1, rfl, hS, f2⟩
        replace hS : St g (Arn a A2 :: cel b2 #[.int .i64 fk, .int .i64 fz] 52 :: cel b1 #[.int .i64 k, .int .i64 z] 52 :: L) w := hS
        refine WL.nil ?_
        refine ⟨by exact ⟨RQ.pure rfl rfl rfl rfl, RQ.ldF rfl rfl 1 hS rfl rfl ag_52 rfl rfl, RQ.pure rfl rfl rfl rfl⟩, ?_⟩
        refine WQ.nil ?_
        intro m2
        replace hS := hS.drewN m2; generalize hwm2 : World.drewN _ _ = w at *; clear hwm2
        refine WL.call rfl rfl (tw_join (a := a) (A := A2) (R := R) (l := j1) (r := y1) (k := fk) (z := fz) (tl := Tr.ins k z tl) (tr := tr) (hA := f2.ref) (hl := f2.is) (hr := (f2.kp y1 (by simp) tr f1.ir)) (hf := (by have := f2.fr; omega)) (hz := (by split at hin <;> omega)) (hS := hS)) rfl ?_
        clear hS; rintro _ w ⟨A3, i1, rfl, hS, f3⟩
        replace hS : St g (Arn a A3 :: cel b2 #[.int .i64 fk, .int .i64 fz] 52 :: cel b1 #[.int .i64 k, .int .i64 z] 52 :: L) w := hS
        refine WL.nil ?_
        refine ⟨by exact trivial, ?_⟩
        refine WQ.r 1 rfl ?_
        refine WQ.nil ?_
        intro m3
        replace hS := hS.drewN m3; generalize hwm3 : World.drewN _ _ = w at *; clear hwm3
        as_aux_lemma =>
          refine WC.ret ?_
          refine ⟨[.int .u32 i1], rfl, ?_⟩
          replace hS := (hS.sel 3 [0] rfl)
          exact ⟨_, _, rfl, hS, by rw [hne, hie]; exact f3.after (f1.ch.trans f2.ch sb0 sb1) sb0 (by omega)⟩
      · refine WC.seq ?_
        refine WC.region ?_
        refine WL.run 6 [.int .i64 k, .int .i64 fk] rfl (by exact ⟨hS.ld 2 rfl rfl, hS.ld 0 rfl rfl⟩) ?_
        refine WL.nil ?_
        refine WC.ifP rfl (fun hgt => ?_) (fun hgt => ?_)
        · refine WC.seq ?_
          refine WC.plan [([0, 1, 2, 3, 4, 5], some (6, [0, 1, 2])), ([], some (7, [])), ([8], none)] (by kernel_rfl) (by kernel_rfl) ?_
          have hie : Tr.ic k z t = Tr.ic k z tr + Tr.jc tl (Tr.ins k z tr) := (by rw [ht, Tr.ic, if_neg hlt, if_pos hgt]); have hne : Tr.ins k z t = Tr.join tl fk fz (Tr.ins k z tr) := (by rw [ht, Tr.ins, if_neg hlt, if_pos hgt]); have hin := Tr.ins_n k z tr
          refine WQ.r 2 rfl ?_
          refine WQ.ldF rfl rfl 0 hS rfl rfl ag_52 ?_
          refine WQ.r 2 rfl ?_
          refine WQ.ldF rfl rfl 2 hS rfl rfl ag_52 ?_
          refine WQ.nil ?_
          intro m1
          replace hS := hS.drewN m1; generalize hwm1 : World.drewN _ _ = w at *; clear hwm1
          refine WL.call rfl rfl (ih (tr.n) (by omega) _ _ _ a A1 (x1 :: R) y1 k z tr (f1.swap) (f1.ir) ((by omega)) ((by simp only [List.length_cons]; omega)) rfl (hS.sel 2 [1, 0] rfl)) rfl ?_
          clear hS; rintro _ w ⟨A2, j1, rfl, hS, f2⟩
          replace hS : St g (Arn a A2 :: cel b2 #[.int .i64 fk, .int .i64 fz] 52 :: cel b1 #[.int .i64 k, .int .i64 z] 52 :: L) w := hS
          refine WL.nil ?_
          refine ⟨by exact ⟨RQ.pure rfl rfl rfl rfl, RQ.pure rfl rfl rfl rfl, RQ.ldF rfl rfl 1 hS rfl rfl ag_52 rfl rfl⟩, ?_⟩
          refine WQ.nil ?_
          intro m2
          replace hS := hS.drewN m2; generalize hwm2 : World.drewN _ _ = w at *; clear hwm2
          refine WL.call rfl rfl (tw_join (a := a) (A := A2) (R := R) (l := x1) (r := j1) (k := fk) (z := fz) (tl := tl) (tr := Tr.ins k z tr) (hA := f2.ref.sw) (hl := (f2.kp x1 (by simp) tl f1.il)) (hr := f2.is) (hf := (by have := f2.fr; omega)) (hz := (by split at hin <;> omega)) (hS := hS)) rfl ?_
          clear hS; rintro _ w ⟨A3, i1, rfl, hS, f3⟩
          replace hS : St g (Arn a A3 :: cel b2 #[.int .i64 fk, .int .i64 fz] 52 :: cel b1 #[.int .i64 k, .int .i64 z] 52 :: L) w := hS
          refine WL.nil ?_
          refine ⟨by exact trivial, ?_⟩
          refine WQ.r 1 rfl ?_
          refine WQ.nil ?_
          intro m3
          replace hS := hS.drewN m3; generalize hwm3 : World.drewN _ _ = w at *; clear hwm3
          as_aux_lemma =>
            refine WC.ret ?_
            refine ⟨[.int .u32 i1], rfl, ?_⟩
            replace hS := (hS.sel 3 [0] rfl)
            exact ⟨_, _, rfl, hS, by rw [hne, hie]; exact f3.after (f1.ch.trans f2.ch sb0 sb1) sb0 (by omega)⟩
        · refine WC.skip ?_
          refine WC.seq ?_
          refine WC.region ?_
          have hie : Tr.ic k z t = 1 := (by rw [ht, Tr.ic, if_neg hlt, if_neg hgt]); have hne : Tr.ins k z t = .node tl k z tr := (by rw [ht, Tr.ins, if_neg hlt, if_neg hgt])
          refine WL.r 2 rfl ?_
          refine WL.ldF rfl rfl 2 hS rfl rfl ag_52 ?_
          refine WL.r 1 rfl ?_
          refine WL.call rfl rfl (tw_node (a := a) (A := A1) (R := R) (l := x1) (r := y1) (k := k) (z := z) (tl := tl) (tr := tr) (hA := f1.ref) (hl := f1.il) (hr := f1.ir) (hf := (by omega)) (hz := (by omega)) (hS := (hS.sel 2 [1, 0] rfl))) rfl ?_
          clear hS; rintro _ w ⟨A2, i1, rfl, hS, f2⟩
          replace hS : St g (Arn a A2 :: cel b2 #[.int .i64 fk, .int .i64 fz] 52 :: cel b1 #[.int .i64 k, .int .i64 z] 52 :: L) w := hS
          refine WL.r 1 rfl ?_
          refine WL.nil ?_
          as_aux_lemma =>
            refine WC.ret ?_
            refine ⟨[.int .u32 i1], rfl, ?_⟩
            replace hS := (hS.sel 3 [0] rfl)
            exact ⟨_, _, rfl, hS, by rw [hne, hie]; exact f2.after f1.ch sb0 (by omega)⟩
theorem tw_ins_all (nM : Nat) : ∀ (g w : World) (L : List HP) (a : Nat) (A : AM) (R : List Int) (i k z : Int) (t : Tr), (ARf A (i :: R)) → (Is A t i) → ((Tr.ic k z t : Int) ≤ A.s.free) → (R.length + t.n ≤ 600000000) → t.n = nM → St g (Arn a A :: L) w → Sp Tryz.prog 127 [.pointer (some ⟨a, 0, none⟩), .int .u32 i, .agg #[.int .i64 k, .int .i64 z]] w (fun v w' => ∃ (A2 : AM) (j : Int), v = .int .u32 j ∧ St g (Arn a A2 :: L) w' ∧ (TOp A A2 R j (Tr.ins k z t) (Tr.ic k z t))) := by
  induction nM using Nat.strongRecOn with
  | _ nM ih => intro g w L a A R i k z t hA hi hf hz hM hS; exact tw_ins_step nM ih a A R i k z t hA hi hf hz hM hS
theorem tw_ins {g w : World} {L : List HP} (a : Nat) (A : AM) (R : List Int) (i k z : Int) (t : Tr) (hA : ARf A (i :: R)) (hi : Is A t i) (hf : (Tr.ic k z t : Int) ≤ A.s.free) (hz : R.length + t.n ≤ 600000000) (hS : St g (Arn a A :: L) w) :
    Sp Tryz.prog 127 [.pointer (some ⟨a, 0, none⟩), .int .u32 i, .agg #[.int .i64 k, .int .i64 z]] w (fun v w' => ∃ (A2 : AM) (j : Int), v = .int .u32 j ∧ St g (Arn a A2 :: L) w' ∧ (TOp A A2 R j (Tr.ins k z t) (Tr.ic k z t))) := tw_ins_all _ g w L a A R i k z t hA hi hf hz rfl hS
set_option maxRecDepth 8192 in
theorem tw_hold {g w : World} {L : List HP} (a : Nat) (A : AM) (R : List Int) (i : Int) (hA : ARf A R) (hi : i = 0 ∨ (1 ≤ i ∧ A.s.ok i = true)) (hz : R.length ≤ 900000000) (hS : St g (Arn a A :: L) w) :
    Sp Tryz.prog 123 [.pointer (some ⟨a, 0, none⟩), .int .u32 i] w (fun v w' => v = .int .u32 i ∧ St g (Arn a (A.ret i) :: L) w' ∧ (ARf (A.ret i) (i :: R))) := by
  refine Sp.enter Tryz.func123 rfl (by kernel_rfl) (by kernel_rfl) ?_
  have _ := hz
  refine WC.seq ?_
  refine WC.region ?_
  refine WL.r 1 rfl ?_
  refine WL.nil ?_
  refine WC.seq ?_
  refine WC.region ?_
  have hri := hA.okrng hi
  refine WL.r 2 rfl ?_
  refine WL.call rfl rfl (ar_retain (a := a) (A := A) (i := i) (hA := hA.toAWf) (hi := (by omega)) (hS := hS)) rfl ?_
  clear hS; rintro _ w ⟨rfl, hS⟩
  replace hS : St g (Arn a (A.ret i) :: L) w := hS
  refine WL.nil ?_
  refine WC.seq ?_
  refine WC.region ?_
  refine WL.r 2 rfl ?_
  refine WL.nil ?_
  refine WC.ret ?_
  refine ⟨[.int .u32 i], rfl, ?_⟩
  exact ⟨rfl, hS, (AM.ret_eq hA hi (by omega)).1⟩
set_option maxRecDepth 8192 in
theorem tw_room {g w : World} {L : List HP} (a : Nat) (A : AM) (n : Int) (hA : AWf A) (hS : St g (Arn a A :: L) w) :
    Sp Tryz.prog 124 [.pointer (some ⟨a, 0, none⟩), .int .i64 n] w (fun v w' => v = .bool (decide (0 ≤ n ∧ n ≤ A.s.free)) ∧ St g (Arn a A :: L) w') := by
  refine Sp.enter Tryz.func124 rfl (by kernel_rfl) (by kernel_rfl) ?_
  refine WC.seq ?_
  refine WC.region ?_
  refine WL.r 1 rfl ?_
  refine WL.nil ?_
  refine WC.seq ?_
  refine WC.region ?_
  refine WL.r 3 rfl ?_
  by_cases cg1 : 0 ≤ n
  · refine WL.reb 7 (.bool true) (congrArg Value.bool (decide_eq_true cg1)) ?_
    refine WL.ung rfl rfl rfl ?_
    refine WL.r 1 rfl ?_
    refine WL.ung rfl rfl rfl ?_
    refine WL.call rfl rfl (ar_free (a := a) (A := A) (hA := hA) (hS := hS)) rfl ?_
    clear hS; rintro _ w ⟨rfl, hS⟩
    replace hS : St g (Arn a A :: L) w := hS
    refine WL.ung rfl rfl rfl ?_
    refine WL.r 1 rfl ?_
    refine WL.ung rfl rfl rfl ?_
    refine WL.r 3 rfl ?_
    refine WL.nil ?_
    refine WC.ret ?_
    refine ⟨[.bool (decide (n ≤ A.s.free))], rfl, ?_⟩
    first | exact ⟨congrArg Value.bool (dec_congr (by omega)), hS⟩ | exact ⟨congrArg Value.bool (decide_eq_false (by omega)).symm, hS⟩
  · refine WL.reb 7 (.bool false) (congrArg Value.bool (decide_eq_false cg1)) ?_
    refine WL.skp rfl rfl rfl rfl ?_
    refine WL.skp rfl rfl rfl rfl ?_
    refine WL.skp rfl rfl rfl rfl ?_
    refine WL.skp rfl rfl rfl rfl ?_
    refine WL.r 2 rfl ?_
    refine WL.nil ?_
    refine WC.ret ?_
    refine ⟨[.bool false], rfl, ?_⟩
    first | exact ⟨congrArg Value.bool (dec_congr (by omega)), hS⟩ | exact ⟨congrArg Value.bool (decide_eq_false (by omega)).symm, hS⟩
end Go.Proofs.YtloebjlnmdjeiaaGreatDoor
/-! ## W5 -/
namespace Go.Proofs.YtloebjlnmdjeiaaGreatDoor
open Go Go.V
set_option maxRecDepth 8192 in
theorem lk_get {g w : World} {L : List HP} (a : Nat) (A : AM) (R : List Int) (i k : Int) (t : Tr) (hA : ARf A R) (hi : Is A t i) (hS : St g (Arn a A :: L) w) :
    Sp Tryz.prog 91 [.pointer (some ⟨a, 0, none⟩), .int .u32 i, .int .i64 k] w (fun v w' => v = .tuple #[.int .i64 ((Tr.get k t).getD 0), .bool (Tr.get k t).isSome] ∧ St g (Arn a A :: L) w') := by
  refine Sp.enter Tryz.func91 rfl (by kernel_rfl) (by kernel_rfl) ?_
  refine WC.seq ?_
  refine WC.region ?_
  refine WL.r 2 rfl ?_
  refine WL.nil ?_
  refine WC.seq ?_
  refine WC.seq ?_
  refine WC.region ?_
  refine WL.r 2 rfl ?_
  refine WL.nil ?_
  refine WC.block ?_
  refine WC.loop [0, 2, 8] (fun kM vs w => ∃ (j : Int) (u : Tr), vs = [.pointer (some ⟨a, 0, none⟩), .int .i64 k, .int .u32 j] ∧ St g (Arn a A :: L) w ∧ (Is A u j) ∧ (Tr.get k u = Tr.get k t) ∧ (u.n) = kM) (t.n) ⟨i, t, rfl, hS, (hi), (rfl), rfl⟩ ?_
  clear hS; rintro _ _ w j ⟨j, u, rfl, hS, hu, hg, rfl⟩
  refine WC.seq ?_
  refine WC.seq ?_
  refine WC.region ?_
  refine WL.r 2 rfl ?_
  refine WL.nil ?_
  refine WC.ifP rfl (fun cd1 => ?_) (fun cd1 => ?_)
  · refine WC.skip ?_
    refine WC.block ?_
    refine WC.seq ?_
    refine WC.region ?_
    obtain ⟨ul, uk, uz, ur, hue⟩ := nil_or (t := u) (fun e => cd1 ((Is.nil_iff hu).2 e)); have hu2 : Is A (.node ul uk uz ur) j := hue ▸ hu; have hrj := hA.okrng hu.ref; have hlr := hA.okrng hu2.2.2.2.2.1.ref; have hrr := hA.okrng hu2.2.2.2.2.2.ref; have hun : u.n = ul.n + ur.n + 1 := (by rw [hue]; rfl)
    refine WL.r 2 rfl ?_
    refine WL.call rfl rfl (ar_node (a := a) (A := A) (i := j) (hA := hA.toAWf) (hi := (by omega)) (hio := hu2.2.1) (hS := hS)) rfl ?_
    clear hS; rintro _ w ⟨rfl, hS⟩
    replace hS : St g (Arn a A :: L) w := hS
    refine WL.r 3 rfl ?_
    refine WL.new rfl rfl zv_113 hS (fun b1 w hS => ?_)
    refine WL.stF rfl rfl rfl 0 hS rfl rfl rfl rfl rfl ag_113 (fun w hS => ?_)
    replace hS : St g (cel b1 #[.int .i64 (A.nd j).key, .int .i64 (A.nd j).val, .int .u32 (A.nd j).lf, .int .u32 (A.nd j).rg, .int .i64 (A.nd j).size, .int .i64 (A.nd j).sum, .int .i64 (A.nd j).mn, .int .i64 (A.nd j).mx] 113 :: Arn a A :: L) w := hS
    refine WL.r 1 rfl ?_
    refine WL.nil ?_
    as_aux_lemma =>
      refine WC.block ?_
      refine WC.seq ?_
      refine WC.region ?_
      refine WL.r 3 rfl ?_
      refine WL.nil ?_
      refine WC.ifF rfl rfl ?_
      refine WC.seq ?_
      refine WC.region ?_
      refine WL.run 5 [.int .i64 (A.nd j).key] rfl (by exact hS.ld 0 rfl rfl) ?_
      refine WL.nil ?_
      refine WC.ifP rfl (fun hlt => ?_) (fun hlt => ?_)
      · refine WC.region ?_
        refine WL.run 3 [.int .u32 (A.nd j).lf] rfl (by exact hS.ld 0 rfl rfl) ?_
        refine WL.nil ?_
        exact ⟨_, by omega, (A.nd j).lf, ul, rfl, (hS.sel 1 [] rfl), (hu2.2.2.2.2.1), (by rw [← hg, hue, Tr.get, if_pos (by rw [← hu2.2.2.1]; exact hlt)]), rfl⟩
      · refine WC.seq ?_
        refine WC.region ?_
        refine WL.run 5 [.int .i64 (A.nd j).key] rfl (by exact hS.ld 0 rfl rfl) ?_
        refine WL.nil ?_
        refine WC.ifP rfl (fun hgt => ?_) (fun hgt => ?_)
        · refine WC.region ?_
          refine WL.run 3 [.int .u32 (A.nd j).rg] rfl (by exact hS.ld 0 rfl rfl) ?_
          refine WL.nil ?_
          exact ⟨_, by omega, (A.nd j).rg, ur, rfl, (hS.sel 1 [] rfl), (hu2.2.2.2.2.2), (by rw [← hg, hue, Tr.get, if_neg (by rw [← hu2.2.2.1]; exact hlt), if_pos (by rw [← hu2.2.2.1]; exact hgt)]), rfl⟩
        · refine WC.seq ?_
          refine WC.region ?_
          refine WL.run 4 [.int .i64 (A.nd j).val] rfl (by exact hS.ld 0 rfl rfl) ?_
          refine WL.nil ?_
          refine WC.ret ?_
          refine ⟨[.int .i64 (A.nd j).val, .bool true], ⟨rfl, rfl⟩, ?_⟩
          replace hS := (hS.sel 1 [] rfl)
          have hgv : Tr.get k t = some (A.nd j).val := (by rw [← hg, hue, Tr.get, if_neg (by rw [← hu2.2.2.1]; exact hlt), if_neg (by rw [← hu2.2.2.1]; exact hgt), hu2.2.2.2.1]); exact ⟨by rw [hgv]; rfl, hS⟩
  · refine WC.exit ?_
    refine WC.seq ?_
    refine WC.region ?_
    refine WL.r 2 rfl ?_
    refine WL.nil ?_
    refine WC.ret ?_
    refine ⟨[.int .i64 0, .bool false], ⟨rfl, rfl⟩, ?_⟩
    have hgv : Tr.get k t = none := (by rw [← hg, (Is.nil_iff hu).1 (Classical.not_not.1 cd1)]; rfl); exact ⟨by rw [hgv]; rfl, hS⟩
theorem wt_step {h : Nat} (hw : Tr.wt h ≤ 2147483648) : IntKind.i64.wrap ((Tr.wt h : Int) + ((Tr.wt h : Int) + 2) / 3) = (Tr.wt (h + 1) : Int) := by
  rw [w64 (by omega), show Tr.wt (h + 1) = Tr.wt h + (Tr.wt h + 2) / 3 from rfl]; omega
theorem mxA_stop {keys h : Nat} (hh : h < 80) (hs : keys + 1 < Tr.wt (h + 1)) : Tr.mxA keys (80 - h) h = h := by
  rw [show 80 - h = (80 - (h + 1)) + 1 by omega, Tr.mxA, if_pos hs]
theorem mxA_go {keys h : Nat} (hh : h < 80) (hs : ¬ keys + 1 < Tr.wt (h + 1)) : Tr.mxA keys (80 - (h + 1)) (h + 1) = Tr.mxA keys (80 - h) h := by
  rw [show 80 - h = (80 - (h + 1)) + 1 by omega, Tr.mxA, if_neg hs]
theorem wt_small {h : Nat} (hw : Tr.wt h ≤ 2147483648) : Tr.wt (h + 1) ≤ 3000000000 := by
  rw [show Tr.wt (h + 1) = Tr.wt h + (Tr.wt h + 2) / 3 from rfl]; omega
set_option maxRecDepth 8192 in
theorem mx_height {g w : World} {L : List HP} (keys : Nat) (hk : keys ≤ 2147483647) (hS : St g (L) w) :
    Sp Tryz.prog 270 [.int .i64 (keys : Int)] w (fun v w' => v = .int .i64 (Tr.mxH keys : Int) ∧ St g (L) w') := by
  refine Sp.enter Tryz.func270 rfl (by kernel_rfl) (by kernel_rfl) ?_
  have _ := hk
  refine WC.seq ?_
  refine WC.region ?_
  refine WL.r 1 rfl ?_
  refine WL.nil ?_
  refine WC.seq ?_
  refine WC.seq ?_
  refine WC.region ?_
  refine WL.r 2 rfl ?_
  refine WL.rG 4 rfl (fun j => ?_)
  refine WL.prop 10 rfl (bor (dd _) (dd _)) ?_
  refine WL.nil ?_
  refine WC.ifF rfl (decide_eq_false ((by omega))) ?_
  refine WC.skip ?_
  refine WC.seq ?_
  refine WC.region ?_
  refine WL.r 2 rfl ?_
  refine WL.nil ?_
  refine WC.seq ?_
  refine WC.block ?_
  refine WC.loop [0, 2, 3, 4] (fun kM vs w => ∃ (h : Nat), vs = [.int .i64 (keys : Int), .int .i64 0, .int .i64 (h : Int), .int .i64 (Tr.wt h : Int)] ∧ St g (L) w ∧ (h ≤ 80) ∧ (Tr.wt h ≤ keys + 1) ∧ (Tr.mxA keys (80 - h) h = Tr.mxH keys) ∧ (80 - h) = kM) (80 - 0) ⟨0, rfl, hS, (by omega), (by simp [Tr.wt]), (rfl), rfl⟩ ?_
  clear hS; rintro _ _ w j ⟨h, rfl, hS, hh, hw, hm, rfl⟩
  refine WC.seq ?_
  refine WC.seq ?_
  refine WC.region ?_
  refine WL.r 2 rfl ?_
  refine WL.nil ?_
  as_aux_lemma =>
    refine WC.ifP rfl (fun cd1 => ?_) (fun cd1 => ?_)
    · refine WC.skip ?_
      refine WC.block ?_
      refine WC.seq ?_
      refine WC.region ?_
      have hws := wt_small (h := h) (by omega)
      refine WL.r 3 rfl ?_
      refine WL.nw 15 rfl (w64 (by omega)) ?_
      refine WL.r 1 rfl ?_
      refine WL.reb 16 (.int .i64 (((Tr.wt h : Int) + 2) / 3)) (congrArg (Value.int .i64) (quo_i64 (p := (Tr.wt h : Int) + 2) (q := 3) (by omega))) ?_
      refine WL.r 1 rfl ?_
      refine WL.reb 17 (.int .i64 (Tr.wt (h + 1) : Int)) (congrArg (Value.int .i64) (by exact wt_step (by omega))) ?_
      refine WL.r 1 rfl ?_
      refine WL.nil ?_
      refine WC.seq ?_
      refine WC.seq ?_
      refine WC.region ?_
      refine WL.r 2 rfl ?_
      refine WL.nw 19 rfl (w64 (by omega)) ?_
      refine WL.r 2 rfl ?_
      refine WL.nil ?_
      refine WC.ifP rfl (fun cd2 => ?_) (fun cd2 => ?_)
      · refine WC.exit ?_
        refine WC.seq ?_
        refine WC.region ?_
        refine WL.r 2 rfl ?_
        refine WL.nil ?_
        as_aux_lemma =>
          refine WC.ret ?_
          refine ⟨[.int .i64 (h : Int)], rfl, ?_⟩
          exact ⟨congrArg (fun n : Nat => Value.int .i64 n) ((mxA_stop (keys := keys) (by omega) (by omega)).symm.trans hm), hS⟩
      · refine WC.skip ?_
        refine WC.region ?_
        refine WL.r 2 rfl ?_
        refine WL.nw 23 rfl (w64 (by omega)) ?_
        refine WL.r 1 rfl ?_
        refine WL.nil ?_
        exact ⟨_, by omega, h + 1, rfl, hS, (by omega), (by omega), (by rw [mxA_go (by omega) (by omega)]; exact hm), rfl⟩
    · refine WC.exit ?_
      refine WC.seq ?_
      refine WC.region ?_
      refine WL.r 2 rfl ?_
      refine WL.nil ?_
      refine WC.ret ?_
      refine ⟨[.int .i64 (h : Int)], rfl, ?_⟩
      exact ⟨congrArg (fun n : Nat => Value.int .i64 n) (by rw [← hm, show 80 - h = 0 by omega]; rfl), hS⟩
set_option maxRecDepth 8192 in
theorem rs_valid {g w : World} {L : List HP} (l : List Int) (b : Option Addr) (c : Nat) (hl : l.length ≤ 10) (hS : St g (Sh 3 1 (i64s l) b c :: L) w) :
    Sp Tryz.prog 198 [.slice b (List.length (i64s l)) c] w (fun v w' => v = .bool (l.all fun n => decide (0 ≤ n ∧ n ≤ 65536)) ∧ St g (Sh 3 1 (i64s l) b c :: L) w') := by
  refine Sp.enter Tryz.func198 rfl (by kernel_rfl) (by kernel_rfl) ?_
  have _ := hl
  refine WC.seq ?_
  refine WC.region ?_
  refine WL.r 1 rfl ?_
  refine WL.nil ?_
  refine WC.seq ?_
  refine WC.seq ?_
  refine WC.region ?_
  have hll := i64s_len l
  refine WL.r 3 rfl ?_
  refine WL.nil ?_
  refine WC.block ?_
  refine WC.loop [5, 6, 7] (fun kM vs w => ∃ (k : Nat), vs = [.slice b (List.length (i64s l)) c, .int .i64 (List.length (i64s l) : Int), .int .i64 (k : Int)] ∧ St g (Sh 3 1 (i64s l) b c :: L) w ∧ (k ≤ l.length) ∧ (∀ x ∈ l.take k, 0 ≤ x ∧ x ≤ 65536) ∧ (l.length - k) = kM) ((List.length l) - 0) ⟨0, rfl, hS, (Nat.zero_le _), (by simp), rfl⟩ ?_
  clear hS; rintro _ _ w j ⟨k, rfl, hS, hk, ha, rfl⟩
  refine WC.seq ?_
  refine WC.region ?_
  have hll := i64s_len l
  refine WL.r 1 rfl ?_
  refine WL.nil ?_
  refine WC.seq ?_
  refine WC.ifP rfl (fun cd1 => ?_) (fun cd1 => ?_)
  · refine WC.skip ?_
    refine WC.seq ?_
    refine WC.block ?_
    refine WC.seq ?_
    refine WC.region ?_
    obtain ⟨x, hx⟩ : ∃ x, l[k]? = some x := ⟨_, List.getElem?_eq_getElem (by omega)⟩
    refine WL.ix rfl rfl (i := (k : Int)) (k) el_102 rfl rfl (by omega) (by omega) (hS.rdS 0 rfl (i64s_at hx)).1 ?_
    refine WL.run 2 [.int .i64 x] rfl (by exact (hS.rdS 0 rfl (i64s_at hx)).2 0 _ rfl) ?_
    refine WL.nil ?_
    as_aux_lemma =>
      refine WC.seq ?_
      refine WC.region ?_
      refine WL.r 2 rfl ?_
      refine WL.rG 4 rfl (fun j => ?_)
      refine WL.prop 16 rfl (bor (dd _) (dd _)) ?_
      refine WL.nil ?_
      refine WC.ifP rfl (fun cd2 => ?_) (fun cd2 => ?_)
      · refine WC.seq ?_
        refine WC.region ?_
        refine WL.r 1 rfl ?_
        refine WL.nil ?_
        refine WC.ret ?_
        refine ⟨[.bool false], rfl, ?_⟩
        exact ⟨congrArg Value.bool (by rw [Eq.comm, List.all_eq_false]; exact ⟨x, List.mem_of_getElem? hx, by simp; omega⟩), hS⟩
      · refine WC.skip ?_
        refine WC.region ?_
        refine WL.r 1 rfl ?_
        refine WL.nw 17 rfl (w64 (by omega)) ?_
        refine WL.r 1 rfl ?_
        refine WL.nil ?_
        exact ⟨_, by omega, k + 1, rfl, hS, (by omega), (by rw [List.take_add_one, hx]; intro y hy; rcases List.mem_append.1 hy with hy | hy; exact ha y hy; simp at hy; subst hy; omega), rfl⟩
  · refine WC.exit ?_
    refine WC.seq ?_
    refine WC.region ?_
    refine WL.r 1 rfl ?_
    refine WL.nil ?_
    as_aux_lemma =>
      refine WC.ret ?_
      refine ⟨[.bool true], rfl, ?_⟩
      exact ⟨congrArg Value.bool (by rw [Eq.comm, List.all_eq_true]; intro y hy; rw [List.take_of_length_le (by omega)] at ha; exact decide_eq_true (ha y hy)), hS⟩
theorem mul_rng {f x : Int} (hf : 0 ≤ f ∧ f ≤ 100) (hx : 0 ≤ x ∧ x ≤ 1000) : -9223372036854775808 ≤ f * x ∧ f * x ≤ 9223372036854775807 := by
  have h1 : 0 ≤ f * x := Int.mul_nonneg hf.1 hx.1
  have h2 : f * x ≤ 100 * 1000 := Int.mul_le_mul hf.2 hx.2 hx.1 (by omega)
  omega
set_option maxRecDepth 8192 in
theorem rs_path {g w : World} {L : List HP} (f : Int) (n : Nat) (hf : 0 ≤ f ∧ f ≤ 100) (hn : n ≤ 2147483647) (hS : St g (L) w) :
    Sp Tryz.prog 199 [.int .i64 f, .int .i64 (n : Int)] w (fun v w' => v = .int .i64 (f * ((Tr.mxH n : Int) + 2)) ∧ St g (L) w') := by
  refine Sp.enter Tryz.func199 rfl (by kernel_rfl) (by kernel_rfl) ?_
  refine WC.seq ?_
  refine WC.region ?_
  refine WL.r 1 rfl ?_
  refine WL.nil ?_
  refine WC.seq ?_
  refine WC.region ?_
  refine WL.r 2 rfl ?_
  refine WL.call rfl rfl (mx_height (keys := n) (hk := hn) (hS := hS)) rfl ?_
  clear hS; rintro _ w ⟨rfl, hS⟩
  replace hS : St g (L) w := hS
  refine WL.r 1 rfl ?_
  refine WL.reb 8 (.int .i64 ((Tr.mxH n : Int) + 2)) (congrArg (Value.int .i64) (by have := Tr.mxH_le n; rw [w64 (by omega)])) ?_
  refine WL.r 1 rfl ?_
  refine WL.reb 9 (.int .i64 (f * ((Tr.mxH n : Int) + 2))) (congrArg (Value.int .i64) (by have := Tr.mxH_le n; exact w64 (mul_rng hf (by omega)))) ?_
  refine WL.r 1 rfl ?_
  refine WL.nil ?_
  refine WC.ret ?_
  refine ⟨[.int .i64 (f * ((Tr.mxH n : Int) + 2))], rfl, ?_⟩
  exact ⟨rfl, hS⟩
set_option maxRecDepth 8192 in
theorem rs_ins {g w : World} {L : List HP} (n : Nat) (hn : n ≤ 65536) (hS : St g (L) w) :
    Sp Tryz.prog 125 [.int .i64 (n : Int)] w (fun v w' => v = .int .i64 (4 * ((Tr.mxH (n + 1) : Int) + 2)) ∧ St g (L) w') := by
  refine Sp.enter Tryz.func125 rfl (by kernel_rfl) (by kernel_rfl) ?_
  have _ := hn
  refine WC.seq ?_
  refine WC.region ?_
  refine WL.r 1 rfl ?_
  refine WL.nil ?_
  refine WC.seq ?_
  refine WC.seq ?_
  refine WC.region ?_
  refine WL.r 1 rfl ?_
  refine WL.lit rfl rfl (i64s [(n : Int)]) el_102 hS (by exact ⟨rfl, rfl⟩) (i64s_ok _) rfl (by decide) (fun b1 w hS => ?_)
  replace hS := (hS.at_ 0 rfl).share
  replace hS : St g (Sh 3 1 (i64s [(n : Int)]) (some ⟨b1, 0, none⟩) (List.length (i64s [(n : Int)])) :: L) w := hS
  refine WL.call rfl rfl (rs_valid (l := [(n : Int)]) (b := some ⟨b1, 0, none⟩) (c := List.length (i64s [(n : Int)])) (hl := (by simp)) (hS := hS)) rfl ?_
  clear hS; rintro _ w ⟨rfl, hS⟩
  replace hS : St g (Sh 3 1 (i64s [(n : Int)]) (some ⟨b1, 0, none⟩) (List.length (i64s [(n : Int)])) :: L) w := hS
  refine WL.r 1 rfl ?_
  refine WL.nil ?_
  refine WC.ifF rfl (by simp; omega) ?_
  refine WC.skip ?_
  refine WC.seq ?_
  refine WC.region ?_
  refine WL.r 2 rfl ?_
  refine WL.reb 8 (.int .i64 ((n + 1 : Nat) : Int)) (congrArg (Value.int .i64) (by rw [w64 (by omega)]; omega)) ?_
  refine WL.call rfl rfl (rs_path (f := 4) (n := (n + 1 : Nat)) (hf := (by omega)) (hn := (by omega)) (hS := hS)) rfl ?_
  clear hS; rintro _ w ⟨rfl, hS⟩
  replace hS : St g (Sh 3 1 (i64s [(n : Int)]) (some ⟨b1, 0, none⟩) (List.length (i64s [(n : Int)])) :: L) w := hS
  refine WL.r 1 rfl ?_
  refine WL.nil ?_
  as_aux_lemma =>
    refine WC.ret ?_
    refine ⟨[.int .i64 (4 * ((Tr.mxH (n + 1 : Nat) : Int) + 2))], rfl, ?_⟩
    replace hS := (hS.sel 1 [] rfl)
    exact ⟨rfl, hS⟩
end Go.Proofs.YtloebjlnmdjeiaaGreatDoor
/-! ## W6 -/
namespace Go.Proofs.YtloebjlnmdjeiaaGreatDoor
open Go Go.V
theorem TOp.held {A B : AM} {R : List Int} {i j : Int} {t : Tr} {c : Nat} (h : TOp (A.ret i) B R j t c) : TOp A B R j t c :=
  ⟨h.ref, h.is, (Kp.ret A i R).trans h.kp, by have := h.fr; rw [(AM.ret_same _ _).1] at this; exact this, by rw [h.cap, (AM.ret_same _ _).1]⟩
theorem get_of {k z : Int} {t : Tr} (h1 : (Tr.get k t).isSome = true) (h2 : (Tr.get k t).getD 0 = z) : Tr.get k t = some z := by
  cases hg : Tr.get k t with
  | none => rw [hg] at h1; cases h1
  | some y => rw [hg] at h2; rw [show y = z from h2]
set_option maxHeartbeats 1000000 in
set_option maxRecDepth 8192 in
theorem up_ins {g w : World} {L : List HP} (a : Nat) (A : AM) (R : List Int) (i k z : Int) (t : Tr) (hA : ARf A R) (hi : Is A t i) (hb : t.ok) (hn : t.n ≤ 65535) (hf : 4 * ((Tr.mxH (t.n + 1) : Int) + 2) ≤ A.s.free) (hz : R.length ≤ 500000000) (hS : St g (Arn a A :: L) w) :
    Sp Tryz.prog 57 [.pointer (some ⟨a, 0, none⟩), .int .u32 i, .agg #[.int .i64 k, .int .i64 z]] w (fun v w' => ∃ (A2 : AM) (j : Int), v = .tuple #[.int .u32 j, .int .i64 ((Tr.get k t).getD 0), .bool (Tr.get k t).isSome, .int .i64 0] ∧ St g (Arn a A2 :: L) w' ∧ (TOp A A2 R j (Tr.ins k z t) (4 * (Tr.mxH (t.n + 1) + 2)))) := by
  refine Sp.enter Tryz.func57 rfl (by kernel_rfl) (by kernel_rfl) ?_
  have _ := hz
  have _ := hf
  have _ := hn
  refine WC.seq ?_
  refine WC.region ?_
  refine WL.box rfl rfl #[.int .i64 k, .int .i64 z] hS rfl rfl (fun b1 w hS => ?_)
  refine WL.r 4 rfl ?_
  refine WL.nil ?_
  refine WC.seq ?_
  refine WC.region ?_
  refine WL.run 4 [.int .i64 k] rfl (by exact hS.ld 0 rfl rfl) ?_
  refine WL.call rfl rfl (lk_get (a := a) (A := A) (R := R) (i := i) (k := k) (t := t) (hA := hA) (hi := hi) (hS := (hS.sel 2 [1, 0] rfl))) rfl ?_
  clear hS; rintro _ w ⟨rfl, hS⟩
  replace hS : St g (Arn a A :: cel b1 #[.int .i64 k, .int .i64 z] 52 :: L) w := hS
  refine WL.r 5 rfl ?_
  refine WL.nil ?_
  refine WC.seq ?_
  refine WC.seq ?_
  refine WC.region ?_
  refine WL.r 1 rfl ?_
  refine WL.runG 6 [.int .i64 z] rfl (by exact (fun _ => hS.ld 1 rfl rfl)) (fun j => ?_)
  refine WL.prop 26 rfl (band (dv _) (dd _)) ?_
  refine WL.nil ?_
  refine WC.ifP rfl (fun hc => ?_) (fun hc => ?_)
  · refine WC.seq ?_
    refine WC.region ?_
    refine WL.r 2 rfl ?_
    refine WL.call rfl rfl (tw_hold (a := a) (A := A) (R := R) (i := i) (hA := hA) (hi := hi.ref) (hz := (by omega)) (hS := hS)) rfl ?_
    clear hS; rintro _ w ⟨rfl, hS, f1⟩
    replace hS : St g (Arn a (A.ret i) :: cel b1 #[.int .i64 k, .int .i64 z] 52 :: L) w := hS
    refine WL.r 5 rfl ?_
    refine WL.nil ?_
    as_aux_lemma =>
      refine WC.ret ?_
      refine ⟨[.int .u32 i, .int .i64 ((Tr.get k t).getD 0), .bool true, .int .i64 0], ⟨rfl, rfl, rfl, rfl⟩, ?_⟩
      replace hS := (hS.sel 2 [0] rfl)
      have hg := get_of hc.1 hc.2; exact ⟨_, _, by rw [hg]; rfl, hS, by rw [Tr.ins_same k z t hb hg]; exact (TOp.held (ARf.refl f1 (hi.ret i))).weak (Nat.zero_le _)⟩
  · refine WC.skip ?_
    refine WC.seq ?_
    refine WC.seq ?_
    refine WC.region ?_
    refine WL.r 3 rfl ?_
    refine WL.call rfl rfl (tr_size (a := a) (A := A) (R := R) (i := i) (t := t) (hA := hA) (hi := hi) (hS := hS)) rfl ?_
    clear hS; rintro _ w ⟨rfl, hS⟩
    replace hS : St g (Arn a A :: cel b1 #[.int .i64 k, .int .i64 z] 52 :: L) w := hS
    refine WL.call rfl rfl (rs_ins (n := t.n) (hn := (by omega)) (hS := hS)) rfl ?_
    clear hS; rintro _ w ⟨rfl, hS⟩
    replace hS : St g (Arn a A :: cel b1 #[.int .i64 k, .int .i64 z] 52 :: L) w := hS
    refine WL.call rfl rfl (tw_room (a := a) (A := A) (n := 4 * ((Tr.mxH (t.n + 1) : Int) + 2)) (hA := hA.toAWf) (hS := hS)) rfl ?_
    clear hS; rintro _ w ⟨rfl, hS⟩
    replace hS : St g (Arn a A :: cel b1 #[.int .i64 k, .int .i64 z] 52 :: L) w := hS
    refine WL.r 1 rfl ?_
    refine WL.prop 37 rfl (bnot (dd _)) ?_
    refine WL.nil ?_
    as_aux_lemma =>
      refine WC.ifF rfl (decide_eq_false ((by have := Tr.mxH_le (t.n + 1); simp; omega))) ?_
      refine WC.skip ?_
      refine WC.seq ?_
      refine WC.plan [([0, 1, 2, 4, 6, 7], some (3, [0, 4, 6, 7])), ([], some (5, [6, 7])), ([8, 9, 10, 11], none)] (by kernel_rfl) (by kernel_rfl) ?_
      refine WQ.r 3 rfl ?_
      refine WQ.ldF rfl rfl 1 hS rfl rfl ag_52 ?_
      refine WQ.r 2 rfl ?_
      refine WQ.nil ?_
      intro m1
      replace hS := hS.drewN m1; generalize hwm1 : World.drewN _ _ = w at *; clear hwm1
      refine WL.call rfl rfl (tw_hold (a := a) (A := A) (R := R) (i := i) (hA := hA) (hi := hi.ref) (hz := (by omega)) (hS := hS)) rfl ?_
      clear hS; rintro _ w ⟨rfl, hS, f1⟩
      replace hS : St g (Arn a (A.ret i) :: cel b1 #[.int .i64 k, .int .i64 z] 52 :: L) w := hS
      refine WL.nil ?_
      refine ⟨by exact ⟨RQ.pure rfl rfl rfl rfl, RQ.ldF rfl rfl 1 hS rfl rfl ag_52 rfl rfl, RQ.pure rfl rfl rfl rfl, RQ.pure rfl rfl rfl rfl⟩, ?_⟩
      refine WQ.nil ?_
      intro m2
      replace hS := hS.drewN m2; generalize hwm2 : World.drewN _ _ = w at *; clear hwm2
      refine WL.call rfl rfl (tw_ins (a := a) (A := A.ret i) (R := R) (i := i) (k := k) (z := z) (t := t) (hA := f1) (hi := hi.ret i) (hf := (by have := Tr.ic_res k z t hb (by omega); rw [(AM.ret_same _ _).1]; omega)) (hz := (by omega)) (hS := hS)) rfl ?_
      clear hS; rintro _ w ⟨A1, j1, rfl, hS, f2⟩
      replace hS : St g (Arn a A1 :: cel b1 #[.int .i64 k, .int .i64 z] 52 :: L) w := hS
      refine WL.nil ?_
      refine ⟨by exact ⟨RQ.pure rfl rfl rfl rfl, RQ.pure rfl rfl rfl rfl⟩, ?_⟩
      refine WQ.r 4 rfl ?_
      refine WQ.nil ?_
      intro m3
      replace hS := hS.drewN m3; generalize hwm3 : World.drewN _ _ = w at *; clear hwm3
      as_aux_lemma =>
        refine WC.ret ?_
        refine ⟨[.int .u32 j1, .int .i64 ((Tr.get k t).getD 0), .bool (Tr.get k t).isSome, .int .i64 0], ⟨rfl, rfl, rfl, rfl⟩, ?_⟩
        replace hS := (hS.sel 2 [0] rfl)
        exact ⟨_, _, rfl, hS, (TOp.held f2).weak (by have := Tr.ic_res k z t hb (by omega); omega)⟩
end Go.Proofs.YtloebjlnmdjeiaaGreatDoor
/-! ## Ves -/
namespace Go.V
open Go Go.RowKit
structure FZ (c u : Int) (V : VM) (A : AM) (hd root : Int) (t : Tr) : Prop where
  vi : VI V A []
  opn : V.T.s.opn hd = true
  rng : 0 ≤ hd ∧ hd ≤ 18446744073709551615
  val : V.T.val hd = V.last
  pre : ∀ z, preG V.xs z = true ↔ z = V.last
  free : V.T.s.free = c - 1
  cap : V.cap = c
  rs : ∃ b, V.rs = [⟨V.last, root, b⟩]
  is : Is A t root
  ok : t.ok
  srt : Srt t.ls
  acap : (A.s.used.length : Int) = u + 1
theorem FZ.len {c u : Int} {V : VM} {A : AM} {hd root : Int} {t : Tr} (h : FZ c u V A hd root t) : V.xs.length = 1 := len_single h.vi.g.ok.uniq h.pre
theorem FZ.room {c u : Int} {V : VM} {A : AM} {hd root : Int} {t : Tr} (h : FZ c u V A hd root t) : V.room = c - 1 := by
  have h1 := h.len; have h2 := h.vi.cp; have h3 := h.cap; have h4 := h.free
  unfold VM.room; omega
theorem FZ.root {c u : Int} {V : VM} {A : AM} {hd root : Int} {t : Tr} (h : FZ c u V A hd root t) : V.rootOf (V.T.val hd) = root := by
  obtain ⟨b, hb⟩ := h.rs
  rw [h.val]
  exact VM.rootOf_at (V := V) h.vi.k.uniq (k := 0) (r := ⟨V.last, root, b⟩) (by rw [hb]; rfl)
theorem FZ.ref {c u : Int} {V : VM} {A : AM} {hd root : Int} {t : Tr} (h : FZ c u V A hd root t) : ARf A [root] := by
  obtain ⟨b, hb⟩ := h.rs
  have := h.vi.ref
  rw [hb] at this; exact this
theorem FZ.used {c u : Int} {V : VM} {A : AM} {hd root : Int} {t : Tr} (h : FZ c u V A hd root t) : A.s.cap = u ∧ A.s.cap - A.s.free = t.n := by
  have h1 := one_tree h.ref h.is h.srt
  have h2 : A.s.cap = (A.s.used.length : Int) - 1 := rfl
  have h3 := h.acap
  omega
end Go.V
