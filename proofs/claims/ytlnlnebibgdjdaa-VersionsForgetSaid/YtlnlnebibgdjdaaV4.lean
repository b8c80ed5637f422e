/-
  Stores of versions: Release.
  Conditions: the store is one; the handle is open.
-/
import Derived.Test.YtlnlnebibgdjdaaV3
namespace Go.Proofs.Ytlnlnebibgdjdaa
open Go Go.V Go.RowKit

/-- which roots are still kept on the way -/
structure Kept0 (V : VM) (xs2 : List VN) (ss : List Int) (k : Nat) (rs : List RN) : Prop where
  ok : KOk rK RN.n rs V.q2
  mem : ∀ r, r ∈ rs ↔ r ∈ V.rs ∧ (r.n ∈ ss.take k → preG xs2 r.n = true)
theorem Kept0.zero {V : VM} {A : AM} {R : List Int} (h : VI V A R) (xs2 : List VN) (ss : List Int) : Kept0 V xs2 ss 0 V.rs := ⟨h.k, fun r => by simp⟩
theorem Kept0.skip {V : VM} {xs2 : List VN} {ss : List Int} {k : Nat} {rs : List RN} {n : Int} (h : Kept0 V xs2 ss k rs) (hn : ss[k]? = some n) (hp : preG xs2 n = true) : Kept0 V xs2 ss (k + 1) rs := ⟨h.ok, fun r => by
  rw [h.mem r, List.take_add_one, hn]
  constructor
  · rintro ⟨h1, h2⟩
    refine ⟨h1, fun h3 => ?_⟩
    rcases List.mem_append.1 h3 with h3 | h3
    · exact h2 h3
    · rw [show r.n = n by simpa using h3]; exact hp
  · rintro ⟨h1, h2⟩; exact ⟨h1, fun h3 => h2 (List.mem_append_left _ h3)⟩⟩
theorem Kept0.at_ {V : VM} {xs2 : List VN} {ss : List Int} {k : Nat} {rs : List RN} {n : Int} (h : Kept0 V xs2 ss k rs) (hn : ss[k]? = some n) (hs : Asc ss) (hk : ∀ z, z ∈ ss ↔ ∃ r ∈ V.rs, r.n = z) : ∃ (j : Nat) (r : RN), rs[j]? = some r ∧ r.n = n := by
  obtain ⟨r, hr, hrn⟩ := (hk n).1 (List.mem_of_getElem? hn)
  have : r ∈ rs := (h.mem r).2 ⟨hr, fun h3 => by
    have := take_lt hs hn r.n h3
    omega⟩
  obtain ⟨j, hj⟩ := List.mem_iff_getElem?.1 this
  exact ⟨j, r, hj, hrn⟩
theorem Kept0.del {V : VM} {xs2 : List VN} {ss : List Int} {k j : Nat} {rs : List RN} {n : Int} {r : RN} (h : Kept0 V xs2 ss k rs) (hn : ss[k]? = some n) (hj : rs[j]? = some r) (hr : r.n = n) (hp : preG xs2 n = false) : Kept0 V xs2 ss (k + 1) (rs.eraseIdx j) := ⟨h.ok.erase j, fun x => by
  rw [erase_mem' h.ok.uniq hj x, h.mem x, List.take_add_one, hn, hr]
  constructor
  · rintro ⟨⟨h1, h2⟩, h3⟩
    refine ⟨h1, fun h4 => ?_⟩
    rcases List.mem_append.1 h4 with h4 | h4
    · exact h2 h4
    · exact absurd (show x.n = n by simpa using h4) h3
  · rintro ⟨h1, h2⟩
    refine ⟨⟨h1, fun h3 => h2 (List.mem_append_left _ h3)⟩, fun e => ?_⟩
    have := h2 (List.mem_append_right _ (by simp [e]))
    rw [e, hp] at this; cases this⟩
theorem erase_perm {rs : List RN} {j : Nat} {r : RN} (hj : rs[j]? = some r) (R : List Int) : (rs.map RN.root ++ R).Perm (r.root :: ((rs.eraseIdx j).map RN.root ++ R)) := by
  have h1 : rs.Perm (r :: rs.eraseIdx j) := by
    induction rs generalizing j with
    | nil => simp at hj
    | cons x t ih =>
      cases j with
      | zero => simp at hj; subst hj; exact List.Perm.refl _
      | succ j =>
        rw [List.getElem?_cons_succ] at hj
        rw [List.eraseIdx_cons_succ]
        exact (List.Perm.cons x (ih hj)).trans (List.Perm.swap _ _ _)
  have h2 := (h1.map RN.root).append_right R
  simpa using h2
/-- what a release does -/
structure Rls (V : VM) (h : Int) (V2 : VM) : Prop where
  eq : V2 = VM.mk (V.T.close h) V2.xs V.q V.last V2.rs V.q2 V.cap
  rel : RelQ V.xs (V.T.val h) V2.xs
  sub : ∀ r, r ∈ V2.rs ↔ r ∈ V.rs ∧ preG V2.xs r.n = true
theorem VI.rel {V : VM} {A A2 : AM} {R : List Int} {h : Int} {xs2 : List VN} {rs : List RN} {ss : List Int} (hV : VI V A R) (hn : V.T.s.opn h = true) (hG : GI xs2 V.q V.cap V.last) (hR : RelQ V.xs (V.T.val h) xs2) (hK : Kept0 V xs2 ss ss.length rs) (hk : ∀ z, z ∈ ss ↔ ∃ r ∈ V.rs, r.n = z)
    (hA : ARf A2 (rs.map RN.root ++ R)) : VI (VM.mk (V.T.close h) xs2 V.q V.last rs V.q2 V.cap) A2 R ∧ Rls V h (VM.mk (V.T.close h) xs2 V.q V.last rs V.q2 V.cap) := by
  have hop := SM.opn_ok hn
  have hlv0 := (VM.open_val hV hn).1
  have hsub : ∀ r, r ∈ rs ↔ r ∈ V.rs ∧ preG xs2 r.n = true := fun r => by
    rw [hK.mem r, List.take_of_length_le (Nat.le_refl _)]
    constructor
    · rintro ⟨h1, h2⟩; exact ⟨h1, h2 ((hk r.n).2 ⟨r, h1, rfl⟩)⟩
    · rintro ⟨h1, h2⟩; exact ⟨h1, fun _ => h2⟩
  have hcl : ∀ i : Int, 0 ≤ i → (V.T.close h).s.ok i = if i = h % 4294967296 then false else V.T.s.ok i := fun i hi => SM.release_ok' hV.t.s (by omega) hop.1 hi
  have hlive : ∀ z, liveG xs2 z = true ↔ liveG V.xs z = true ∧ z ≠ V.T.val h := fun z => by
    constructor
    · exact fun hz => RelQ.live hV.g.ok hR hz
    · rintro ⟨h1, h2⟩
      rcases hR with ⟨_, xs1, N, e1, e2, e3⟩ | ⟨h3, _⟩
      · have q1 : liveG xs1 z = true := by
          rw [live_vw, e1]; unfold dead; rw [if_neg h2, ← live_vw]; exact h1
        rw [live_vw, e3]; unfold keep; rw [if_pos ((e2 z).2 (.inl q1))]
        rw [live_vw] at q1
        cases hv : vw xs1 z with
        | none => rw [hv] at q1; cases q1
        | some p => rw [hv] at q1; simpa using q1
      · rw [hlv0] at h3; cases h3
  have hpre : ∀ z, preG xs2 z = true → preG V.xs z = true := fun z hz => by
    rcases hR with ⟨_, xs1, N, e1, e2, e3⟩ | ⟨_, h4⟩
    · rw [pre_vw, e3] at hz
      unfold keep at hz
      split at hz
      · rw [pre_vw]
        rw [← dead_iss (vw V.xs) (V.T.val h) z, ← e1]
        simpa using hz
      · cases hz
    · rw [h4] at hz; exact hz
  refine ⟨⟨hV.t.close hn, hG, hK.ok, fun z => ?_, fun i hi ho => ?_, fun i j hi hj ho ho2 e => ?_, fun z hz => ?_, hA, ?_⟩, ⟨rfl, hR, hsub⟩⟩
  · constructor
    · rintro ⟨r, hr, e⟩; rw [← e]; exact ((hsub r).1 hr).2
    · intro hz
      obtain ⟨r, hr, e⟩ := (hV.pre z).2 (hpre z hz)
      exact ⟨r, (hsub r).2 ⟨hr, by rw [e]; exact hz⟩, e⟩
  · rw [show (VM.mk (V.T.close h) xs2 V.q V.last rs V.q2 V.cap).T.s.ok i = _ from hcl i hi] at ho
    split at ho
    · cases ho
    · rename_i hne
      refine (hlive _).2 ⟨hV.lv i hi ho, fun e => hne ?_⟩
      exact hV.inj i (h % 4294967296) hi (by omega) ho hop.1 e
  · rw [show (VM.mk (V.T.close h) xs2 V.q V.last rs V.q2 V.cap).T.s.ok i = _ from hcl i hi] at ho
    rw [show (VM.mk (V.T.close h) xs2 V.q V.last rs V.q2 V.cap).T.s.ok j = _ from hcl j hj] at ho2
    split at ho
    · cases ho
    · split at ho2
      · cases ho2
      · exact hV.inj i j hi hj ho ho2 e
  · obtain ⟨h1, h2⟩ := (hlive z).1 hz
    obtain ⟨i, i0, i1, i2⟩ := hV.all z h1
    refine ⟨i, i0, ?_, i2⟩
    rw [show (VM.mk (V.T.close h) xs2 V.q V.last rs V.q2 V.cap).T.s.ok i = _ from hcl i i0, if_neg (fun e => h2 ?_)]
    · exact i1
    · rw [← i2, e]; rfl
  · rw [← hV.cp]
    show (((V.T.s.used.set _ _).length : Nat) : Int) - 1 = (V.T.s.used.length : Int) - 1
    rw [List.length_set]
set_option maxHeartbeats 1000000 in
set_option maxRecDepth 8192 in
theorem vs_release {g w : World} {L : List HP} (s a : Nat) (V : VM) (A : AM) (R : List Int) (h : Int) (hV : VI V A R) (hh : 0 ≤ h ∧ h ≤ 18446744073709551615) (hn : V.T.s.opn h = true) (hlen : R.length ≤ 800000000) (hS : St g (Vst s a V :: Arn a A :: L) w) :
    Sp Try.prog 22 [.pointer (some ⟨s, 0, none⟩), .int .u64 h] w (fun v w' => ∃ (V2 : VM) (A2 : AM) (f : Int), v = .tuple #[.int .i64 f, .int .i64 0] ∧ St g (Vst s a V2 :: Arn a A2 :: L) w' ∧ (VI V2 A2 R) ∧ (Rls V h V2) ∧ (f = A2.s.free - A.s.free ∧ A2.s.used.length = A.s.used.length) ∧ (Kp A A2 (V2.rs.map RN.root ++ R))) := by
  refine Sp.enter Try.func22 rfl (by kernel_rfl) (by kernel_rfl) ?_
  have _ := hlen
  refine WC.seq ?_
  refine WC.region ?_
  obtain ⟨⟨vt, vp, vm, vr⟩, hS⟩ := St.exOpen (f := vstF s a V) hS
  replace hS : St g (cel s #[.pointer (some ⟨a, 0, none⟩), .pointer (some ⟨vt, 0, none⟩), .pointer (some ⟨vp, 0, none⟩), .map (some vr), .int .i64 V.cap] 100 :: Tbl vt V.T :: cel vp #[.int .i64 V.cap, .int .i64 V.last, .map (some vm)] 161 :: blk vm (.map (mE (List.map vK V.xs)) V.q) :: Shs vF V.xs :: blk vr (.map (mE (List.map rK V.rs)) V.q2) :: Arn a A :: L) w := hS
  refine WL.r 2 rfl ?_
  refine WL.nil ?_
  refine WC.seq ?_
  refine WC.region ?_
  refine WL.run 5 [.pointer (some ⟨vt, 0, none⟩)] rfl (by exact hS.ld 0 rfl rfl) ?_
  refine WL.call rfl rfl (tb_close_ok (t := vt) (T := V.T) (h := h) (hT := hV.t) (hh := hh) (hn := hn) (hS := (hS.sel 2 [1, 0] rfl))) rfl ?_
  clear hS; rintro _ w ⟨rfl, hS⟩
  replace hS : St g (Tbl vt (V.T.close h) :: cel s #[.pointer (some ⟨a, 0, none⟩), .pointer (some ⟨vt, 0, none⟩), .pointer (some ⟨vp, 0, none⟩), .map (some vr), .int .i64 V.cap] 100 :: cel vp #[.int .i64 V.cap, .int .i64 V.last, .map (some vm)] 161 :: blk vm (.map (mE (List.map vK V.xs)) V.q) :: Shs vF V.xs :: blk vr (.map (mE (List.map rK V.rs)) V.q2) :: Arn a A :: L) w := hS
  refine WL.r 5 rfl ?_
  refine WL.nil ?_
  refine WC.seq ?_
  refine WC.seq ?_
  refine WC.region ?_
  refine WL.r 2 rfl ?_
  refine WL.nil ?_
  refine WC.ifF rfl (decide_eq_false ((by decide))) ?_
  refine WC.skip ?_
  refine WC.seq ?_
  refine WC.region ?_
  have hvr := hV.t.val_rng h
  refine WL.run 7 [.pointer (some ⟨vp, 0, none⟩)] rfl (by exact hS.ld 1 rfl rfl) ?_
  refine WL.nw 31 rfl (w64 (by omega)) ?_
  refine WL.call rfl rfl (rel_spec (p := vp) (m := vm) (cap := V.cap) (last := V.last) (xs := V.xs) (q := V.q) (n := V.T.val h) (hI := hV.g) (hS := (hS.sel 5 [2, 2, 2, 0, 0] rfl))) rfl ?_
  clear hS; rintro _ w ⟨xs1, rfl, hS, f1, f2⟩
  replace hS : St g (cel vp #[.int .i64 V.cap, .int .i64 V.last, .map (some vm)] 161 :: blk vm (.map (mE (List.map vK xs1)) V.q) :: Shs vF xs1 :: Tbl vt (V.T.close h) :: cel s #[.pointer (some ⟨a, 0, none⟩), .pointer (some ⟨vt, 0, none⟩), .pointer (some ⟨vp, 0, none⟩), .map (some vr), .int .i64 V.cap] 100 :: blk vr (.map (mE (List.map rK V.rs)) V.q2) :: Arn a A :: L) w := hS
  refine WL.nil ?_
  as_aux_lemma =>
    refine WC.seq ?_
    refine WC.region ?_
    have hru := rs_len hV; have hgn := hV.g.ok.num; obtain ⟨ss, hss1, hss2, hss3⟩ := keysR_ex hV.k; have hssl : ss.length = V.rs.length := (by rw [hss1.length_eq, List.length_map]); have hsl := i64s_len ss
    replace hS := St.exClose (f := vstF s a (VM.mk (V.T.close h) xs1 V.q V.last V.rs V.q2 V.cap)) (L := Arn a A :: L) ⟨vt, vp, vm, vr⟩ ((hS.sel 5 [4, 3, 0, 0, 0] rfl))
    replace hS : St g (Vst s a (VM.mk (V.T.close h) xs1 V.q V.last V.rs V.q2 V.cap) :: Arn a A :: L) w := hS
    refine WL.r 1 rfl ?_
    refine WL.nil ?_
    refine WC.seq ?_
    refine WC.seq ?_
    refine WC.region ?_
    refine WL.r 1 rfl ?_
    refine WL.call rfl rfl (vs_ret (s := s) (a := a) (V := VM.mk (V.T.close h) xs1 V.q V.last V.rs V.q2 V.cap) (ss := ss) (hk := hV.k) (hp := hss1) (hs := hss2.imp (fun h => by omega)) (hS := hS)) rfl ?_
    clear hS; rintro _ w ⟨a1, c1, rfl, hS⟩
    replace hS : St g (Own 3 1 (i64s ss) a1 c1 :: Vst s a (VM.mk (V.T.close h) xs1 V.q V.last V.rs V.q2 V.cap) :: Arn a A :: L) w := hS
    refine WL.r 2 rfl ?_
    refine WL.nil ?_
    refine WC.block ?_
    refine WC.loop [0, 4, 5, 8, 34, 35, 36] (fun kM vs w => ∃ (k : Nat) (rs : List RN) (B : AM) (fr : Int), vs = [.pointer (some ⟨s, 0, none⟩), .int .i64 0, .int .i64 0, .int .i64 fr, .slice a1 (List.length (i64s ss)) c1, .int .i64 (List.length (i64s ss) : Int), .int .i64 (k : Int)] ∧ St g (Own 3 1 (i64s ss) a1 c1 :: Vst s a (VM.mk (V.T.close h) xs1 V.q V.last rs V.q2 V.cap) :: Arn a B :: L) w ∧ (k ≤ ss.length) ∧ (Kept0 V xs1 ss k rs) ∧ (ARf B (rs.map RN.root ++ R)) ∧ (Kp A B (rs.map RN.root ++ R)) ∧ (fr = B.s.free - A.s.free) ∧ (B.s.used.length = A.s.used.length) ∧ (ss.length - k) = kM) ((List.length ss) - 0) ⟨0, V.rs, A, 0, rfl, hS, (Nat.zero_le _), (Kept0.zero hV xs1 ss), (hV.ref), (Kp.refl _ _), (by omega), (rfl), rfl⟩ ?_
    clear hS; rintro _ _ w j ⟨k, rs, B, fr, rfl, hS, hk, hK, hB, hP, hf, hu, rfl⟩
    refine WC.seq ?_
    refine WC.region ?_
    refine WL.r 1 rfl ?_
    refine WL.nil ?_
    refine WC.seq ?_
    refine WC.ifP rfl (fun cd1 => ?_) (fun cd1 => ?_)
    · refine WC.skip ?_
      as_aux_lemma =>
        refine WC.seq ?_
        refine WC.block ?_
        refine WC.seq ?_
        refine WC.region ?_
        obtain ⟨z, hz⟩ : ∃ u, ss[k]? = some u := ⟨_, List.getElem?_eq_getElem (by omega)⟩; obtain ⟨j, r, hj, hrn⟩ := hK.at_ hz hss2 hss3; have hfB := hB.s.free_rng; have hfA := hV.ref.s.free_rng; have hrsl := hK.ok.num
        refine WL.ix rfl rfl (i := (k : Int)) (k) el_33 rfl rfl (by omega) (by omega) (hS.rdO 0 rfl (i64s_at hz)).1 ?_
        refine WL.run 2 [.int .i64 z] rfl (by exact (hS.rdO 0 rfl (i64s_at hz)).2 0 _ rfl) ?_
        refine WL.nil ?_
        refine WC.seq ?_
        refine WC.seq ?_
        refine WC.region ?_
        obtain ⟨⟨vt, vp, vm, vr⟩, hS⟩ := St.exOpen (f := vstF s a (VM.mk (V.T.close h) xs1 V.q V.last rs V.q2 V.cap)) (hS.at_ 1 rfl)
        replace hS : St g (cel s #[.pointer (some ⟨a, 0, none⟩), .pointer (some ⟨vt, 0, none⟩), .pointer (some ⟨vp, 0, none⟩), .map (some vr), .int .i64 V.cap] 100 :: Tbl vt (V.T.close h) :: cel vp #[.int .i64 V.cap, .int .i64 V.last, .map (some vm)] 161 :: blk vm (.map (mE (List.map vK xs1)) V.q) :: Shs vF xs1 :: blk vr (.map (mE (List.map rK rs)) V.q2) :: Own 3 1 (i64s ss) a1 c1 :: Arn a B :: L) w := hS
        refine WL.run 6 [.pointer (some ⟨vp, 0, none⟩)] rfl (by exact hS.ld 0 rfl rfl) ?_
        refine WL.call rfl rfl (pre_spec (p := vp) (m := vm) (cap := V.cap) (last := V.last) (xs := xs1) (q := V.q) (n := z) (hu := f1.ok.uniq) (hS := (hS.sel 5 [2, 2, 2, 0, 0] rfl))) rfl ?_
        clear hS; rintro _ w ⟨rfl, hS⟩
        replace hS : St g (cel vp #[.int .i64 V.cap, .int .i64 V.last, .map (some vm)] 161 :: blk vm (.map (mE (List.map vK xs1)) V.q) :: Shs vF xs1 :: cel s #[.pointer (some ⟨a, 0, none⟩), .pointer (some ⟨vt, 0, none⟩), .pointer (some ⟨vp, 0, none⟩), .map (some vr), .int .i64 V.cap] 100 :: Tbl vt (V.T.close h) :: blk vr (.map (mE (List.map rK rs)) V.q2) :: Own 3 1 (i64s ss) a1 c1 :: Arn a B :: L) w := hS
        refine WL.nil ?_
        refine WC.if_ rfl (fun cd2 => ?_) (fun cd2 => ?_)
        · refine WC.exit ?_
          refine WC.region ?_
          refine WL.r 1 rfl ?_
          refine WL.nw 71 rfl (w64 (by omega)) ?_
          refine WL.r 1 rfl ?_
          refine WL.nil ?_
          replace hS := St.exClose (f := vstF s a (VM.mk (V.T.close h) xs1 V.q V.last rs V.q2 V.cap)) (L := Own 3 1 (i64s ss) a1 c1 :: Arn a B :: L) ⟨vt, vp, vm, vr⟩ ((hS.sel 5 [3, 3, 0, 0, 0] rfl))
          replace hS : St g (Vst s a (VM.mk (V.T.close h) xs1 V.q V.last rs V.q2 V.cap) :: Own 3 1 (i64s ss) a1 c1 :: Arn a B :: L) w := hS
          exact ⟨_, by omega, k + 1, rs, B, fr, rfl, (hS.sel 2 [1, 0] rfl), (by omega), (hK.skip hz cd2), (hB), (hP), (hf), (hu), rfl⟩
        · refine WC.skip ?_
          refine WC.seq ?_
          refine WC.plan [([0, 4, 9, 1, 5, 2, 6, 3, 7, 8, 10], some (11, [])), ([12, 13, 14, 15, 16], none)] (by kernel_rfl) (by kernel_rfl) ?_
          have hBp := hB.perm (erase_perm hj R); have hel := List.length_eraseIdx_le rs j
          refine WQ.run 10 [.pointer (some ⟨a, 0, none⟩), .map (some vr)] rfl (by exact ⟨hS.ld 3 rfl rfl, hS.ld 3 rfl rfl⟩) ?_
          refine WQ.lk rfl rfl mt_96 5 hS rfl rfl rfl (by first | trivial | rfl) (r := some (j, .int .u32 r.root)) (hrn ▸ ki_in hK.ok.key hK.ok.uniq hj) rfl ?_
          refine WQ.nil ?_
          intro m1
          replace hS := hS.drewN m1; generalize hwm1 : World.drewN _ _ = w at *; clear hwm1
          refine WL.call rfl rfl (ar_rel (a := a) (A := B) (R := List.map RN.root (rs.eraseIdx j) ++ R) (i := r.root) (hA := hBp) (hR := (by rw [List.length_append, List.length_map]; omega)) (hS := (hS.sel 8 [7, 0, 0, 0, 0, 0, 0, 0] rfl))) rfl ?_
          clear hS; rintro _ w ⟨A1, f3, rfl, hS, f4, f5, f6⟩
          replace hS : St g (Arn a A1 :: cel vp #[.int .i64 V.cap, .int .i64 V.last, .map (some vm)] 161 :: blk vm (.map (mE (List.map vK xs1)) V.q) :: Shs vF xs1 :: cel s #[.pointer (some ⟨a, 0, none⟩), .pointer (some ⟨vt, 0, none⟩), .pointer (some ⟨vp, 0, none⟩), .map (some vr), .int .i64 V.cap] 100 :: Tbl vt (V.T.close h) :: blk vr (.map (mE (List.map rK rs)) V.q2) :: Own 3 1 (i64s ss) a1 c1 :: L) w := hS
          refine WL.nil ?_
          refine ⟨by exact trivial, ?_⟩
          refine WQ.r 5 rfl ?_
          refine WQ.nil ?_
          intro m2
          replace hS := hS.drewN m2; generalize hwm2 : World.drewN _ _ = w at *; clear hwm2
          as_aux_lemma =>
            refine WC.seq ?_
            refine WC.region ?_
            refine WL.r 3 rfl ?_
            refine WL.reb 64 (.int .i64 (A1.s.free - A.s.free)) (congrArg (Value.int .i64) (by have hf1 := f6.1; have hfC := f4.s.free_rng; rw [w64 (by omega)]; omega)) ?_
            refine WL.r 1 rfl ?_
            refine WL.nil ?_
            refine WC.region ?_
            refine WL.run 6 [.map (some vr)] rfl (by exact hS.ld 4 rfl rfl) ?_
            refine WL.del rfl rfl mt_96 6 hS rfl rfl rfl (by first | trivial | rfl) (j := j) (v := .int .u32 r.root) (hrn ▸ ki_in hK.ok.key hK.ok.uniq hj) (by rw [List.length_map]; exact (List.getElem?_eq_some_iff.1 hj).1) (fun w hS => ?_)
            replace hS : St g (Arn a A1 :: cel vp #[.int .i64 V.cap, .int .i64 V.last, .map (some vm)] 161 :: blk vm (.map (mE (List.map vK xs1)) V.q) :: Shs vF xs1 :: cel s #[.pointer (some ⟨a, 0, none⟩), .pointer (some ⟨vt, 0, none⟩), .pointer (some ⟨vp, 0, none⟩), .map (some vr), .int .i64 V.cap] 100 :: Tbl vt (V.T.close h) :: blk vr (.map (mE (List.eraseIdx (List.map rK rs) j)) V.q2) :: Own 3 1 (i64s ss) a1 c1 :: L) w := hS
            refine WL.nil ?_
            refine WC.region ?_
            refine WL.r 1 rfl ?_
            refine WL.nw 71 rfl (w64 (by omega)) ?_
            refine WL.r 1 rfl ?_
            refine WL.nil ?_
            replace hS := St.exClose (f := vstF s a (VM.mk (V.T.close h) xs1 V.q V.last (rs.eraseIdx j) V.q2 V.cap)) (L := Arn a A1 :: Own 3 1 (i64s ss) a1 c1 :: L) ⟨vt, vp, vm, vr⟩ (by
              have hm : (List.map rK rs).eraseIdx j = List.map rK (rs.eraseIdx j) := by simp [List.eraseIdx_eq_take_drop_succ]
              rw [hm] at hS
              exact (hS.sel 7 [4, 4, 1, 1, 1, 1, 0] rfl))
            replace hS : St g (Vst s a (VM.mk (V.T.close h) xs1 V.q V.last (rs.eraseIdx j) V.q2 V.cap) :: Arn a A1 :: Own 3 1 (i64s ss) a1 c1 :: L) w := hS
            exact ⟨_, by omega, k + 1, rs.eraseIdx j, A1, A1.s.free - A.s.free, rfl, (hS.sel 3 [2, 0, 0] rfl), (by omega), (hK.del hz hj hrn (by simpa using cd2)), (f4), (Kp.trans (fun x hx => hP x (by rw [(erase_perm hj R).mem_iff]; exact List.mem_cons_of_mem _ hx)) (f5.kp f4)), (rfl), (by have := f5.cap; omega), rfl⟩
    · refine WC.exit ?_
      as_aux_lemma =>
        refine WC.seq ?_
        refine WC.region ?_
        have hke : k = ss.length := by omega
        refine WL.r 3 rfl ?_
        refine WL.nil ?_
        refine WC.ret ?_
        refine ⟨[.int .i64 fr, .int .i64 0], ⟨rfl, rfl⟩, ?_⟩
        replace hS := (hS.sel 1 [] rfl)
        subst hke; obtain ⟨h1, h2⟩ := VI.rel hV hn f1 f2 hK hss3 hB; exact ⟨_, _, _, rfl, hS, h1, h2, ⟨hf, hu⟩, hP⟩
end Go.Proofs.Ytlnlnebibgdjdaa
