/-
  What the proof of Jsl stands on, part 3.
  Conditions: none.
-/
import Derived.Test.YthcmigbamkohpaaGreatDoorZslB
/-! ## V3 -/
namespace Go.Proofs.YthcmigbamkohpaaGreatDoor
open Go Go.V Go.RowKit
structure Com (V : VM) (root : Int) (ps : List Int) (V2 : VM) : Prop where
  ex : ∃ xs2 q, V2 = V.add xs2 q root ∧ AddP V.xs V.cap V.last ps xs2 (V.last + 1)
  e0 : addE V.xs V.cap ps = 0
set_option maxRecDepth 8192 in
theorem vs_commit {g w : World} {L : List HP} (s a : Nat) (V : VM) (A : AM) (R : List Int) (root : Int) (hs : List Int) (pa : Option Addr) (pc : Nat) (hV : VI V A R) (hr : root = 0 ∨ (1 ≤ root ∧ A.s.ok root = true)) (hps : okPs hs) (hop : ∀ x ∈ hs, (0 ≤ x ∧ x ≤ 18446744073709551615) ∧ V.T.s.opn x = true) (hrm : 0 < V.room) (hla : V.last < 1000000000) (hlen : R.length ≤ 900000000) (hS : St g (Vst s a V :: Arn a A :: Sh 25 1 (u64s hs) pa pc :: L) w) :
    Sp Tryz.prog 85 [.pointer (some ⟨s, 0, none⟩), .int .u32 root, .slice pa (List.length (u64s hs)) pc] w (fun v w' => ∃ (V2 : VM), v = .tuple #[.int .u64 V.T.newH, .int .i64 0] ∧ St g (Vst s a V2 :: Arn a (A.ret root) :: Sh 25 1 (u64s hs) pa pc :: L) w' ∧ (VI V2 (A.ret root) R) ∧ (Com V root (hs.map V.T.val) V2)) := by
  refine Sp.enter Tryz.func85 rfl (by kernel_rfl) (by kernel_rfl) ?_
  refine WC.seq ?_
  refine WC.region ?_
  have hpl := u64s_len hs
  have hp2 := hps.1
  refine WL.r 2 rfl ?_
  refine WL.nil ?_
  refine WC.seq ?_
  refine WC.seq ?_
  refine WC.cut [0, 1, 2, 6, 7, 31] (fun vs w => ∃ (t31 : Bool), vs = [.pointer (some ⟨s, 0, none⟩), .int .u32 root, .slice pa (List.length (u64s hs)) pc, .int .u64 0, .int .i64 0, .bool t31] ∧ St g (Vst s a V :: Arn a A :: Sh 25 1 (u64s hs) pa pc :: L) w ∧ (t31 = false)) ?_ ?_
  · refine WC.plan [([0, 1, 2, 3, 4, 5, 6, 7, 8, 11, 9, 12, 10, 13, 14, 15, 16], none)] (by kernel_rfl) (by kernel_rfl) ?_
    refine WQ.r 4 rfl ?_
    refine WQ.reb 18 (.bool false) (congrArg Value.bool (decide_eq_false ((by omega)))) ?_
    refine WQ.ung rfl rfl rfl ?_
    refine WQ.r 1 rfl ?_
    refine WQ.ung rfl rfl rfl ?_
    refine WQ.r 1 rfl ?_
    refine WQ.ung rfl rfl rfl ?_
    refine WQ.r 1 rfl ?_
    refine WQ.ung rfl rfl rfl ?_
    refine WQ.r 1 rfl ?_
    by_cases cg1 : (List.length (u64s hs) : Int) = 2
    · refine WQ.reb 22 (.bool true) (congrArg Value.bool (decide_eq_true cg1)) ?_
      refine WQ.ung rfl rfl rfl ?_
      refine WQ.r 1 rfl ?_
      refine WQ.ung rfl rfl rfl ?_
      refine WQ.r 1 rfl ?_
      refine WQ.ung rfl rfl rfl ?_
      obtain ⟨p0, h0⟩ : ∃ u, hs[0]? = some u := ⟨_, List.getElem?_eq_getElem (by omega)⟩; obtain ⟨p1, h1⟩ : ∃ u, hs[1]? = some u := ⟨_, List.getElem?_eq_getElem (by omega)⟩
      refine WQ.ix rfl rfl (i := 0) (0) el_143 rfl rfl (by omega) (by omega) (hS.rdS 2 rfl (u64s_at h0)).1 ?_
      refine WQ.ung rfl rfl rfl ?_
      refine WQ.ix rfl rfl (i := 1) (1) el_143 rfl rfl (by omega) (by omega) (hS.rdS 2 rfl (u64s_at h1)).1 ?_
      refine WQ.ung rfl rfl rfl ?_
      refine WQ.run 1 [.int .u64 p0] rfl (by exact (hS.rdS 2 rfl (u64s_at h0)).2 0 _ rfl) ?_
      refine WQ.ung rfl rfl rfl ?_
      refine WQ.run 1 [.int .u64 p1] rfl (by exact (hS.rdS 2 rfl (u64s_at h1)).2 0 _ rfl) ?_
      refine WQ.ung rfl rfl rfl ?_
      refine WQ.r 1 rfl ?_
      refine WQ.ung rfl rfl rfl ?_
      refine WQ.r 2 rfl ?_
      refine WQ.nil ?_
      intro m1
      replace hS := hS.drewN m1; generalize hwm1 : World.drewN _ _ = w at *; clear hwm1
      exact ⟨decide (p0 = p1), rfl, hS, (decide_eq_false (okPs_ne hps h0 h1))⟩
    · refine WQ.reb 22 (.bool false) (congrArg Value.bool (decide_eq_false cg1)) ?_
      refine WQ.skp rfl rfl rfl rfl ?_
      refine WQ.skp rfl rfl rfl rfl ?_
      refine WQ.skp rfl rfl rfl rfl ?_
      refine WQ.skp rfl rfl rfl rfl ?_
      refine WQ.skp rfl rfl rfl rfl ?_
      refine WQ.skp rfl rfl rfl rfl ?_
      refine WQ.skp rfl rfl rfl rfl ?_
      refine WQ.ung rfl rfl rfl ?_
      refine WQ.r 2 rfl ?_
      refine WQ.nil ?_
      intro m1
      replace hS := hS.drewN m1; generalize hwm1 : World.drewN _ _ = w at *; clear hwm1
      exact ⟨false, rfl, hS, (rfl)⟩
  clear hS; rintro _ w j ⟨t31, rfl, hS, h31⟩
  refine WC.ifF rfl h31 ?_
  refine WC.skip ?_
  refine WC.seq ?_
  refine WC.region ?_
  refine WL.r 1 rfl ?_
  refine WL.nil ?_
  refine WC.seq ?_
  refine WC.seq ?_
  refine WC.region ?_
  refine WL.r 3 rfl ?_
  refine WL.nil ?_
  refine WC.block ?_
  replace hS := hS.nil_ 3 1
  refine WC.loop [0, 1, 8, 32, 33, 34] (fun kM vs w => ∃ (k : Nat) (acc : List Int) (u : Option Addr) (d : Nat), vs = [.pointer (some ⟨s, 0, none⟩), .int .u32 root, .slice u (List.length (i64s acc)) d, .slice pa (List.length (u64s hs)) pc, .int .i64 (List.length (u64s hs) : Int), .int .i64 (k : Int)] ∧ St g (Own 3 1 (i64s acc) u d :: Vst s a V :: Arn a A :: Sh 25 1 (u64s hs) pa pc :: L) w ∧ (k ≤ hs.length) ∧ (acc = (List.take k hs).map V.T.val) ∧ (hs.length - k) = kM) ((List.length hs) - 0) ⟨0, [], none, 0, rfl, hS, (Nat.zero_le _), (rfl), rfl⟩ ?_
  clear hS; rintro _ _ w j ⟨k, acc, u, d, rfl, hS, hk, ha, rfl⟩
  refine WC.seq ?_
  refine WC.region ?_
  refine WL.r 1 rfl ?_
  refine WL.nil ?_
  as_aux_lemma =>
    refine WC.seq ?_
    refine WC.ifP rfl (fun cd1 => ?_) (fun cd1 => ?_)
    · refine WC.skip ?_
      refine WC.seq ?_
      refine WC.block ?_
      refine WC.seq ?_
      refine WC.region ?_
      obtain ⟨z, hz⟩ : ∃ u, hs[k]? = some u := ⟨_, List.getElem?_eq_getElem (by omega)⟩; have hzo := hop z (List.mem_of_getElem? hz); have hacl := i64s_len acc; have hacl2 : acc.length = k := (by rw [ha, List.length_map, List.length_take]; omega)
      refine WL.ix rfl rfl (i := (k : Int)) (k) el_143 rfl rfl (by omega) (by omega) (hS.rdS 3 rfl (u64s_at hz)).1 ?_
      refine WL.run 2 [.int .u64 z] rfl (by exact (hS.rdS 3 rfl (u64s_at hz)).2 0 _ rfl) ?_
      refine WL.nil ?_
      refine WC.seq ?_
      refine WC.region ?_
      refine WL.r 2 rfl ?_
      refine WL.call rfl rfl (vs_num_ok (s := s) (a := a) (V := V) (h := z) (hT := hV.t) (hh := hzo.1) (hn := hzo.2) (hS := (hS.sel 2 [1, 0] rfl))) rfl ?_
      clear hS; rintro _ w ⟨rfl, hS⟩
      replace hS : St g (Vst s a V :: Own 3 1 (i64s acc) u d :: Arn a A :: Sh 25 1 (u64s hs) pa pc :: L) w := hS
      refine WL.r 5 rfl ?_
      refine WL.nil ?_
      refine WC.seq ?_
      refine WC.seq ?_
      refine WC.region ?_
      refine WL.r 2 rfl ?_
      refine WL.nil ?_
      refine WC.ifF rfl (decide_eq_false ((by decide))) ?_
      refine WC.skip ?_
      as_aux_lemma =>
        refine WC.region ?_
        refine WL.r 2 rfl ?_
        refine WL.lit rfl rfl (i64s [V.T.val z]) el_141 hS (by exact ⟨rfl, rfl⟩) (i64s_ok _) rfl (by decide) (fun b1 w hS => ?_)
        refine WL.app rfl rfl 2 (i64s (acc ++ [V.T.val z])) el_141 hS rfl (hS.srcO 0 rfl) (i64s_app _ _).symm (Rm.of (by first | omega | (simp <;> omega)) (by decide)) rfl rfl (fun a1 c1 w hS => ?_)
        replace hS : St g (Own 3 1 (i64s [V.T.val z]) (some ⟨b1, 0, none⟩) (List.length (i64s [V.T.val z])) :: Vst s a V :: Own 3 1 (i64s (acc ++ [V.T.val z])) a1 c1 :: Arn a A :: Sh 25 1 (u64s hs) pa pc :: L) w := hS
        refine WL.r 1 rfl ?_
        refine WL.nil ?_
        refine WC.region ?_
        refine WL.r 1 rfl ?_
        refine WL.nw 51 rfl (w64 (by omega)) ?_
        refine WL.r 1 rfl ?_
        refine WL.nil ?_
        exact ⟨_, by omega, k + 1, acc ++ [V.T.val z], a1, c1, rfl, (hS.sel 3 [2, 1] rfl), (by omega), (by rw [ha, List.take_add_one, hz]; simp), rfl⟩
    · refine WC.exit ?_
      refine WC.seq ?_
      refine WC.seq ?_
      refine WC.region ?_
      have hke : acc = hs.map V.T.val := (by rw [ha, List.take_of_length_le (by omega)]); obtain ⟨ss, hK⟩ := keys_ex hV.g.ok.uniq
      refine WL.r 1 rfl ?_
      refine WL.call rfl rfl (vs_room (s := s) (a := a) (V := V) (ss := ss) (hT := hV.t) (hG := hV.g) (hp := hK.perm) (hs := hK.le) (hS := (hS.sel 2 [1, 0] rfl))) rfl ?_
      clear hS; rintro _ w ⟨rfl, hS⟩
      replace hS : St g (Vst s a V :: Own 3 1 (i64s acc) u d :: Arn a A :: Sh 25 1 (u64s hs) pa pc :: L) w := hS
      refine WL.r 1 rfl ?_
      refine WL.nil ?_
      refine WC.ifF rfl (decide_eq_false ((by omega))) ?_
      refine WC.skip ?_
      refine WC.seq ?_
      refine WC.region ?_
      obtain ⟨⟨vt, vp, vm, vr⟩, hS⟩ := St.exOpen (f := vstF s a V) hS
      replace hS : St g (cel s #[.pointer (some ⟨a, 0, none⟩), .pointer (some ⟨vt, 0, none⟩), .pointer (some ⟨vp, 0, none⟩), .map (some vr), .int .i64 V.cap] 127 :: Tbl vt V.T :: cel vp #[.int .i64 V.cap, .int .i64 V.last, .map (some vm)] 216 :: blk vm (.map (mE (List.map vK V.xs)) V.q) :: Shs vF V.xs :: blk vr (.map (mE (List.map rK V.rs)) V.q2) :: Own 3 1 (i64s acc) u d :: Arn a A :: Sh 25 1 (u64s hs) pa pc :: L) w := hS
      refine WL.run 6 [.pointer (some ⟨vp, 0, none⟩)] rfl (by exact hS.ld 0 rfl rfl) ?_
      replace hS := (hS.at_ 6 rfl).share
      replace hS : St g (Sh 3 1 (i64s acc) u d :: cel s #[.pointer (some ⟨a, 0, none⟩), .pointer (some ⟨vt, 0, none⟩), .pointer (some ⟨vp, 0, none⟩), .map (some vr), .int .i64 V.cap] 127 :: Tbl vt V.T :: cel vp #[.int .i64 V.cap, .int .i64 V.last, .map (some vm)] 216 :: blk vm (.map (mE (List.map vK V.xs)) V.q) :: Shs vF V.xs :: blk vr (.map (mE (List.map rK V.rs)) V.q2) :: Arn a A :: Sh 25 1 (u64s hs) pa pc :: L) w := hS
      refine WL.call rfl rfl (add_spec (p := vp) (m := vm) (cap := V.cap) (last := V.last) (xs := V.xs) (q := V.q) (ps := acc) (a := u) (c := d) (hI := hV.g) (hla := hla) (hS := (hS.sel 6 [0, 2, 2, 2, 0, 0] rfl))) rfl ?_
      clear hS; rintro _ w ⟨xs1, q1, last1, rfl, hS, f1, f2⟩
      replace hS : St g (Sh 3 1 (i64s acc) u d :: cel vp #[.int .i64 V.cap, .int .i64 last1, .map (some vm)] 216 :: blk vm (.map (mE (List.map vK xs1)) q1) :: Shs vF xs1 :: cel s #[.pointer (some ⟨a, 0, none⟩), .pointer (some ⟨vt, 0, none⟩), .pointer (some ⟨vp, 0, none⟩), .map (some vr), .int .i64 V.cap] 127 :: Tbl vt V.T :: blk vr (.map (mE (List.map rK V.rs)) V.q2) :: Arn a A :: Sh 25 1 (u64s hs) pa pc :: L) w := hS
      refine WL.r 5 rfl ?_
      refine WL.nil ?_
      as_aux_lemma =>
        refine WC.seq ?_
        refine WC.seq ?_
        refine WC.region ?_
        have he0 := addE_room hV hps (fun x hx => (hop x hx).2) hrm; rw [← hke] at he0
        refine WL.r 2 rfl ?_
        refine WL.nil ?_
        refine WC.ifF rfl (decide_eq_false ((by rw [he0]; decide))) ?_
        refine WC.skip ?_
        refine WC.seq ?_
        refine WC.region ?_
        rw [hke] at he0 f2; obtain ⟨_, rfl, _⟩ := (AddP.facts hV.g.le f2).resolve_left (fun e => e.1 he0); have hv0 : addV V.xs V.cap V.last acc = V.last + 1 := (by unfold addV; rw [hke, if_pos he0]); have hfr := (room_pos hV hrm).2; have hla0 := hV.g.la; have hV2 := hV.add hr he0 f2 f1 hfr hla hlen
        refine WL.reb 13 (.int .i64 (V.last + 1)) (congrArg (Value.int .i64) hv0) ?_
        refine WL.run 5 [.pointer (some ⟨a, 0, none⟩)] rfl (by exact hS.ld 4 rfl rfl) ?_
        refine WL.call rfl rfl (ar_retain (a := a) (A := A) (i := root) (hA := hV.ref.toAWf) (hi := (by have := okrng0 hV.ref.toAWf hr; omega)) (hS := (hS.sel 8 [7, 0, 0, 0, 0, 0, 0, 0] rfl))) rfl ?_
        clear hS; rintro _ w ⟨rfl, hS⟩
        replace hS : St g (Arn a (A.ret root) :: Sh 3 1 (i64s acc) u d :: cel vp #[.int .i64 V.cap, .int .i64 (V.last + 1), .map (some vm)] 216 :: blk vm (.map (mE (List.map vK xs1)) q1) :: Shs vF xs1 :: cel s #[.pointer (some ⟨a, 0, none⟩), .pointer (some ⟨vt, 0, none⟩), .pointer (some ⟨vp, 0, none⟩), .map (some vr), .int .i64 V.cap] 127 :: Tbl vt V.T :: blk vr (.map (mE (List.map rK V.rs)) V.q2) :: Sh 25 1 (u64s hs) pa pc :: L) w := hS
        refine WL.nil ?_
        refine WC.seq ?_
        refine WC.region ?_
        refine WL.run 7 [.map (some vr)] rfl (by exact hS.ld 5 rfl rfl) ?_
        refine WL.muN rfl rfl rfl mt_123 7 hS rfl rfl rfl rfl (by first | trivial | rfl) (ki_out (f := rK) hV.k.key (fun x hx e => by have h9 := (AddP.facts hV.g.le f2).resolve_left (fun e => e.1 he0); have h8 := (hV.pre x.n).1 ⟨x, hx, rfl⟩; rw [e, h9.2.2.1] at h8; cases h8)) (fun w hS => ?_)
        replace hS : St g (Arn a (A.ret root) :: Sh 3 1 (i64s acc) u d :: cel vp #[.int .i64 V.cap, .int .i64 (V.last + 1), .map (some vm)] 216 :: blk vm (.map (mE (List.map vK xs1)) q1) :: Shs vF xs1 :: cel s #[.pointer (some ⟨a, 0, none⟩), .pointer (some ⟨vt, 0, none⟩), .pointer (some ⟨vp, 0, none⟩), .map (some vr), .int .i64 V.cap] 127 :: Tbl vt V.T :: blk vr (.map (mE ((List.map rK V.rs) ++ [⟨.int .i64 (V.last + 1), .int .u32 root, V.q2⟩])) (V.q2 + 1)) :: Sh 25 1 (u64s hs) pa pc :: L) w := hS
        refine WL.nil ?_
        refine WC.seq ?_
        refine WC.region ?_
        refine WL.run 6 [.pointer (some ⟨vt, 0, none⟩)] rfl (by exact hS.ld 5 rfl rfl) ?_
        refine WL.nw 86 rfl (wu32 (by omega)) ?_
        refine WL.call rfl rfl (tb_open_ok (t := vt) (T := V.T) (y := V.last + 1) (hT := hV.t) (hf := hfr) (hS := (hS.sel 7 [6, 0, 0, 0, 0, 0, 0] rfl))) rfl ?_
        clear hS; rintro _ w ⟨rfl, hS⟩
        replace hS : St g (Tbl vt (V.T.open (V.last + 1)) :: Arn a (A.ret root) :: Sh 3 1 (i64s acc) u d :: cel vp #[.int .i64 V.cap, .int .i64 (V.last + 1), .map (some vm)] 216 :: blk vm (.map (mE (List.map vK xs1)) q1) :: Shs vF xs1 :: cel s #[.pointer (some ⟨a, 0, none⟩), .pointer (some ⟨vt, 0, none⟩), .pointer (some ⟨vp, 0, none⟩), .map (some vr), .int .i64 V.cap] 127 :: blk vr (.map (mE ((List.map rK V.rs) ++ [⟨.int .i64 (V.last + 1), .int .u32 root, V.q2⟩])) (V.q2 + 1)) :: Sh 25 1 (u64s hs) pa pc :: L) w := hS
        refine WL.r 4 rfl ?_
        refine WL.nil ?_
        as_aux_lemma =>
          refine WC.ret ?_
          replace hS := St.exClose (f := vstF s a (V.add xs1 q1 root)) (L := Arn a (A.ret root) :: Sh 3 1 (i64s acc) u d :: Sh 25 1 (u64s hs) pa pc :: L) ⟨vt, vp, vm, vr⟩ (by
            have hm : List.map rK V.rs ++ [(.int .i64 (V.last + 1), .int .u32 root, V.q2)] = List.map rK (V.add xs1 q1 root).rs := by simp [rK, VM.add]
            rw [hm] at hS
            exact (hS.sel 8 [6, 0, 2, 2, 2, 2, 0, 0] rfl))
          replace hS : St g (Vst s a (V.add xs1 q1 root) :: Arn a (A.ret root) :: Sh 3 1 (i64s acc) u d :: Sh 25 1 (u64s hs) pa pc :: L) w := hS
          refine ⟨[.int .u64 V.T.newH, .int .i64 0], ⟨rfl, rfl⟩, ?_⟩
          replace hS := (hS.sel 3 [0, 0] rfl)
          exact ⟨_, rfl, hS, hV2, ⟨xs1, q1, rfl, f2⟩, he0⟩
theorem okPs_nil : okPs [] := ⟨by simp, fun _ _ h => by cases h⟩
end Go.Proofs.YthcmigbamkohpaaGreatDoor
/-! ## V4 -/
namespace Go.Proofs.YthcmigbamkohpaaGreatDoor
open Go Go.V Go.RowKit
structure Kept0 (V : VM) (xs2 : List VN) (ss : List Int) (k : Nat) (rs : List RN) : Prop where
  ok : KOk rK RN.n rs V.q2
  mem : ∀ r, r ∈ rs ↔ r ∈ V.rs ∧ (r.n ∈ ss.take k → preG xs2 r.n = true)
theorem Kept0.zero {V : VM} {A : AM} {R : List Int} (h : VI V A R) (xs2 : List VN) (ss : List Int) : Kept0 V xs2 ss 0 V.rs := ⟨h.k, fun r => by simp⟩
theorem Kept0.skip {V : VM} {xs2 : List VN} {ss : List Int} {k : Nat} {rs : List RN} {n : Int} (h : Kept0 V xs2 ss k rs) (hn : ss[k]? = some n) (hp : preG xs2 n = true) : Kept0 V xs2 ss (k + 1) rs := ⟨h.ok, fun r => by
  rw [h.mem r, List.take_add_one, hn]
  constructor
  · rintro ⟨h1, h2⟩
    refine ⟨h1, fun h3 => ?_⟩
    rcases List.mem_append.1 h3 with h3 | h3
    · exact h2 h3
    · rw [show r.n = n by simpa using h3]; exact hp
  · rintro ⟨h1, h2⟩; exact ⟨h1, fun h3 => h2 (List.mem_append_left _ h3)⟩⟩
theorem Kept0.at_ {V : VM} {xs2 : List VN} {ss : List Int} {k : Nat} {rs : List RN} {n : Int} (h : Kept0 V xs2 ss k rs) (hn : ss[k]? = some n) (hs : Asc ss) (hk : ∀ z, z ∈ ss ↔ ∃ r ∈ V.rs, r.n = z) : ∃ (j : Nat) (r : RN), rs[j]? = some r ∧ r.n = n := by
  obtain ⟨r, hr, hrn⟩ := (hk n).1 (List.mem_of_getElem? hn)
  have : r ∈ rs := (h.mem r).2 ⟨hr, fun h3 => by
    have := take_lt hs hn r.n h3
    omega⟩
  obtain ⟨j, hj⟩ := List.mem_iff_getElem?.1 this
  exact ⟨j, r, hj, hrn⟩
structure Rls (V : VM) (h : Int) (V2 : VM) : Prop where
  eq : V2 = VM.mk (V.T.close h) V2.xs V.q V.last V2.rs V.q2 V.cap
  rel : RelQ V.xs (V.T.val h) V2.xs
  sub : ∀ r, r ∈ V2.rs ↔ r ∈ V.rs ∧ preG V2.xs r.n = true
theorem VI.rel {V : VM} {A A2 : AM} {R : List Int} {h : Int} {xs2 : List VN} {rs : List RN} {ss : List Int} (hV : VI V A R) (hn : V.T.s.opn h = true) (hG : GI xs2 V.q V.cap V.last) (hR : RelQ V.xs (V.T.val h) xs2) (hK : Kept0 V xs2 ss ss.length rs) (hk : ∀ z, z ∈ ss ↔ ∃ r ∈ V.rs, r.n = z)
    (hA : ARf A2 (rs.map RN.root ++ R)) : VI (VM.mk (V.T.close h) xs2 V.q V.last rs V.q2 V.cap) A2 R ∧ Rls V h (VM.mk (V.T.close h) xs2 V.q V.last rs V.q2 V.cap) := by
  have hop := SM.opn_ok hn
  have hlv0 := (VM.open_val hV hn).1
  have hsub : ∀ r, r ∈ rs ↔ r ∈ V.rs ∧ preG xs2 r.n = true := fun r => by
    rw [hK.mem r, List.take_of_length_le (Nat.le_refl _)]
    constructor
    · rintro ⟨h1, h2⟩; exact ⟨h1, h2 ((hk r.n).2 ⟨r, h1, rfl⟩)⟩
    · rintro ⟨h1, h2⟩; exact ⟨h1, fun _ => h2⟩
  have hcl : ∀ i : Int, 0 ≤ i → (V.T.close h).s.ok i = if i = h % 4294967296 then false else V.T.s.ok i := fun i hi => SM.release_ok' hV.t.s (by omega) hop.1 hi
  have hlive : ∀ z, liveG xs2 z = true ↔ liveG V.xs z = true ∧ z ≠ V.T.val h := fun z => by
    constructor
    · exact fun hz => RelQ.live hV.g.ok hR hz
    · rintro ⟨h1, h2⟩
      rcases hR with ⟨_, xs1, N, e1, e2, e3⟩ | ⟨h3, _⟩
      · have q1 : liveG xs1 z = true := by
          rw [live_vw, e1]; unfold dead; rw [if_neg h2, ← live_vw]; exact h1
        rw [live_vw, e3]; unfold keep; rw [if_pos ((e2 z).2 (.inl q1))]
        rw [live_vw] at q1
        cases hv : vw xs1 z with
        | none => rw [hv] at q1; cases q1
        | some p => rw [hv] at q1; simpa using q1
      · rw [hlv0] at h3; cases h3
  have hpre : ∀ z, preG xs2 z = true → preG V.xs z = true := fun z hz => by
    rcases hR with ⟨_, xs1, N, e1, e2, e3⟩ | ⟨_, h4⟩
    · rw [pre_vw, e3] at hz
      unfold keep at hz
      split at hz
      · rw [pre_vw]
        rw [← dead_iss (vw V.xs) (V.T.val h) z, ← e1]
        simpa using hz
      · cases hz
    · rw [h4] at hz; exact hz
  refine ⟨⟨hV.t.close hn, hG, hK.ok, fun z => ?_, fun i hi ho => ?_, fun i j hi hj ho ho2 e => ?_, fun z hz => ?_, hA, ?_⟩, ⟨rfl, hR, hsub⟩⟩
  · constructor
    · rintro ⟨r, hr, e⟩; rw [← e]; exact ((hsub r).1 hr).2
    · intro hz
      obtain ⟨r, hr, e⟩ := (hV.pre z).2 (hpre z hz)
      exact ⟨r, (hsub r).2 ⟨hr, by rw [e]; exact hz⟩, e⟩
  · rw [show (VM.mk (V.T.close h) xs2 V.q V.last rs V.q2 V.cap).T.s.ok i = _ from hcl i hi] at ho
    split at ho
    · cases ho
    · rename_i hne
      refine (hlive _).2 ⟨hV.lv i hi ho, fun e => hne ?_⟩
      exact hV.inj i (h % 4294967296) hi (by omega) ho hop.1 e
  · rw [show (VM.mk (V.T.close h) xs2 V.q V.last rs V.q2 V.cap).T.s.ok i = _ from hcl i hi] at ho
    rw [show (VM.mk (V.T.close h) xs2 V.q V.last rs V.q2 V.cap).T.s.ok j = _ from hcl j hj] at ho2
    split at ho
    · cases ho
    · split at ho2
      · cases ho2
      · exact hV.inj i j hi hj ho ho2 e
  · obtain ⟨h1, h2⟩ := (hlive z).1 hz
    obtain ⟨i, i0, i1, i2⟩ := hV.all z h1
    refine ⟨i, i0, ?_, i2⟩
    rw [show (VM.mk (V.T.close h) xs2 V.q V.last rs V.q2 V.cap).T.s.ok i = _ from hcl i i0, if_neg (fun e => h2 ?_)]
    · exact i1
    · rw [← i2, e]; rfl
  · rw [← hV.cp]
    show (((V.T.s.used.set _ _).length : Nat) : Int) - 1 = (V.T.s.used.length : Int) - 1
    rw [List.length_set]
end Go.Proofs.YthcmigbamkohpaaGreatDoor
/-! ## V5 -/
namespace Go.Proofs.YthcmigbamkohpaaGreatDoor
open Go Go.V Go.RowKit
theorem Com.get {V V2 : VM} {root : Int} {ps : List Int} (h : Com V root ps V2) : V2.T = V.T.open (V.last + 1) ∧ V2.last = V.last + 1 ∧ V2.cap = V.cap ∧ AddP V.xs V.cap V.last ps V2.xs (V.last + 1) ∧ V2.xs.length = V.xs.length + 1 ∨ (∃ x ∈ V.xs, V.last < x.n) := by
  obtain ⟨⟨xs2, q, rfl, hA⟩, h0⟩ := h
  by_cases hx : ∃ x ∈ V.xs, V.last < x.n
  · exact .inr hx
  · left
    have hle : ∀ x ∈ V.xs, x.n ≤ V.last := fun x hm => Classical.byContradiction fun h => hx ⟨x, hm, by omega⟩
    exact ⟨rfl, rfl, rfl, hA, ((AddP.facts hle hA).resolve_left fun e => e.1 h0).2.2.2.2.2⟩
structure Add1 (V : VM) (ps : List Int) (V2 : VM) : Prop where
  T : V2.T = V.T.open (V.last + 1)
  la : V2.last = V.last + 1
  cap : V2.cap = V.cap
  xs : AddP V.xs V.cap V.last ps V2.xs (V.last + 1)
  len : V2.xs.length = V.xs.length + 1
  opn : V2.T.s.opn V.T.newH = true
  val : V2.T.val V.T.newH = V.last + 1
  rng : 0 ≤ V.T.newH ∧ V.T.newH ≤ 18446744073709551615
  free : V2.T.s.free = V.T.s.free - 1
  old : ∀ x, V.T.s.opn x = true → V2.T.s.opn x = true ∧ V2.T.val x = V.T.val x
theorem room_new {n : Nat} : (VM.new n).room = n := by
  unfold VM.room
  show min ((n : Int) - 0) ((n : Int) - ((SM.new n).cap - (SM.new n).free)) = n
  rw [SM.new_free]
  have : (SM.new n).cap = n := by unfold SM.cap SM.new; simp
  rw [this]; omega
set_option maxRecDepth 8192 in
theorem vs_arena {g w : World} {L : List HP} (s a : Nat) (V : VM) (hS : St g (Vst s a V :: L) w) :
    Sp Tryz.prog 131 [.pointer (some ⟨s, 0, none⟩)] w (fun v w' => v = .pointer (some ⟨a, 0, none⟩) ∧ St g (Vst s a V :: L) w') := by
  refine Sp.enter Tryz.func131 rfl (by kernel_rfl) (by kernel_rfl) ?_
  refine WC.seq ?_
  refine WC.region ?_
  obtain ⟨⟨vt, vp, vm, vr⟩, hS⟩ := St.exOpen (f := vstF s a V) hS
  replace hS : St g (cel s #[.pointer (some ⟨a, 0, none⟩), .pointer (some ⟨vt, 0, none⟩), .pointer (some ⟨vp, 0, none⟩), .map (some vr), .int .i64 V.cap] 127 :: Tbl vt V.T :: cel vp #[.int .i64 V.cap, .int .i64 V.last, .map (some vm)] 216 :: blk vm (.map (mE (List.map vK V.xs)) V.q) :: Shs vF V.xs :: blk vr (.map (mE (List.map rK V.rs)) V.q2) :: L) w := hS
  refine WL.r 1 rfl ?_
  refine WL.nil ?_
  refine WC.seq ?_
  refine WC.region ?_
  refine WL.run 5 [.pointer (some ⟨a, 0, none⟩)] rfl (by exact hS.ld 0 rfl rfl) ?_
  refine WL.nil ?_
  refine WC.ret ?_
  replace hS := St.exClose (f := vstF s a V) (L := L) ⟨vt, vp, vm, vr⟩ (hS)
  replace hS : St g (Vst s a V :: L) w := hS
  refine ⟨[.pointer (some ⟨a, 0, none⟩)], rfl, ?_⟩
  exact ⟨rfl, hS⟩
end Go.Proofs.YthcmigbamkohpaaGreatDoor
/-! ## Stb -/
namespace Go.V
open Go Go.RowKit Go.Maps
structure StoA where
  nm : Nat
  c : Nat
  x : Nat
  m : Nat
def stoF (p s a : Nat) (V : VM) (y : StoA) : List HP := [cel p #[.pointer (some ⟨s, 0, none⟩), .pointer (some ⟨y.nm, 0, none⟩), .pointer (some ⟨y.c, 0, none⟩), .pointer (some ⟨y.x, 0, none⟩), .map (some y.m)] 102, Vst s a V, blk y.m (.map (mE []) 0)]
def Sto (p s a : Nat) (V : VM) : HP := ExB (stoF p s a V)
end Go.V
/-! ## Sc1 -/
namespace Go.Proofs.YthcmigbamkohpaaGreatDoor
open Go Go.V Go.RowKit Go.Maps
set_option maxRecDepth 8192 in
theorem nm_new0 {g w : World} {L : List HP} (hS : St g (L) w) :
    Sp Tryz.prog 41 [] w (fun v w' => ∃ (t : Nat), v = .pointer (some ⟨t, 0, none⟩) ∧ St g (L) w') := by
  refine Sp.enter Tryz.func41 rfl (by kernel_rfl) (by kernel_rfl) ?_
  refine WC.seq ?_
  refine WC.region ?_
  refine WL.r 1 rfl ?_
  refine WL.nil ?_
  refine WC.seq ?_
  refine WC.region ?_
  refine WL.mkM rfl rfl hS (fun b1 w hS => ?_)
  refine WL.build rfl rfl (cs := [.map (some b1)]) zv_136 rfl rfl ?_
  refine WL.box rfl rfl #[.map (some b1)] hS rfl rfl (fun b2 w hS => ?_)
  refine WL.r 1 rfl ?_
  refine WL.nil ?_
  refine WC.ret ?_
  refine ⟨[.pointer (some ⟨b2, 0, none⟩)], rfl, ?_⟩
  replace hS := (hS.sel 2 [] rfl)
  exact ⟨_, rfl, hS⟩
def CfgOk (sl cv cc cx : Int) : Prop := (1 ≤ sl ∧ sl ≤ 65536) ∧ (1 ≤ cv ∧ cv ≤ 4096) ∧ (1 ≤ cc ∧ cc ≤ 4096) ∧ (1 ≤ cx ∧ cx ≤ 4096)
instance (sl cv cc cx : Int) : Decidable (CfgOk sl cv cc cx) := by unfold CfgOk; infer_instance
set_option maxRecDepth 8192 in
theorem st_new_ok {g w : World} {L : List HP} (sl cv cc cx : Int) (hc : CfgOk sl cv cc cx) (hS : St g (L) w) :
    Sp Tryz.prog 19 [.agg #[.int .i64 sl, .int .i64 cv, .int .i64 cc, .int .i64 cx]] w (fun v w' => ∃ (p s a : Nat), v = .tuple #[.pointer (some ⟨p, 0, none⟩), .int .i64 0] ∧ St g (Sto p s a (VM.new cv.toNat) :: Arn a (AM.new sl.toNat) :: L) w') := by
  refine Sp.enter Tryz.func19 rfl (by kernel_rfl) (by kernel_rfl) ?_
  refine WC.seq ?_
  refine WC.region ?_
  refine WL.box rfl rfl #[.int .i64 sl, .int .i64 cv, .int .i64 cc, .int .i64 cx] hS rfl rfl (fun b1 w hS => ?_)
  refine WL.r 2 rfl ?_
  refine WL.nil ?_
  refine WC.seq ?_
  refine WC.region ?_
  obtain ⟨h1, h2, h3, h4⟩ := hc
  refine WL.run 4 [.int .i64 sl, .int .i64 cv] rfl (by exact ⟨hS.ld 0 rfl rfl, hS.ld 0 rfl rfl⟩) ?_
  refine WL.call rfl rfl (vs_new_ok (sl := sl) (cap := cv) (hc := h2) (hs := h1) (hS := hS)) rfl ?_
  clear hS; rintro _ w ⟨s1, a1, rfl, hS⟩
  replace hS : St g (Vst s1 a1 (VM.new cv.toNat) :: Arn a1 (AM.new sl.toNat) :: cel b1 #[.int .i64 sl, .int .i64 cv, .int .i64 cc, .int .i64 cx] 43 :: L) w := hS
  refine WL.r 5 rfl ?_
  refine WL.nil ?_
  refine WC.seq ?_
  refine WC.seq ?_
  refine WC.region ?_
  refine WL.r 2 rfl ?_
  refine WL.nil ?_
  refine WC.ifF rfl (decide_eq_false ((by decide))) ?_
  refine WC.skip ?_
  refine WC.seq ?_
  refine WC.region ?_
  refine WL.run 2 [.int .i64 cc] rfl (by exact hS.ld 2 rfl rfl) ?_
  refine WL.call rfl rfl (tb_new_ok (cap := cc) (hc := h3) (hS := hS)) rfl ?_
  clear hS; rintro _ w ⟨t1, rfl, hS⟩
  replace hS : St g (Tbl t1 (TM.new cc.toNat) :: Vst s1 a1 (VM.new cv.toNat) :: Arn a1 (AM.new sl.toNat) :: cel b1 #[.int .i64 sl, .int .i64 cv, .int .i64 cc, .int .i64 cx] 43 :: L) w := hS
  refine WL.r 5 rfl ?_
  refine WL.nil ?_
  as_aux_lemma =>
    refine WC.seq ?_
    refine WC.seq ?_
    refine WC.region ?_
    refine WL.r 2 rfl ?_
    refine WL.nil ?_
    refine WC.ifF rfl (decide_eq_false ((by decide))) ?_
    refine WC.skip ?_
    refine WC.seq ?_
    refine WC.region ?_
    refine WL.run 2 [.int .i64 cx] rfl (by exact hS.ld 3 rfl rfl) ?_
    refine WL.call rfl rfl (tb_new_ok (cap := cx) (hc := h4) (hS := hS)) rfl ?_
    clear hS; rintro _ w ⟨t2, rfl, hS⟩
    replace hS : St g (Tbl t2 (TM.new cx.toNat) :: Tbl t1 (TM.new cc.toNat) :: Vst s1 a1 (VM.new cv.toNat) :: Arn a1 (AM.new sl.toNat) :: cel b1 #[.int .i64 sl, .int .i64 cv, .int .i64 cc, .int .i64 cx] 43 :: L) w := hS
    refine WL.r 5 rfl ?_
    refine WL.nil ?_
    refine WC.seq ?_
    refine WC.seq ?_
    refine WC.region ?_
    refine WL.r 2 rfl ?_
    refine WL.nil ?_
    refine WC.ifF rfl (decide_eq_false ((by decide))) ?_
    refine WC.skip ?_
    refine WC.seq ?_
    refine WC.region ?_
    refine WL.r 1 rfl ?_
    refine WL.call rfl rfl (nm_new0   (hS := hS)) rfl ?_
    clear hS; rintro _ w ⟨t3, rfl, hS⟩
    replace hS : St g (Tbl t2 (TM.new cx.toNat) :: Tbl t1 (TM.new cc.toNat) :: Vst s1 a1 (VM.new cv.toNat) :: Arn a1 (AM.new sl.toNat) :: cel b1 #[.int .i64 sl, .int .i64 cv, .int .i64 cc, .int .i64 cx] 43 :: L) w := hS
    refine WL.r 2 rfl ?_
    refine WL.mkM rfl rfl hS (fun b2 w hS => ?_)
    refine WL.build rfl rfl (cs := [.pointer (some ⟨s1, 0, none⟩), .pointer (some ⟨t3, 0, none⟩), .pointer (some ⟨t1, 0, none⟩), .pointer (some ⟨t2, 0, none⟩), .map (some b2)]) zv_102 rfl rfl ?_
    refine WL.box rfl rfl #[.pointer (some ⟨s1, 0, none⟩), .pointer (some ⟨t3, 0, none⟩), .pointer (some ⟨t1, 0, none⟩), .pointer (some ⟨t2, 0, none⟩), .map (some b2)] hS rfl rfl (fun b3 w hS => ?_)
    refine WL.r 2 rfl ?_
    refine WL.nil ?_
    as_aux_lemma =>
      refine WC.ret ?_
      replace hS := St.exClose (f := stoF b3 s1 a1 (VM.new cv.toNat)) (L := Tbl t2 (TM.new cx.toNat) :: Tbl t1 (TM.new cc.toNat) :: Arn a1 (AM.new sl.toNat) :: cel b1 #[.int .i64 sl, .int .i64 cv, .int .i64 cc, .int .i64 cx] 43 :: L) ⟨t3, t1, t2, b2⟩ ((hS.sel 5 [0, 3, 0, 0, 0] rfl))
      replace hS : St g (Sto b3 s1 a1 (VM.new cv.toNat) :: Tbl t2 (TM.new cx.toNat) :: Tbl t1 (TM.new cc.toNat) :: Arn a1 (AM.new sl.toNat) :: cel b1 #[.int .i64 sl, .int .i64 cv, .int .i64 cc, .int .i64 cx] 43 :: L) w := hS
      refine ⟨[.pointer (some ⟨b3, 0, none⟩), .int .i64 0], ⟨rfl, rfl⟩, ?_⟩
      replace hS := (hS.sel 5 [0, 2] rfl)
      exact ⟨_, _, _, rfl, hS⟩
set_option maxRecDepth 8192 in
theorem st_arena {g w : World} {L : List HP} (p s a : Nat) (V : VM) (hS : St g (Sto p s a V :: L) w) :
    Sp Tryz.prog 72 [.pointer (some ⟨p, 0, none⟩)] w (fun v w' => v = .pointer (some ⟨a, 0, none⟩) ∧ St g (Sto p s a V :: L) w') := by
  refine Sp.enter Tryz.func72 rfl (by kernel_rfl) (by kernel_rfl) ?_
  refine WC.seq ?_
  refine WC.region ?_
  obtain ⟨⟨nm, c, x, m⟩, hS⟩ := St.exOpen (f := stoF p s a V) hS
  replace hS : St g (cel p #[.pointer (some ⟨s, 0, none⟩), .pointer (some ⟨nm, 0, none⟩), .pointer (some ⟨c, 0, none⟩), .pointer (some ⟨x, 0, none⟩), .map (some m)] 102 :: Vst s a V :: blk m (.map (mE []) 0) :: L) w := hS
  refine WL.r 1 rfl ?_
  refine WL.nil ?_
  refine WC.seq ?_
  refine WC.region ?_
  refine WL.run 4 [.pointer (some ⟨s, 0, none⟩)] rfl (by exact hS.ld 0 rfl rfl) ?_
  refine WL.call rfl rfl (vs_arena (s := s) (a := a) (V := V)  (hS := (hS.sel 2 [1, 0] rfl))) rfl ?_
  clear hS; rintro _ w ⟨rfl, hS⟩
  replace hS : St g (Vst s a V :: cel p #[.pointer (some ⟨s, 0, none⟩), .pointer (some ⟨nm, 0, none⟩), .pointer (some ⟨c, 0, none⟩), .pointer (some ⟨x, 0, none⟩), .map (some m)] 102 :: blk m (.map (mE []) 0) :: L) w := hS
  refine WL.r 1 rfl ?_
  refine WL.nil ?_
  refine WC.ret ?_
  replace hS := St.exClose (f := stoF p s a V) (L := L) ⟨nm, c, x, m⟩ ((hS.sel 2 [1, 0] rfl))
  replace hS : St g (Sto p s a V :: L) w := hS
  refine ⟨[.pointer (some ⟨a, 0, none⟩)], rfl, ?_⟩
  exact ⟨rfl, hS⟩
end Go.Proofs.YthcmigbamkohpaaGreatDoor
/-! ## Opm -/
namespace Go.V
open Go
def varint (u : Nat) : List Int := if u < 128 then [(u : Int)] else ((u : Int) % 128 + 128) :: varint (u / 128)
termination_by u
decreasing_by omega
theorem varint_lt {u : Nat} (h : u < 128) : varint u = [(u : Int)] := by rw [varint, if_pos h]
theorem varint_ge {u : Nat} (h : ¬ u < 128) : varint u = ((u : Int) % 128 + 128) :: varint (u / 128) := by rw [varint, if_neg h]
theorem varint_len (k : Nat) : ∀ u : Nat, u < 128 ^ k → 0 < k → (varint u).length ≤ k := by
  induction k with
  | zero => intro u _ h; omega
  | succ k ih =>
    intro u hu _
    by_cases h : u < 128
    · rw [varint_lt h]; simp
    · rw [varint_ge h]
      have h2 : u / 128 < 128 ^ k := by rw [Nat.pow_succ] at hu; omega
      have h3 : 0 < k := by
        rcases Nat.eq_zero_or_pos k with rfl | h'
        · simp at h2; omega
        · exact h'
      have := ih (u / 128) h2 h3
      simp only [List.length_cons]; omega
theorem varint_B8 (u : Nat) : B8 (varint u) := by
  induction u using Nat.strongRecOn with
  | _ u ih =>
    intro x hx
    by_cases h : u < 128
    · rw [varint_lt h] at hx; simp at hx; omega
    · rw [varint_ge h] at hx
      rcases List.mem_cons.1 hx with rfl | hx
      · omega
      · exact ih _ (by omega) x hx
def uvGo : Nat → Int → List Int → Int × Nat × Int
  | _, _, [] => (0, 0, 12)
  | i, u, c :: r => if (i = 9 ∧ 1 < c) ∨ (0 < i ∧ c = 0) then (0, 0, 13) else if c < 128 then (u + c * 128 ^ i, i + 1, 0) else uvGo (i + 1) (u + (c - 128) * 128 ^ i) r
def uv (l : List Int) : Int × Nat × Int := uvGo 0 0 l
theorem uvGo_nil (i : Nat) (u : Int) : uvGo i u [] = (0, 0, 12) := rfl
theorem uvGo_bad {i : Nat} {u c : Int} {r : List Int} (h : (i = 9 ∧ 1 < c) ∨ (0 < i ∧ c = 0)) : uvGo i u (c :: r) = (0, 0, 13) := by rw [uvGo, if_pos h]
theorem uvGo_end {i : Nat} {u c : Int} {r : List Int} (h : ¬ ((i = 9 ∧ 1 < c) ∨ (0 < i ∧ c = 0))) (hc : c < 128) : uvGo i u (c :: r) = (u + c * 128 ^ i, i + 1, 0) := by rw [uvGo, if_neg h, if_pos hc]
theorem uvGo_go {i : Nat} {u c : Int} {r : List Int} (h : ¬ ((i = 9 ∧ 1 < c) ∨ (0 < i ∧ c = 0))) (hc : ¬ c < 128) : uvGo i u (c :: r) = uvGo (i + 1) (u + (c - 128) * 128 ^ i) r := by rw [uvGo, if_neg h, if_neg hc]
theorem p128 (i : Nat) : (128 : Int) ^ (i + 1) = 128 * 128 ^ i := by rw [Int.pow_succ, Int.mul_comm]
def UvB (i : Nat) (u : Int) : Prop := i ≤ 9 ∧ 0 ≤ u ∧ u < 128 ^ i
theorem UvB.start : UvB 0 0 := ⟨by omega, by omega, by simp⟩
theorem UvB.next {i : Nat} {u c : Int} (h : UvB i u) (hb : ¬ ((i = 9 ∧ 1 < c) ∨ (0 < i ∧ c = 0))) (hc : ¬ c < 128) (h8 : c ≤ 255) : UvB (i + 1) (u + (c - 128) * 128 ^ i) := by
  obtain ⟨h1, h2, h3⟩ := h
  have hp : (0 : Int) < 128 ^ i := Int.pow_pos (by decide)
  have h9 : i ≠ 9 := fun e => hb (.inl ⟨e, by omega⟩)
  refine ⟨by omega, ?_, ?_⟩
  · have := Int.mul_nonneg (show 0 ≤ c - 128 by omega) (Int.le_of_lt hp); omega
  · rw [p128]
    have := Int.mul_le_mul_of_nonneg_right (show c - 128 ≤ 127 by omega) (Int.le_of_lt hp)
    omega
theorem p128_9 : (128 : Int) ^ 9 = 9223372036854775808 := by decide
theorem p128_le {i : Nat} (h : i ≤ 8) : (128 : Int) ^ i * 128 ≤ 9223372036854775808 := by
  have : i = 0 ∨ i = 1 ∨ i = 2 ∨ i = 3 ∨ i = 4 ∨ i = 5 ∨ i = 6 ∨ i = 7 ∨ i = 8 := by omega
  rcases this with rfl | rfl | rfl | rfl | rfl | rfl | rfl | rfl | rfl <;> decide
theorem UvB.fits {i : Nat} {u c : Int} (h : UvB i u) (hb : ¬ ((i = 9 ∧ 1 < c) ∨ (0 < i ∧ c = 0))) (h0 : 0 ≤ c) (h8 : c ≤ 255) : 0 ≤ c % 128 * 128 ^ i ∧ u + c % 128 * 128 ^ i < 2 ^ 64 := by
  obtain ⟨h1, h2, h3⟩ := h
  have hp : (0 : Int) < 128 ^ i := Int.pow_pos (by decide)
  have hm : 0 ≤ c % 128 := by omega
  refine ⟨Int.mul_nonneg hm (Int.le_of_lt hp), ?_⟩
  by_cases h9 : i = 9
  · subst h9
    have hc : c ≤ 1 := by
      by_cases h : 1 < c
      · exact absurd (.inl ⟨rfl, h⟩) hb
      · omega
    rw [p128_9] at *
    have : c % 128 = c := by omega
    rw [this]
    have h5 : c = 0 ∨ c = 1 := by omega
    rcases h5 with rfl | rfl <;> omega
  · have h4 := p128_le (show i ≤ 8 by omega)
    have h5 := Int.mul_le_mul_of_nonneg_right (show c % 128 ≤ 127 by omega) (Int.le_of_lt hp)
    omega
theorem p2_128 {i : Nat} (h : i ≤ 9) : p2 .u64 (7 * i) = 128 ^ i := by
  have : i = 0 ∨ i = 1 ∨ i = 2 ∨ i = 3 ∨ i = 4 ∨ i = 5 ∨ i = 6 ∨ i = 7 ∨ i = 8 ∨ i = 9 := by omega
  rcases this with rfl | rfl | rfl | rfl | rfl | rfl | rfl | rfl | rfl | rfl <;> decide
theorem p128_2 (i : Nat) : (128 : Int) ^ i = 2 ^ (7 * i) := by
  rw [Int.pow_mul]; rfl
theorem uv_step {i : Nat} {u c : Int} (h : UvB i u) (hb : ¬ ((i = 9 ∧ 1 < c) ∨ (0 < i ∧ c = 0))) (h0 : 0 ≤ c) (h8 : c ≤ 255) : bts .or .u64 u (IntKind.u64.wrap (c % 128 * p2 .u64 (7 * i))) = u + c % 128 * 128 ^ i := by
  obtain ⟨f1, f2⟩ := h.fits hb h0 h8
  obtain ⟨h1, h2, h3⟩ := h
  rw [p2_128 h1, wu64 (by omega)]
  rw [p128_2] at h3 f2 ⊢
  exact or_shift h2 h3 (by omega) f2
theorem uvGo_len : ∀ (l : List Int) (i : Nat) (u : Int), (uvGo i u l).2.2 = 0 → i < (uvGo i u l).2.1 ∧ (uvGo i u l).2.1 ≤ i + l.length
  | [], i, u, h => by simp [uvGo] at h
  | c :: r, i, u, h => by
    by_cases hb : (i = 9 ∧ 1 < c) ∨ (0 < i ∧ c = 0)
    · rw [uvGo_bad hb] at h; simp at h
    · by_cases hc : c < 128
      · rw [uvGo_end hb hc]; simp
      · rw [uvGo_go hb hc] at h ⊢
        have := uvGo_len r _ _ h
        simp only [List.length_cons]; omega
theorem uvGo_bd : ∀ (l : List Int) (i : Nat) (u : Int), B8 l → UvB i u → 0 ≤ (uvGo i u l).1 ∧ (uvGo i u l).1 ≤ 18446744073709551615
  | [], i, u, _, _ => by simp [uvGo]
  | c :: r, i, u, hl, hu => by
    have hc8 := hl c (by simp)
    by_cases hb : (i = 9 ∧ 1 < c) ∨ (0 < i ∧ c = 0)
    · rw [uvGo_bad hb]; simp
    · by_cases hc : c < 128
      · rw [uvGo_end hb hc]
        have := hu.fits hb hc8.1 hc8.2
        rw [show c % 128 = c by omega] at this
        have := hu.2.1
        simp only; omega
      · rw [uvGo_go hb hc]; exact uvGo_bd r _ _ (fun x hx => hl x (by simp [hx])) (hu.next hb hc hc8.2)
end Go.V
/-! ## Rdm -/
namespace Go.V
open Go
def fl (e e2 : Int) : Int := if e = 0 then e2 else e
def rU (bs : List Int) (p : Nat) (e : Int) : Int × Nat × Int :=
  if e ≠ 0 then (0, p, e) else if (uv (bs.drop p)).2.2 = 0 then ((uv (bs.drop p)).1, p + (uv (bs.drop p)).2.1, 0) else (0, p, (uv (bs.drop p)).2.2)
def rZ (bs : List Int) (p : Nat) (e : Int) : Int × Nat × Int := (uz (rU bs p e).1, (rU bs p e).2)
def rB (bs : List Int) (p : Nat) (e : Int) : Int × Nat × Int := if e ≠ 0 then (0, p, e) else match bs[p]? with | none => (0, p, 12) | some c => (c, p + 1, 0)
def rBool (bs : List Int) (p : Nat) (e : Int) : Bool × Nat × Int := (decide ((rB bs p e).1 = 1), (rB bs p e).2.1, if 1 < (rB bs p e).1 then fl (rB bs p e).2.2 13 else (rB bs p e).2.2)
def rLim (bs : List Int) (lim : Int) (p : Nat) (e : Int) : Int × Nat × Int := if lim < (rU bs p e).1 then (0, (rU bs p e).2.1, fl (rU bs p e).2.2 13) else rU bs p e
def rLeft (bs : List Int) (r : Int × Nat × Int) : Int × Nat × Int := if (bs.length : Int) - r.2.1 < r.1 then (0, r.2.1, fl r.2.2 12) else r
def rCnt (bs : List Int) (p : Nat) (e : Int) : Int × Nat × Int := rLeft bs (rU bs p e)
def rBytes (bs : List Int) (n : Nat) (p : Nat) (e : Int) : List Int × Nat × Int :=
  if bs.length - p < n then ([], p, fl e 12) else if e ≠ 0 ∨ n = 0 then ([], p, e) else ((bs.drop p).take n, p + n, e)
def rEnts (bs : List Int) : Nat → Nat → Int → List (Int × Int) × Nat × Int
  | 0, p, e => ([], p, e)
  | n + 1, p, e => if e ≠ 0 then ([], p, e) else
    let k := rZ bs p e
    let v := rZ bs k.2.1 k.2.2
    let r := rEnts bs n v.2.1 v.2.2
    ((k.1, v.1) :: r.1, r.2)
def rChs (bs : List Int) : Nat → Nat → Int → List (Int × Int × Int × Int) × Nat × Int
  | 0, p, e => ([], p, e)
  | n + 1, p, e => if e ≠ 0 then ([], p, e) else
    let c := rB bs p e
    let k := rZ bs c.2.1 c.2.2
    let u := rZ bs k.2.1 k.2.2
    let v := rZ bs u.2.1 u.2.2
    let r := rChs bs n v.2.1 v.2.2
    ((c.1, k.1, u.1, v.1) :: r.1, r.2)
def rInts (bs : List Int) : Nat → Nat → Int → List Int × Nat × Int
  | 0, p, e => ([], p, e)
  | n + 1, p, e => if e ≠ 0 then ([], p, e) else
    let k := rZ bs p e
    let r := rInts bs n k.2.1 k.2.2
    (k.1 :: r.1, r.2)
section
variable {bs : List Int} {p : Nat} {e : Int}
theorem rU_p (h : p ≤ bs.length) : p ≤ (rU bs p e).2.1 ∧ (rU bs p e).2.1 ≤ bs.length := by
  unfold rU
  split
  · exact ⟨Nat.le_refl _, h⟩
  · split
    · rename_i h0
      have := uvGo_len (bs.drop p) 0 0 h0
      simp only [List.length_drop] at this
      unfold uv
      simp only; omega
    · exact ⟨Nat.le_refl _, h⟩
theorem rU_b (hb : B8 bs) : 0 ≤ (rU bs p e).1 ∧ (rU bs p e).1 ≤ 18446744073709551615 := by
  unfold rU
  split
  · simp
  · split
    · exact uvGo_bd _ 0 0 (fun x hx => hb x (List.mem_of_mem_drop hx)) UvB.start
    · simp
theorem rZ_p (h : p ≤ bs.length) : p ≤ (rZ bs p e).2.1 ∧ (rZ bs p e).2.1 ≤ bs.length := rU_p h
theorem rB_p (h : p ≤ bs.length) : p ≤ (rB bs p e).2.1 ∧ (rB bs p e).2.1 ≤ bs.length := by
  unfold rB
  split
  · exact ⟨Nat.le_refl _, h⟩
  · split
    · exact ⟨Nat.le_refl _, h⟩
    · rename_i hc; have := (List.getElem?_eq_some_iff.1 hc).1; simp only; omega
theorem rB_b (hb : B8 bs) : 0 ≤ (rB bs p e).1 ∧ (rB bs p e).1 ≤ 255 := by
  unfold rB
  split
  · simp
  · split
    · simp
    · rename_i hc; exact hb _ (List.mem_of_getElem? hc)
theorem rLim_p {lim : Int} (h : p ≤ bs.length) : p ≤ (rLim bs lim p e).2.1 ∧ (rLim bs lim p e).2.1 ≤ bs.length := by
  unfold rLim; split <;> exact rU_p h
theorem rLim_b {lim : Int} (hb : B8 bs) (hl : 0 ≤ lim) : 0 ≤ (rLim bs lim p e).1 ∧ (rLim bs lim p e).1 ≤ lim := by
  unfold rLim
  split
  · simp [hl]
  · have := (rU_b (p := p) (e := e) hb).1; omega
theorem rLeft_p {r : Int × Nat × Int} (h : p ≤ r.2.1 ∧ r.2.1 ≤ bs.length) : p ≤ (rLeft bs r).2.1 ∧ (rLeft bs r).2.1 ≤ bs.length := by
  unfold rLeft; split <;> exact h
theorem rLeft_b {r : Int × Nat × Int} (h0 : 0 ≤ r.1) (hp : r.2.1 ≤ bs.length) : 0 ≤ (rLeft bs r).1 ∧ (rLeft bs r).1 + (rLeft bs r).2.1 ≤ bs.length := by
  unfold rLeft
  split
  · simp only; omega
  · omega
theorem rBytes_p {n : Nat} (h : p ≤ bs.length) : p ≤ (rBytes bs n p e).2.1 ∧ (rBytes bs n p e).2.1 ≤ bs.length := by
  unfold rBytes; split
  · exact ⟨Nat.le_refl _, h⟩
  · split
    · exact ⟨Nat.le_refl _, h⟩
    · simp only; omega
theorem rCnt_b (hb : B8 bs) (h : p ≤ bs.length) : 0 ≤ (rCnt bs p e).1 ∧ (rCnt bs p e).1 + (rCnt bs p e).2.1 ≤ bs.length := rLeft_b (rU_b hb).1 (rU_p h).2
theorem rEnts_p : ∀ (n p : Nat) (e : Int), p ≤ bs.length → (rEnts bs n p e).2.1 ≤ bs.length ∧ (rEnts bs n p e).1.length ≤ n
  | 0, p, e, h => ⟨h, Nat.le_refl _⟩
  | n + 1, p, e, h => by
    unfold rEnts
    split
    · exact ⟨h, Nat.zero_le _⟩
    · have := rEnts_p n _ (rZ bs (rZ bs p e).2.1 (rZ bs p e).2.2).2.2 (rZ_p (e := (rZ bs p e).2.2) (rZ_p (e := e) h).2).2
      exact ⟨this.1, by simp only [List.length_cons]; omega⟩
theorem rChs_p : ∀ (n p : Nat) (e : Int), p ≤ bs.length → (rChs bs n p e).2.1 ≤ bs.length ∧ (rChs bs n p e).1.length ≤ n
  | 0, p, e, h => ⟨h, Nat.le_refl _⟩
  | n + 1, p, e, h => by
    unfold rChs
    split
    · exact ⟨h, Nat.zero_le _⟩
    · have h1 := (rB_p (e := e) h).2
      have h2 := (rZ_p (e := (rB bs p e).2.2) h1).2
      have h3 := (rZ_p (e := (rZ bs (rB bs p e).2.1 (rB bs p e).2.2).2.2) h2).2
      have h4 := (rZ_p (e := (rZ bs (rZ bs (rB bs p e).2.1 (rB bs p e).2.2).2.1 (rZ bs (rB bs p e).2.1 (rB bs p e).2.2).2.2).2.2) h3).2
      have := rChs_p n _ (rZ bs (rZ bs (rZ bs (rB bs p e).2.1 (rB bs p e).2.2).2.1 (rZ bs (rB bs p e).2.1 (rB bs p e).2.2).2.2).2.1 (rZ bs (rZ bs (rB bs p e).2.1 (rB bs p e).2.2).2.1 (rZ bs (rB bs p e).2.1 (rB bs p e).2.2).2.2).2.2).2.2 h4
      exact ⟨this.1, by simp only [List.length_cons]; omega⟩
theorem rBytes_len {n : Nat} : (rBytes bs n p e).1.length ≤ bs.length := by
  unfold rBytes; split
  · exact Nat.zero_le _
  · split
    · exact Nat.zero_le _
    · simp only [List.length_take, List.length_drop]; omega
theorem rBytes_B8 {n : Nat} (hb : B8 bs) : B8 (rBytes bs n p e).1 := by
  unfold rBytes; split
  · intro _ h; cases h
  · split
    · intro _ h; cases h
    · intro x hx; exact hb x (List.mem_of_mem_drop (List.mem_of_mem_take hx))
theorem rEnts_le {n : Nat} (h : p ≤ bs.length) : (rEnts bs n p e).2.1 ≤ bs.length := (rEnts_p n p e h).1
theorem rChs_le {n : Nat} (h : p ≤ bs.length) : (rChs bs n p e).2.1 ≤ bs.length := (rChs_p n p e h).1
theorem rEnts_0 {n : Nat} (h : e ≠ 0) : rEnts bs n p e = ([], p, e) := by cases n <;> simp [rEnts, h]
theorem rChs_0 {n : Nat} (h : e ≠ 0) : rChs bs n p e = ([], p, e) := by cases n <;> simp [rChs, h]
theorem rInts_0 {n : Nat} (h : e ≠ 0) : rInts bs n p e = ([], p, e) := by cases n <;> simp [rInts, h]
theorem rU_le (h : p ≤ bs.length) : (rU bs p e).2.1 ≤ bs.length := (rU_p h).2
theorem rZ_le (h : p ≤ bs.length) : (rZ bs p e).2.1 ≤ bs.length := (rZ_p h).2
theorem rB_le (h : p ≤ bs.length) : (rB bs p e).2.1 ≤ bs.length := (rB_p h).2
theorem rBool_le (h : p ≤ bs.length) : (rBool bs p e).2.1 ≤ bs.length := (rB_p h).2
theorem rLim_le {lim : Int} (h : p ≤ bs.length) : (rLim bs lim p e).2.1 ≤ bs.length := (rLim_p h).2
theorem rCnt_le (h : p ≤ bs.length) : (rCnt bs p e).2.1 ≤ bs.length := (rLeft_p (rU_p h)).2
theorem rBytes_le {n : Nat} (h : p ≤ bs.length) : (rBytes bs n p e).2.1 ≤ bs.length := (rBytes_p h).2
end
end Go.V
/-! ## Opx -/
namespace Go.V
open Go
structure OpM where
  code : Int
  a : Int
  b : Int
  key : Int
  val : Int
  lo : Int
  hi : Int
  n : Int
  flag : Bool
  name : ByteArray
  bytes : List Int
  ents : List (Int × Int)
  chs : List (Int × Int × Int × Int)
def tbl : List (List Int) := [[], [], [65, 75], [65, 75, 86], [65, 75], [65, 75, 86], [65, 67], [69], [65], [65], [65, 66, 78], [65, 66, 78, 86], [65, 76, 72, 78], [65, 66], [65, 66], [65, 75, 78], [65, 75], [65, 78], [65, 76, 72], [65, 76, 72, 78], [65, 76, 72, 78, 70, 89], [65, 76, 72], [65, 75, 78], [65], [65, 66, 83], [83], [65], [65, 75], [65, 76, 72], [65, 75, 86], [65, 75], [65, 66], [65], [65, 66], [66, 89], []]
def fs (c : Int) : List Int := tbl.getD c.toNat []
def isOp (c : Int) : Bool := decide (1 ≤ c ∧ c ≤ 35)
theorem fs_none {c : Int} (h : ¬ (1 ≤ c ∧ c ≤ 35)) : fs c = [] := by
  unfold fs
  rcases Int.lt_or_le c 1 with h1 | h1
  · have : c.toNat = 0 := by omega
    rw [this]; rfl
  · rw [List.getD_eq_getElem?_getD, List.getElem?_eq_none (by show 36 ≤ c.toNat; omega)]; rfl
theorem fs_all {q : List Int → Prop} (h : ∀ l ∈ tbl, q l) (c : Int) : q (fs c) := by
  unfold fs
  rw [List.getD_eq_getElem?_getD]
  cases hx : tbl[c.toNat]? with
  | none => exact h [] (by decide)
  | some l => exact h l (List.mem_of_getElem? hx)
theorem fs_as (c : Int) : As7 (fs c) := fs_all (by unfold As7; decide) c
def Ltr (f : Int) : Prop := f = 65 ∨ f = 66 ∨ f = 75 ∨ f = 86 ∨ f = 76 ∨ f = 72 ∨ f = 78 ∨ f = 70 ∨ f = 83 ∨ f = 89 ∨ f = 69 ∨ f = 67
def op0 (c : Int) : OpM := { code := c, a := 0, b := 0, key := 0, val := 0, lo := 0, hi := 0, n := 0, flag := false, name := ⟨#[]⟩, bytes := [], ents := [], chs := [] }
theorem drop_getD {l : List Int} {k : Nat} (h : k < l.length) : l.drop k = l.getD k 0 :: l.drop (k + 1) := by
  rw [List.drop_eq_getElem_cons h, List.getD_eq_getElem?_getD, List.getElem?_eq_getElem h]; rfl
theorem getD_some {l : List Int} {k : Nat} (h : k < l.length) : l[k]? = some (l.getD k 0) := by
  rw [List.getD_eq_getElem?_getD, List.getElem?_eq_getElem h]; rfl
def eU (u : Int) : List Int := varint u.toNat
theorem eU_len {u : Int} (h : u ≤ 18446744073709551615) : (eU u).length ≤ 10 := varint_len 10 _ (by omega) (by omega)
def eZ (n : Int) : List Int := varint (zz n).toNat
def eF (b : Bool) : List Int := [if b then 1 else 0]
def eBytes (l : List Int) : List Int := eU l.length ++ l
def eEnts (l : List (Int × Int)) : List Int := eU l.length ++ l.flatMap fun x => eZ x.1 ++ eZ x.2
def eChs (l : List (Int × Int × Int × Int)) : List Int := eU l.length ++ l.flatMap fun x => x.1 % 256 :: (eZ x.2.1 ++ eZ x.2.2.1 ++ eZ x.2.2.2)
def I64 (n : Int) : Prop := -9223372036854775808 ≤ n ∧ n ≤ 9223372036854775807
def I64s (l : List Int) : Prop := ∀ x ∈ l, I64 x
def En64 (l : List (Int × Int)) : Prop := ∀ x ∈ l, I64 x.1 ∧ I64 x.2
def Ch64 (l : List (Int × Int × Int × Int)) : Prop := ∀ x ∈ l, I64 x.1 ∧ I64 x.2.1 ∧ I64 x.2.2.1 ∧ I64 x.2.2.2
theorem eZ_len {n : Int} (h : I64 n) : (eZ n).length ≤ 10 := varint_len 10 _ (by have := zz_b h; omega) (by omega)
theorem eBytes_len {l : List Int} (h : l.length ≤ 1000000) : (eBytes l).length ≤ 10 + l.length := by
  rw [eBytes, List.length_append]; exact Nat.add_le_add_right (eU_len (by omega)) _
theorem fm_len {α : Type} {f : α → List Int} {m : Nat} : ∀ {l : List α}, (∀ x ∈ l, (f x).length ≤ m) → (l.flatMap f).length ≤ m * l.length
  | [], _ => Nat.zero_le _
  | x :: l, h => by
    have h1 := h x (List.mem_cons_self ..)
    have h2 := fm_len (l := l) (fun y hy => h y (List.mem_cons_of_mem _ hy))
    simp only [List.flatMap_cons, List.length_append, List.length_cons, Nat.mul_succ]
    omega
def eEn (x : Int × Int) : List Int := eZ x.1 ++ eZ x.2
def eCh (x : Int × Int × Int × Int) : List Int := x.1 % 256 :: (eZ x.2.1 ++ eZ x.2.2.1 ++ eZ x.2.2.2)
theorem eEn_len {x : Int × Int} (h : I64 x.1 ∧ I64 x.2) : (eEn x).length ≤ 20 := by
  have h1 := eZ_len h.1; have h2 := eZ_len h.2
  simp only [eEn, List.length_append]; omega
theorem eCh_len {x : Int × Int × Int × Int} (h : I64 x.1 ∧ I64 x.2.1 ∧ I64 x.2.2.1 ∧ I64 x.2.2.2) : (eCh x).length ≤ 31 := by
  have h1 := eZ_len h.2.1; have h2 := eZ_len h.2.2.1; have h3 := eZ_len h.2.2.2
  simp only [eCh, List.length_append, List.length_cons]; omega
theorem eEnts_len {l : List (Int × Int)} (h : En64 l) (hl : l.length ≤ 10000) : (eEnts l).length ≤ 10 + 20 * l.length := by
  rw [eEnts, List.length_append]; exact Nat.add_le_add (eU_len (by omega)) (fm_len fun x hx => eEn_len (h x hx))
theorem eChs_len {l : List (Int × Int × Int × Int)} (h : Ch64 l) (hl : l.length ≤ 10000) : (eChs l).length ≤ 10 + 31 * l.length := by
  rw [eChs, List.length_append]; exact Nat.add_le_add (eU_len (by omega)) (fm_len fun x hx => eCh_len (h x hx))
theorem eKeys_len {l : List Int} (h : I64s l) : (l.flatMap eZ).length ≤ 10 * l.length := fm_len fun x hx => eZ_len (h x hx)
theorem fm_take {α : Type} (f : α → List Int) {l : List α} {k : Nat} {x : α} (h : l[k]? = some x) : (l.take (k + 1)).flatMap f = (l.take k).flatMap f ++ f x := by
  rw [List.take_add_one, h]; simp
theorem fm_all {α : Type} (f : α → List Int) {l : List α} {k : Nat} (h : l.length ≤ k) : (l.take k).flatMap f = l.flatMap f := by
  rw [List.take_of_length_le h]
structure OpW (x : OpM) : Prop where
  a : 0 ≤ x.a ∧ x.a ≤ 18446744073709551615
  b : 0 ≤ x.b ∧ x.b ≤ 18446744073709551615
  key : I64 x.key
  val : I64 x.val
  lo : I64 x.lo
  hi : I64 x.hi
  ents : En64 x.ents
  chs : Ch64 x.chs
structure OpL (x : OpM) : Prop where
  n : 0 ≤ x.n ∧ x.n ≤ 2147483647
  name : x.name.size ≤ 32
  bytes : x.bytes.length ≤ 65536
  ents : x.ents.length ≤ 1000
  chs : x.chs.length ≤ 1000
structure ZM where
  code : Int
  a : Int
  b : Int
  key : Int
  val : Int
  lo : Int
  hi : Int
  n : Int
  flag : Bool
  name : ByteArray
  lb : Nat
  le : Nat
  lc : Nat
def zOf (x : OpM) : ZM := { code := x.code, a := x.a, b := x.b, key := x.key, val := x.val, lo := x.lo, hi := x.hi, n := x.n, flag := x.flag, name := x.name, lb := (by8 x.bytes).length, le := (en2 x.ents).length, lc := (ch4 x.chs).length }
def clrZ (f : Int) (y : ZM) : ZM :=
  if f = 65 then { y with a := 0 }
  else if f = 66 then { y with b := 0 }
  else if f = 75 then { y with key := 0 }
  else if f = 86 then { y with val := 0 }
  else if f = 76 then { y with lo := 0 }
  else if f = 72 then { y with hi := 0 }
  else if f = 78 then { y with n := 0 }
  else if f = 70 then { y with flag := false }
  else if f = 83 then { y with name := ⟨#[]⟩ }
  else if f = 89 then { y with lb := 0 }
  else if f = 69 then { y with le := 0 }
  else if f = 67 then { y with lc := 0 }
  else y
theorem clrZ_A {y : ZM} : clrZ 65 y = { y with a := 0 } := rfl
theorem clrZ_B {y : ZM} : clrZ 66 y = { y with b := 0 } := rfl
theorem clrZ_K {y : ZM} : clrZ 75 y = { y with key := 0 } := rfl
theorem clrZ_V {y : ZM} : clrZ 86 y = { y with val := 0 } := rfl
theorem clrZ_L {y : ZM} : clrZ 76 y = { y with lo := 0 } := rfl
theorem clrZ_H {y : ZM} : clrZ 72 y = { y with hi := 0 } := rfl
theorem clrZ_N {y : ZM} : clrZ 78 y = { y with n := 0 } := rfl
theorem clrZ_F {y : ZM} : clrZ 70 y = { y with flag := false } := rfl
theorem clrZ_S {y : ZM} : clrZ 83 y = { y with name := ⟨#[]⟩ } := rfl
theorem clrZ_Y {y : ZM} : clrZ 89 y = { y with lb := 0 } := rfl
theorem clrZ_E {y : ZM} : clrZ 69 y = { y with le := 0 } := rfl
theorem clrZ_C {y : ZM} : clrZ 67 y = { y with lc := 0 } := rfl
theorem clrZ_no {f : Int} {y : ZM} (h : ¬ Ltr f) : clrZ f y = y := by
  unfold Ltr at h
  unfold clrZ
  rw [if_neg (by omega)]
  rw [if_neg (by omega)]
  rw [if_neg (by omega)]
  rw [if_neg (by omega)]
  rw [if_neg (by omega)]
  rw [if_neg (by omega)]
  rw [if_neg (by omega)]
  rw [if_neg (by omega)]
  rw [if_neg (by omega)]
  rw [if_neg (by omega)]
  rw [if_neg (by omega)]
  rw [if_neg (by omega)]
def clrZs : List Int → ZM → ZM
  | [], y => y
  | f :: l, y => clrZs l (clrZ f y)
theorem clrZs_go {l : List Int} {y : ZM} {k : Nat} (h : k < l.length) : clrZs (l.drop k) y = clrZs (l.drop (k + 1)) (clrZ (l.getD k 0) y) := by rw [drop_getD h]; rfl
theorem clrZs_end {l : List Int} {y : ZM} {k : Nat} (h : ¬ k < l.length) : clrZs (l.drop k) y = y := by rw [List.drop_eq_nil_of_le (by omega)]; rfl
theorem clrZ_A' {f : Int} {y : ZM} : (clrZ f y).a = if f = 65 then 0 else y.a := by
  by_cases hf : Ltr f
  · unfold Ltr at hf
    rcases hf with rfl | rfl | rfl | rfl | rfl | rfl | rfl | rfl | rfl | rfl | rfl | rfl <;> rfl
  · rw [clrZ_no hf, if_neg (by unfold Ltr at hf; omega)]
theorem clrZs_A : ∀ {l : List Int} {y : ZM}, (clrZs l y).a = if 65 ∈ l then 0 else y.a
  | [], _ => rfl
  | g :: l, y => by
    rw [clrZs, clrZs_A, clrZ_A']
    by_cases h1 : (65 : Int) ∈ l
    · rw [if_pos h1, if_pos (List.mem_cons_of_mem _ h1)]
    · rw [if_neg h1]
      by_cases h2 : g = 65
      · rw [if_pos h2, if_pos (by rw [h2]; exact List.mem_cons_self ..)]
      · rw [if_neg h2, if_neg (by simp only [List.mem_cons, not_or]; exact ⟨fun h => h2 h.symm, h1⟩)]
theorem clrZ_B' {f : Int} {y : ZM} : (clrZ f y).b = if f = 66 then 0 else y.b := by
  by_cases hf : Ltr f
  · unfold Ltr at hf
    rcases hf with rfl | rfl | rfl | rfl | rfl | rfl | rfl | rfl | rfl | rfl | rfl | rfl <;> rfl
  · rw [clrZ_no hf, if_neg (by unfold Ltr at hf; omega)]
theorem clrZs_B : ∀ {l : List Int} {y : ZM}, (clrZs l y).b = if 66 ∈ l then 0 else y.b
  | [], _ => rfl
  | g :: l, y => by
    rw [clrZs, clrZs_B, clrZ_B']
    by_cases h1 : (66 : Int) ∈ l
    · rw [if_pos h1, if_pos (List.mem_cons_of_mem _ h1)]
    · rw [if_neg h1]
      by_cases h2 : g = 66
      · rw [if_pos h2, if_pos (by rw [h2]; exact List.mem_cons_self ..)]
      · rw [if_neg h2, if_neg (by simp only [List.mem_cons, not_or]; exact ⟨fun h => h2 h.symm, h1⟩)]
theorem clrZ_K' {f : Int} {y : ZM} : (clrZ f y).key = if f = 75 then 0 else y.key := by
  by_cases hf : Ltr f
  · unfold Ltr at hf
    rcases hf with rfl | rfl | rfl | rfl | rfl | rfl | rfl | rfl | rfl | rfl | rfl | rfl <;> rfl
  · rw [clrZ_no hf, if_neg (by unfold Ltr at hf; omega)]
theorem clrZs_K : ∀ {l : List Int} {y : ZM}, (clrZs l y).key = if 75 ∈ l then 0 else y.key
  | [], _ => rfl
  | g :: l, y => by
    rw [clrZs, clrZs_K, clrZ_K']
    by_cases h1 : (75 : Int) ∈ l
    · rw [if_pos h1, if_pos (List.mem_cons_of_mem _ h1)]
    · rw [if_neg h1]
      by_cases h2 : g = 75
      · rw [if_pos h2, if_pos (by rw [h2]; exact List.mem_cons_self ..)]
      · rw [if_neg h2, if_neg (by simp only [List.mem_cons, not_or]; exact ⟨fun h => h2 h.symm, h1⟩)]
theorem clrZ_V' {f : Int} {y : ZM} : (clrZ f y).val = if f = 86 then 0 else y.val := by
  by_cases hf : Ltr f
  · unfold Ltr at hf
    rcases hf with rfl | rfl | rfl | rfl | rfl | rfl | rfl | rfl | rfl | rfl | rfl | rfl <;> rfl
  · rw [clrZ_no hf, if_neg (by unfold Ltr at hf; omega)]
theorem clrZs_V : ∀ {l : List Int} {y : ZM}, (clrZs l y).val = if 86 ∈ l then 0 else y.val
  | [], _ => rfl
  | g :: l, y => by
    rw [clrZs, clrZs_V, clrZ_V']
    by_cases h1 : (86 : Int) ∈ l
    · rw [if_pos h1, if_pos (List.mem_cons_of_mem _ h1)]
    · rw [if_neg h1]
      by_cases h2 : g = 86
      · rw [if_pos h2, if_pos (by rw [h2]; exact List.mem_cons_self ..)]
      · rw [if_neg h2, if_neg (by simp only [List.mem_cons, not_or]; exact ⟨fun h => h2 h.symm, h1⟩)]
theorem clrZ_L' {f : Int} {y : ZM} : (clrZ f y).lo = if f = 76 then 0 else y.lo := by
  by_cases hf : Ltr f
  · unfold Ltr at hf
    rcases hf with rfl | rfl | rfl | rfl | rfl | rfl | rfl | rfl | rfl | rfl | rfl | rfl <;> rfl
  · rw [clrZ_no hf, if_neg (by unfold Ltr at hf; omega)]
theorem clrZs_L : ∀ {l : List Int} {y : ZM}, (clrZs l y).lo = if 76 ∈ l then 0 else y.lo
  | [], _ => rfl
  | g :: l, y => by
    rw [clrZs, clrZs_L, clrZ_L']
    by_cases h1 : (76 : Int) ∈ l
    · rw [if_pos h1, if_pos (List.mem_cons_of_mem _ h1)]
    · rw [if_neg h1]
      by_cases h2 : g = 76
      · rw [if_pos h2, if_pos (by rw [h2]; exact List.mem_cons_self ..)]
      · rw [if_neg h2, if_neg (by simp only [List.mem_cons, not_or]; exact ⟨fun h => h2 h.symm, h1⟩)]
theorem clrZ_H' {f : Int} {y : ZM} : (clrZ f y).hi = if f = 72 then 0 else y.hi := by
  by_cases hf : Ltr f
  · unfold Ltr at hf
    rcases hf with rfl | rfl | rfl | rfl | rfl | rfl | rfl | rfl | rfl | rfl | rfl | rfl <;> rfl
  · rw [clrZ_no hf, if_neg (by unfold Ltr at hf; omega)]
theorem clrZs_H : ∀ {l : List Int} {y : ZM}, (clrZs l y).hi = if 72 ∈ l then 0 else y.hi
  | [], _ => rfl
  | g :: l, y => by
    rw [clrZs, clrZs_H, clrZ_H']
    by_cases h1 : (72 : Int) ∈ l
    · rw [if_pos h1, if_pos (List.mem_cons_of_mem _ h1)]
    · rw [if_neg h1]
      by_cases h2 : g = 72
      · rw [if_pos h2, if_pos (by rw [h2]; exact List.mem_cons_self ..)]
      · rw [if_neg h2, if_neg (by simp only [List.mem_cons, not_or]; exact ⟨fun h => h2 h.symm, h1⟩)]
theorem clrZ_N' {f : Int} {y : ZM} : (clrZ f y).n = if f = 78 then 0 else y.n := by
  by_cases hf : Ltr f
  · unfold Ltr at hf
    rcases hf with rfl | rfl | rfl | rfl | rfl | rfl | rfl | rfl | rfl | rfl | rfl | rfl <;> rfl
  · rw [clrZ_no hf, if_neg (by unfold Ltr at hf; omega)]
theorem clrZs_N : ∀ {l : List Int} {y : ZM}, (clrZs l y).n = if 78 ∈ l then 0 else y.n
  | [], _ => rfl
  | g :: l, y => by
    rw [clrZs, clrZs_N, clrZ_N']
    by_cases h1 : (78 : Int) ∈ l
    · rw [if_pos h1, if_pos (List.mem_cons_of_mem _ h1)]
    · rw [if_neg h1]
      by_cases h2 : g = 78
      · rw [if_pos h2, if_pos (by rw [h2]; exact List.mem_cons_self ..)]
      · rw [if_neg h2, if_neg (by simp only [List.mem_cons, not_or]; exact ⟨fun h => h2 h.symm, h1⟩)]
theorem clrZ_F' {f : Int} {y : ZM} : (clrZ f y).flag = if f = 70 then false else y.flag := by
  by_cases hf : Ltr f
  · unfold Ltr at hf
    rcases hf with rfl | rfl | rfl | rfl | rfl | rfl | rfl | rfl | rfl | rfl | rfl | rfl <;> rfl
  · rw [clrZ_no hf, if_neg (by unfold Ltr at hf; omega)]
theorem clrZs_F : ∀ {l : List Int} {y : ZM}, (clrZs l y).flag = if 70 ∈ l then false else y.flag
  | [], _ => rfl
  | g :: l, y => by
    rw [clrZs, clrZs_F, clrZ_F']
    by_cases h1 : (70 : Int) ∈ l
    · rw [if_pos h1, if_pos (List.mem_cons_of_mem _ h1)]
    · rw [if_neg h1]
      by_cases h2 : g = 70
      · rw [if_pos h2, if_pos (by rw [h2]; exact List.mem_cons_self ..)]
      · rw [if_neg h2, if_neg (by simp only [List.mem_cons, not_or]; exact ⟨fun h => h2 h.symm, h1⟩)]
theorem clrZ_S' {f : Int} {y : ZM} : (clrZ f y).name = if f = 83 then ⟨#[]⟩ else y.name := by
  by_cases hf : Ltr f
  · unfold Ltr at hf
    rcases hf with rfl | rfl | rfl | rfl | rfl | rfl | rfl | rfl | rfl | rfl | rfl | rfl <;> rfl
  · rw [clrZ_no hf, if_neg (by unfold Ltr at hf; omega)]
theorem clrZs_S : ∀ {l : List Int} {y : ZM}, (clrZs l y).name = if 83 ∈ l then ⟨#[]⟩ else y.name
  | [], _ => rfl
  | g :: l, y => by
    rw [clrZs, clrZs_S, clrZ_S']
    by_cases h1 : (83 : Int) ∈ l
    · rw [if_pos h1, if_pos (List.mem_cons_of_mem _ h1)]
    · rw [if_neg h1]
      by_cases h2 : g = 83
      · rw [if_pos h2, if_pos (by rw [h2]; exact List.mem_cons_self ..)]
      · rw [if_neg h2, if_neg (by simp only [List.mem_cons, not_or]; exact ⟨fun h => h2 h.symm, h1⟩)]
theorem clrZ_Y' {f : Int} {y : ZM} : (clrZ f y).lb = if f = 89 then 0 else y.lb := by
  by_cases hf : Ltr f
  · unfold Ltr at hf
    rcases hf with rfl | rfl | rfl | rfl | rfl | rfl | rfl | rfl | rfl | rfl | rfl | rfl <;> rfl
  · rw [clrZ_no hf, if_neg (by unfold Ltr at hf; omega)]
theorem clrZs_Y : ∀ {l : List Int} {y : ZM}, (clrZs l y).lb = if 89 ∈ l then 0 else y.lb
  | [], _ => rfl
  | g :: l, y => by
    rw [clrZs, clrZs_Y, clrZ_Y']
    by_cases h1 : (89 : Int) ∈ l
    · rw [if_pos h1, if_pos (List.mem_cons_of_mem _ h1)]
    · rw [if_neg h1]
      by_cases h2 : g = 89
      · rw [if_pos h2, if_pos (by rw [h2]; exact List.mem_cons_self ..)]
      · rw [if_neg h2, if_neg (by simp only [List.mem_cons, not_or]; exact ⟨fun h => h2 h.symm, h1⟩)]
theorem clrZ_E' {f : Int} {y : ZM} : (clrZ f y).le = if f = 69 then 0 else y.le := by
  by_cases hf : Ltr f
  · unfold Ltr at hf
    rcases hf with rfl | rfl | rfl | rfl | rfl | rfl | rfl | rfl | rfl | rfl | rfl | rfl <;> rfl
  · rw [clrZ_no hf, if_neg (by unfold Ltr at hf; omega)]
theorem clrZs_E : ∀ {l : List Int} {y : ZM}, (clrZs l y).le = if 69 ∈ l then 0 else y.le
  | [], _ => rfl
  | g :: l, y => by
    rw [clrZs, clrZs_E, clrZ_E']
    by_cases h1 : (69 : Int) ∈ l
    · rw [if_pos h1, if_pos (List.mem_cons_of_mem _ h1)]
    · rw [if_neg h1]
      by_cases h2 : g = 69
      · rw [if_pos h2, if_pos (by rw [h2]; exact List.mem_cons_self ..)]
      · rw [if_neg h2, if_neg (by simp only [List.mem_cons, not_or]; exact ⟨fun h => h2 h.symm, h1⟩)]
theorem clrZ_C' {f : Int} {y : ZM} : (clrZ f y).lc = if f = 67 then 0 else y.lc := by
  by_cases hf : Ltr f
  · unfold Ltr at hf
    rcases hf with rfl | rfl | rfl | rfl | rfl | rfl | rfl | rfl | rfl | rfl | rfl | rfl <;> rfl
  · rw [clrZ_no hf, if_neg (by unfold Ltr at hf; omega)]
theorem clrZs_C : ∀ {l : List Int} {y : ZM}, (clrZs l y).lc = if 67 ∈ l then 0 else y.lc
  | [], _ => rfl
  | g :: l, y => by
    rw [clrZs, clrZs_C, clrZ_C']
    by_cases h1 : (67 : Int) ∈ l
    · rw [if_pos h1, if_pos (List.mem_cons_of_mem _ h1)]
    · rw [if_neg h1]
      by_cases h2 : g = 67
      · rw [if_pos h2, if_pos (by rw [h2]; exact List.mem_cons_self ..)]
      · rw [if_neg h2, if_neg (by simp only [List.mem_cons, not_or]; exact ⟨fun h => h2 h.symm, h1⟩)]
def zeroOp (x : OpM) : Prop := (65 ∉ fs x.code → x.a = 0) ∧ (66 ∉ fs x.code → x.b = 0) ∧ (75 ∉ fs x.code → x.key = 0) ∧ (86 ∉ fs x.code → x.val = 0) ∧ (76 ∉ fs x.code → x.lo = 0) ∧ (72 ∉ fs x.code → x.hi = 0) ∧ (78 ∉ fs x.code → x.n = 0) ∧ (70 ∉ fs x.code → x.flag = false) ∧ (83 ∉ fs x.code → x.name = ⟨#[]⟩) ∧ (89 ∉ fs x.code → x.bytes.length = 0) ∧ (69 ∉ fs x.code → x.ents.length = 0) ∧ (67 ∉ fs x.code → x.chs.length = 0)
theorem ite_z {α : Type} {p : Prop} [Decidable p] {z v : α} : ((if p then z else v) = z) = (¬ p → v = z) := by
  by_cases h : p <;> simp [h]
theorem nat0 {n : Nat} : ((n : Int) = 0) = (n = 0) := by
  apply propext; omega
theorem zero_iff {x : OpM} {y : ZM} (h : y = clrZs (fs x.code) (zOf x)) : (y.a = 0 ∧ y.b = 0 ∧ y.key = 0 ∧ y.val = 0 ∧ y.lo = 0 ∧ y.hi = 0 ∧ y.n = 0 ∧ y.flag = false ∧ y.name = ⟨#[]⟩ ∧ y.lb = 0 ∧ y.le = 0 ∧ y.lc = 0) ↔ zeroOp x := by
  subst h
  rw [clrZs_A, clrZs_B, clrZs_K, clrZs_V, clrZs_L, clrZs_H, clrZs_N, clrZs_F, clrZs_S, clrZs_Y, clrZs_E, clrZs_C]
  simp only [ite_z, zOf, by8_len, en2_len, ch4_len]
  exact Iff.rfl
def okOp (x : OpM) : Prop := isOp x.code = true ∧ OpL x ∧ (∀ c ∈ x.chs, 0 ≤ c.1 ∧ c.1 ≤ 255) ∧ zeroOp x
structure AnM where
  err : Int
  handle : Int
  value : Int
  found : Bool
  n : Int
  ekey : Int
  eval : Int
  count : Int
  sum : Int
  mn : Int
  mx : Int
  ents : List (Int × Int)
  chs : List (Int × Int × Int × Int)
  keys : List Int
  bytes : List Int
structure AnW (x : AnM) : Prop where
  err : I64 x.err
  handle : 0 ≤ x.handle ∧ x.handle ≤ 18446744073709551615
  value : I64 x.value
  n : I64 x.n
  ekey : I64 x.ekey
  eval : I64 x.eval
  count : I64 x.count
  sum : I64 x.sum
  mn : I64 x.mn
  mx : I64 x.mx
  ents : En64 x.ents
  chs : Ch64 x.chs
  keys : I64s x.keys
  le : x.ents.length ≤ 100
  lc : x.chs.length ≤ 100
  lk : x.keys.length ≤ 100
  lb : x.bytes.length ≤ 1000
def an0 : AnM := { err := 0, handle := 0, value := 0, found := false, n := 0, ekey := 0, eval := 0, count := 0, sum := 0, mn := 0, mx := 0, ents := [], chs := [], keys := [], bytes := [] }
def an19 (r1 : Int × Nat × Int) (r2 : Int × Nat × Int) (r3 : Int × Nat × Int) (r4 : Bool × Nat × Int) (r5 : Int × Nat × Int) (r6 : Int × Nat × Int) (r7 : Int × Nat × Int) (r8 : Int × Nat × Int) (r9 : Int × Nat × Int) (r10 : Int × Nat × Int) (r11 : Int × Nat × Int) (r13 : List (Int × Int) × Nat × Int) (r15 : List (Int × Int × Int × Int) × Nat × Int) (r17 : List Int × Nat × Int) (r19 : List Int × Nat × Int) : AnM × Nat × Int := ({ err := r1.1, handle := r2.1, value := r3.1, found := r4.1, n := r5.1, ekey := r6.1, eval := r7.1, count := r8.1, sum := r9.1, mn := r10.1, mx := r11.1, ents := r13.1, chs := r15.1, keys := r17.1, bytes := r19.1 }, r19.2)
def an18 (bs : List Int) (r1 : Int × Nat × Int) (r2 : Int × Nat × Int) (r3 : Int × Nat × Int) (r4 : Bool × Nat × Int) (r5 : Int × Nat × Int) (r6 : Int × Nat × Int) (r7 : Int × Nat × Int) (r8 : Int × Nat × Int) (r9 : Int × Nat × Int) (r10 : Int × Nat × Int) (r11 : Int × Nat × Int) (r13 : List (Int × Int) × Nat × Int) (r15 : List (Int × Int × Int × Int) × Nat × Int) (r17 : List Int × Nat × Int) (r18 : Int × Nat × Int) : AnM × Nat × Int := an19 r1 r2 r3 r4 r5 r6 r7 r8 r9 r10 r11 r13 r15 r17 (rBytes bs r18.1.toNat r18.2.1 r18.2.2)
def an17 (bs : List Int) (r1 : Int × Nat × Int) (r2 : Int × Nat × Int) (r3 : Int × Nat × Int) (r4 : Bool × Nat × Int) (r5 : Int × Nat × Int) (r6 : Int × Nat × Int) (r7 : Int × Nat × Int) (r8 : Int × Nat × Int) (r9 : Int × Nat × Int) (r10 : Int × Nat × Int) (r11 : Int × Nat × Int) (r13 : List (Int × Int) × Nat × Int) (r15 : List (Int × Int × Int × Int) × Nat × Int) (r17 : List Int × Nat × Int) : AnM × Nat × Int := an18 bs r1 r2 r3 r4 r5 r6 r7 r8 r9 r10 r11 r13 r15 r17 (rCnt bs r17.2.1 r17.2.2)
def an16 (bs : List Int) (r1 : Int × Nat × Int) (r2 : Int × Nat × Int) (r3 : Int × Nat × Int) (r4 : Bool × Nat × Int) (r5 : Int × Nat × Int) (r6 : Int × Nat × Int) (r7 : Int × Nat × Int) (r8 : Int × Nat × Int) (r9 : Int × Nat × Int) (r10 : Int × Nat × Int) (r11 : Int × Nat × Int) (r13 : List (Int × Int) × Nat × Int) (r15 : List (Int × Int × Int × Int) × Nat × Int) (r16 : Int × Nat × Int) : AnM × Nat × Int := an17 bs r1 r2 r3 r4 r5 r6 r7 r8 r9 r10 r11 r13 r15 (rInts bs r16.1.toNat r16.2.1 r16.2.2)
def an15 (bs : List Int) (r1 : Int × Nat × Int) (r2 : Int × Nat × Int) (r3 : Int × Nat × Int) (r4 : Bool × Nat × Int) (r5 : Int × Nat × Int) (r6 : Int × Nat × Int) (r7 : Int × Nat × Int) (r8 : Int × Nat × Int) (r9 : Int × Nat × Int) (r10 : Int × Nat × Int) (r11 : Int × Nat × Int) (r13 : List (Int × Int) × Nat × Int) (r15 : List (Int × Int × Int × Int) × Nat × Int) : AnM × Nat × Int := an16 bs r1 r2 r3 r4 r5 r6 r7 r8 r9 r10 r11 r13 r15 (rCnt bs r15.2.1 r15.2.2)
def an14 (bs : List Int) (r1 : Int × Nat × Int) (r2 : Int × Nat × Int) (r3 : Int × Nat × Int) (r4 : Bool × Nat × Int) (r5 : Int × Nat × Int) (r6 : Int × Nat × Int) (r7 : Int × Nat × Int) (r8 : Int × Nat × Int) (r9 : Int × Nat × Int) (r10 : Int × Nat × Int) (r11 : Int × Nat × Int) (r13 : List (Int × Int) × Nat × Int) (r14 : Int × Nat × Int) : AnM × Nat × Int := an15 bs r1 r2 r3 r4 r5 r6 r7 r8 r9 r10 r11 r13 (rChs bs r14.1.toNat r14.2.1 r14.2.2)
def an13 (bs : List Int) (r1 : Int × Nat × Int) (r2 : Int × Nat × Int) (r3 : Int × Nat × Int) (r4 : Bool × Nat × Int) (r5 : Int × Nat × Int) (r6 : Int × Nat × Int) (r7 : Int × Nat × Int) (r8 : Int × Nat × Int) (r9 : Int × Nat × Int) (r10 : Int × Nat × Int) (r11 : Int × Nat × Int) (r13 : List (Int × Int) × Nat × Int) : AnM × Nat × Int := an14 bs r1 r2 r3 r4 r5 r6 r7 r8 r9 r10 r11 r13 (rCnt bs r13.2.1 r13.2.2)
def an12 (bs : List Int) (r1 : Int × Nat × Int) (r2 : Int × Nat × Int) (r3 : Int × Nat × Int) (r4 : Bool × Nat × Int) (r5 : Int × Nat × Int) (r6 : Int × Nat × Int) (r7 : Int × Nat × Int) (r8 : Int × Nat × Int) (r9 : Int × Nat × Int) (r10 : Int × Nat × Int) (r11 : Int × Nat × Int) (r12 : Int × Nat × Int) : AnM × Nat × Int := an13 bs r1 r2 r3 r4 r5 r6 r7 r8 r9 r10 r11 (rEnts bs r12.1.toNat r12.2.1 r12.2.2)
def an11 (bs : List Int) (r1 : Int × Nat × Int) (r2 : Int × Nat × Int) (r3 : Int × Nat × Int) (r4 : Bool × Nat × Int) (r5 : Int × Nat × Int) (r6 : Int × Nat × Int) (r7 : Int × Nat × Int) (r8 : Int × Nat × Int) (r9 : Int × Nat × Int) (r10 : Int × Nat × Int) (r11 : Int × Nat × Int) : AnM × Nat × Int := an12 bs r1 r2 r3 r4 r5 r6 r7 r8 r9 r10 r11 (rCnt bs r11.2.1 r11.2.2)
def an10 (bs : List Int) (r1 : Int × Nat × Int) (r2 : Int × Nat × Int) (r3 : Int × Nat × Int) (r4 : Bool × Nat × Int) (r5 : Int × Nat × Int) (r6 : Int × Nat × Int) (r7 : Int × Nat × Int) (r8 : Int × Nat × Int) (r9 : Int × Nat × Int) (r10 : Int × Nat × Int) : AnM × Nat × Int := an11 bs r1 r2 r3 r4 r5 r6 r7 r8 r9 r10 (rZ bs r10.2.1 r10.2.2)
def an9 (bs : List Int) (r1 : Int × Nat × Int) (r2 : Int × Nat × Int) (r3 : Int × Nat × Int) (r4 : Bool × Nat × Int) (r5 : Int × Nat × Int) (r6 : Int × Nat × Int) (r7 : Int × Nat × Int) (r8 : Int × Nat × Int) (r9 : Int × Nat × Int) : AnM × Nat × Int := an10 bs r1 r2 r3 r4 r5 r6 r7 r8 r9 (rZ bs r9.2.1 r9.2.2)
def an8 (bs : List Int) (r1 : Int × Nat × Int) (r2 : Int × Nat × Int) (r3 : Int × Nat × Int) (r4 : Bool × Nat × Int) (r5 : Int × Nat × Int) (r6 : Int × Nat × Int) (r7 : Int × Nat × Int) (r8 : Int × Nat × Int) : AnM × Nat × Int := an9 bs r1 r2 r3 r4 r5 r6 r7 r8 (rZ bs r8.2.1 r8.2.2)
def an7 (bs : List Int) (r1 : Int × Nat × Int) (r2 : Int × Nat × Int) (r3 : Int × Nat × Int) (r4 : Bool × Nat × Int) (r5 : Int × Nat × Int) (r6 : Int × Nat × Int) (r7 : Int × Nat × Int) : AnM × Nat × Int := an8 bs r1 r2 r3 r4 r5 r6 r7 (rZ bs r7.2.1 r7.2.2)
def an6 (bs : List Int) (r1 : Int × Nat × Int) (r2 : Int × Nat × Int) (r3 : Int × Nat × Int) (r4 : Bool × Nat × Int) (r5 : Int × Nat × Int) (r6 : Int × Nat × Int) : AnM × Nat × Int := an7 bs r1 r2 r3 r4 r5 r6 (rZ bs r6.2.1 r6.2.2)
def an5 (bs : List Int) (r1 : Int × Nat × Int) (r2 : Int × Nat × Int) (r3 : Int × Nat × Int) (r4 : Bool × Nat × Int) (r5 : Int × Nat × Int) : AnM × Nat × Int := an6 bs r1 r2 r3 r4 r5 (rZ bs r5.2.1 r5.2.2)
def an4 (bs : List Int) (r1 : Int × Nat × Int) (r2 : Int × Nat × Int) (r3 : Int × Nat × Int) (r4 : Bool × Nat × Int) : AnM × Nat × Int := an5 bs r1 r2 r3 r4 (rZ bs r4.2.1 r4.2.2)
def an3 (bs : List Int) (r1 : Int × Nat × Int) (r2 : Int × Nat × Int) (r3 : Int × Nat × Int) : AnM × Nat × Int := an4 bs r1 r2 r3 (rBool bs r3.2.1 r3.2.2)
def an2 (bs : List Int) (r1 : Int × Nat × Int) (r2 : Int × Nat × Int) : AnM × Nat × Int := an3 bs r1 r2 (rZ bs r2.2.1 r2.2.2)
def an1 (bs : List Int) (r1 : Int × Nat × Int) : AnM × Nat × Int := an2 bs r1 (rU bs r1.2.1 r1.2.2)
def rAns (bs : List Int) (p : Nat) : AnM × Nat × Int := an1 bs (rLim bs 255 p 0)
def rNxa (bs : List Int) (at_ : Int) : AnM × Int × Int :=
  if at_ < 0 ∨ (bs.length : Int) < at_ then (an0, 0, 1) else if (rAns bs at_.toNat).2.2 ≠ 0 then (an0, 0, (rAns bs at_.toNat).2.2) else ((rAns bs at_.toNat).1, ((rAns bs at_.toNat).2.1 : Int), 0)
def eAn (x : AnM) : List Int := eU (x.err % 18446744073709551616) ++ eU x.handle ++ eZ x.value ++ eF x.found ++ eZ x.n ++ eZ x.ekey ++ eZ x.eval ++ eZ x.count ++ eZ x.sum ++ eZ x.mn ++ eZ x.mx ++ eEnts x.ents ++ eChs x.chs ++ (eU x.keys.length ++ x.keys.flatMap eZ) ++ eBytes x.bytes
end Go.V
/-! ## Word -/
namespace Go.Proofs.YthcmigbamkohpaaGreatDoor
open Go Go.V Go.RowKit
set_option maxRecDepth 8192 in
theorem zigzag {g w : World} {L : List HP} (n : Int) (hn : -9223372036854775808 ≤ n ∧ n ≤ 9223372036854775807) (hS : St g (L) w) :
    Sp Tryz.prog 58 [.int .i64 n] w (fun v w' => v = .int .u64 (zz n) ∧ St g (L) w') := by
  refine Sp.enter Tryz.func58 rfl (by kernel_rfl) (by kernel_rfl) ?_
  refine WC.seq ?_
  refine WC.region ?_
  refine WL.r 1 rfl ?_
  refine WL.nil ?_
  refine WC.seq ?_
  refine WC.region ?_
  refine WL.r 2 rfl ?_
  refine WL.r 1 rfl ?_
  refine WL.r 2 rfl ?_
  refine WL.r 1 rfl ?_
  refine WL.r 1 rfl ?_
  refine WL.reb 9 (.int .u64 (zz n)) (congrArg (Value.int .u64) (by exact zz_bits hn)) ?_
  refine WL.r 1 rfl ?_
  refine WL.nil ?_
  refine WC.ret ?_
  refine ⟨[.int .u64 (zz n)], rfl, ?_⟩
  exact ⟨rfl, hS⟩
set_option maxRecDepth 8192 in
theorem unzigzag {g w : World} {L : List HP} (u : Int) (hu : 0 ≤ u ∧ u ≤ 18446744073709551615) (hS : St g (L) w) :
    Sp Tryz.prog 61 [.int .u64 u] w (fun v w' => v = .int .i64 (uz u) ∧ St g (L) w') := by
  refine Sp.enter Tryz.func61 rfl (by kernel_rfl) (by kernel_rfl) ?_
  refine WC.seq ?_
  refine WC.region ?_
  refine WL.r 1 rfl ?_
  refine WL.nil ?_
  refine WC.seq ?_
  refine WC.region ?_
  refine WL.r 2 rfl ?_
  refine WL.reb 4 (.int .u64 (u / 2)) (congrArg (Value.int .u64) (by rfl)) ?_
  refine WL.r 1 rfl ?_
  refine WL.nw 5 rfl (w64 (by omega)) ?_
  refine WL.r 2 rfl ?_
  refine WL.reb 7 (.int .u64 (u % 2)) (congrArg (Value.int .u64) (by exact and1 hu)) ?_
  refine WL.r 1 rfl ?_
  refine WL.nw 8 rfl (w64 (by omega)) ?_
  refine WL.r 1 rfl ?_
  refine WL.nw 9 rfl (w64 (by omega)) ?_
  refine WL.r 1 rfl ?_
  refine WL.reb 10 (.int .i64 (uz u)) (congrArg (Value.int .i64) (by exact uz_bits hu)) ?_
  refine WL.r 1 rfl ?_
  refine WL.nil ?_
  refine WC.ret ?_
  refine ⟨[.int .i64 (uz u)], rfl, ?_⟩
  exact ⟨rfl, hS⟩
set_option maxRecDepth 8192 in
theorem appendUvarint {g w : World} {L : List HP} (u : Nat) (hu : (u : Int) ≤ 18446744073709551615) (hS : St g (L) w) :
    Sp Tryz.prog 57 [.slice none 0 0, .int .u64 (u : Int)] w (fun v w' => ∃ (a : Option Addr) (c : Nat), v = .slice a (List.length (by8 (varint u))) c ∧ St g (Own 5 1 (by8 (varint u)) a c :: L) w') := by
  refine Sp.enter Tryz.func57 rfl (by kernel_rfl) (by kernel_rfl) ?_
  have _ := hu
  refine WC.seq ?_
  refine WC.region ?_
  refine WL.r 1 rfl ?_
  refine WL.nil ?_
  refine WC.seq ?_
  refine WC.region ?_
  have hl := varint_len 10 u (by omega) (by omega)
  refine WL.r 3 rfl ?_
  refine WL.reb 8 (.int .i64 10) (congrArg (Value.int .i64) (by decide)) ?_
  refine WL.make rfl rfl (v := 0) (v' := 10) (0) (10) el_24 hS rfl (by omega) rfl (by omega) (by omega) (Rm.of (by omega) (by decide)) (fun b1 w hS => ?_)
  replace hS : St g (Own 5 1 [] (some ⟨b1, 0, none⟩) 10 :: L) w := hS
  refine WL.r 1 rfl ?_
  refine WL.app rfl rfl 0 ([]) el_24 hS rfl Src.nil (List.append_nil _) (Rm.of (by first | omega | (simp <;> omega)) (by decide)) rfl rfl (fun a1 c1 w hS => ?_)
  replace hS : St g (Own 5 1 [] a1 c1 :: L) w := hS
  refine WL.r 1 rfl ?_
  refine WL.nil ?_
  refine WC.seq ?_
  refine WC.block ?_
  refine WC.loop [1, 4, 5] (fun kM vs w => ∃ (v : Nat) (xs : List Int) (a : Option Addr) (c : Nat), vs = [.int .u64 (v : Int), .slice none 0 0, .slice a (List.length (by8 xs)) c] ∧ St g (Own 5 1 (by8 xs) a c :: L) w ∧ (varint u = xs ++ varint v) ∧ (v ≤ u) ∧ (v) = kM) (u) ⟨u, [], _, _, rfl, hS, (rfl), (Nat.le_refl _), rfl⟩ ?_
  clear hS; rintro _ _ w j ⟨v, xs, a, c, rfl, hS, hv, hle, rfl⟩
  refine WC.seq ?_
  refine WC.seq ?_
  refine WC.region ?_
  refine WL.r 2 rfl ?_
  refine WL.nil ?_
  as_aux_lemma =>
    refine WC.ifP rfl (fun cd1 => ?_) (fun cd1 => ?_)
    · refine WC.skip ?_
      refine WC.block ?_
      refine WC.seq ?_
      refine WC.region ?_
      have hv2 : ¬ v < 128 := by omega
      have hl2 := congrArg List.length hv; rw [varint_ge hv2] at hl2; simp only [List.length_append, List.length_cons] at hl2
      refine WL.r 3 rfl ?_
      refine WL.r 1 rfl ?_
      refine WL.reb 17 (.int .u8 ((v : Int) % 128 + 128)) (congrArg (Value.int .u8) (by exact or128 _)) ?_
      refine WL.lit rfl rfl (by8 [(v : Int) % 128 + 128]) el_24 hS (by exact ⟨rfl, rfl⟩) (by8_ok _) rfl (by decide) (fun b2 w hS => ?_)
      refine WL.app rfl rfl 1 (by8 (xs ++ [(v : Int) % 128 + 128])) el_24 hS rfl (hS.srcO 0 rfl) (by8_app _ _).symm (Rm.of (by first | omega | (simp <;> omega)) (by decide)) rfl rfl (fun a2 c2 w hS => ?_)
      replace hS : St g (Own 5 1 (by8 [(v : Int) % 128 + 128]) (some ⟨b2, 0, none⟩) (List.length (by8 [(v : Int) % 128 + 128])) :: Own 5 1 (by8 (xs ++ [(v : Int) % 128 + 128])) a2 c2 :: L) w := hS
      refine WL.r 1 rfl ?_
      refine WL.nil ?_
      refine WC.region ?_
      refine WL.r 2 rfl ?_
      refine WL.reb 21 (.int .u64 ((v : Int) / 128)) (congrArg (Value.int .u64) (by rfl)) ?_
      refine WL.r 1 rfl ?_
      refine WL.nil ?_
      exact ⟨_, by omega, v / 128, xs ++ [(v : Int) % 128 + 128], _, _, rfl, (hS.sel 1 [] rfl), (by rw [hv, varint_ge hv2]; simp), (by omega), rfl⟩
    · refine WC.exit ?_
      refine WC.seq ?_
      refine WC.region ?_
      have hv2 : v < 128 := by omega
      have hl2 := congrArg List.length hv; rw [varint_lt hv2] at hl2; simp only [List.length_append, List.length_cons] at hl2
      refine WL.r 3 rfl ?_
      refine WL.nw 24 rfl (byte_lo (by omega) (by omega)) ?_
      refine WL.lit rfl rfl (by8 [(v : Int)]) el_24 hS (by exact ⟨rfl, rfl⟩) (by8_ok _) rfl (by decide) (fun b2 w hS => ?_)
      refine WL.app rfl rfl 1 (by8 (xs ++ [(v : Int)])) el_24 hS rfl (hS.srcO 0 rfl) (by8_app _ _).symm (Rm.of (by first | omega | (simp <;> omega)) (by decide)) rfl rfl (fun a2 c2 w hS => ?_)
      replace hS : St g (Own 5 1 (by8 [(v : Int)]) (some ⟨b2, 0, none⟩) (List.length (by8 [(v : Int)])) :: Own 5 1 (by8 (xs ++ [(v : Int)])) a2 c2 :: L) w := hS
      refine WL.r 1 rfl ?_
      refine WL.nil ?_
      refine WC.ret ?_
      refine ⟨[.slice a2 (List.length (by8 (xs ++ [(v : Int)]))) c2], rfl, ?_⟩
      replace hS := (hS.sel 1 [] rfl)
      rw [varint_lt hv2] at hv; rw [← hv] at hS ⊢; exact ⟨_, _, rfl, hS⟩
set_option maxRecDepth 8192 in
theorem uvarint {g w : World} {L : List HP} (bs : List Int) (a : Option Addr) (c : Nat) (p : Nat) (hp : p ≤ bs.length) (hl : bs.length ≤ 1000000000) (hb : B8 bs) (hS : St g (Sh 5 1 (by8 bs) a c :: L) w) :
    Sp Tryz.prog 60 [.slice a (List.length (by8 bs)) c, .int .i64 (p : Int)] w (fun v w' => v = .tuple #[.int .u64 (uv (bs.drop p)).1, .int .i64 (if (uv (bs.drop p)).2.2 = 0 then (p : Int) + (uv (bs.drop p)).2.1 else 0), .int .i64 (uv (bs.drop p)).2.2] ∧ St g (Sh 5 1 (by8 bs) a c :: L) w') := by
  refine Sp.enter Tryz.func60 rfl (by kernel_rfl) (by kernel_rfl) ?_
  have _ := hl
  have _ := hp
  refine WC.seq ?_
  refine WC.region ?_
  refine WL.r 3 rfl ?_
  refine WL.nil ?_
  refine WC.seq ?_
  refine WC.seq ?_
  refine WC.region ?_
  have hl1 := by8_len bs
  refine WL.r 2 rfl ?_
  refine WL.rG 6 rfl (fun j => ?_)
  refine WL.prop 17 rfl (bor (dd _) (dd _)) ?_
  refine WL.nil ?_
  refine WC.ifP rfl (fun cd1 => ?_) (fun cd1 => ?_)
  · refine WC.seq ?_
    refine WC.region ?_
    refine WL.r 3 rfl ?_
    refine WL.nil ?_
    refine WC.ret ?_
    refine ⟨[.int .u64 0, .int .i64 0, .int .i64 1], ⟨rfl, rfl, rfl⟩, ?_⟩
    exfalso; omega
  · refine WC.skip ?_
    refine WC.seq ?_
    refine WC.region ?_
    refine WL.r 1 rfl ?_
    refine WL.nil ?_
    refine WC.seq ?_
    refine WC.seq ?_
    refine WC.region ?_
    have hl2 := by8_len (bs.drop p); rw [List.length_drop] at hl2
    refine WL.r 2 rfl ?_
    refine WL.slLo rfl rfl (v := (p : Int)) 0 (p) (by8 (bs.drop p)) el_24 hS rfl rfl rfl (by omega) (by omega) (by8_drop _ _) (fun a1 hS => ?_)
    replace hS : St g (Sh 5 1 (by8 (bs.drop p)) a1 (c - p) :: Sh 5 1 (by8 bs) a c :: L) w := hS
    refine WL.r 2 rfl ?_
    refine WL.nil ?_
    as_aux_lemma =>
      refine WC.block ?_
      refine WC.loop [1, 7, 20, 21, 22] (fun kM vs w => ∃ (k : Nat) (u : Int), vs = [.int .i64 (p : Int), .int .u64 u, .slice a1 (List.length (by8 (bs.drop p))) (c - p), .int .i64 (List.length (by8 (bs.drop p)) : Int), .int .i64 (k : Int)] ∧ St g (Sh 5 1 (by8 (bs.drop p)) a1 (c - p) :: Sh 5 1 (by8 bs) a c :: L) w ∧ (k ≤ bs.length - p) ∧ (UvB k u) ∧ (uv (bs.drop p) = uvGo k u (bs.drop (p + k))) ∧ (bs.length - p - k) = kM) ((List.length bs) - p - 0) ⟨0, 0, rfl, hS, (by omega), (UvB.start), (rfl), rfl⟩ ?_
      clear hS; rintro _ _ w j ⟨k, u, rfl, hS, hk, hu, he, rfl⟩
      refine WC.seq ?_
      refine WC.region ?_
      have hl2 := by8_len (bs.drop p); rw [List.length_drop] at hl2
      refine WL.r 1 rfl ?_
      refine WL.nil ?_
      refine WC.seq ?_
      refine WC.ifP rfl (fun cd2 => ?_) (fun cd2 => ?_)
      · refine WC.skip ?_
        refine WC.seq ?_
        refine WC.block ?_
        refine WC.seq ?_
        refine WC.region ?_
        refine WL.r 1 rfl ?_
        obtain ⟨x, hx⟩ : ∃ x, (bs.drop p)[k]? = some x := ⟨_, List.getElem?_eq_getElem (by rw [List.length_drop]; omega)⟩
        refine WL.ix rfl rfl (i := (k : Int)) (k) el_24 rfl rfl (by omega) (len_of (by8_at hx)) (hS.rdS 0 rfl (by8_at hx)).1 ?_
        refine WL.run 3 [.int .u8 x] rfl (by exact (hS.rdS 0 rfl (by8_at hx)).2 0 _ rfl) ?_
        refine WL.nil ?_
        refine WC.seq ?_
        refine WC.seq ?_
        refine WC.region ?_
        have hx8 := hb x (List.mem_of_mem_drop (List.mem_of_getElem? hx)); have hk9 := hu.1
        have hdr : bs.drop (p + k) = x :: bs.drop (p + (k + 1)) := by rw [← List.drop_drop, List.drop_eq_getElem_cons (by rw [List.length_drop]; omega), List.drop_drop]; congr 1; exact (List.getElem?_eq_some_iff.1 hx).2
        rw [hdr] at he
        refine WL.r 2 rfl ?_
        refine WL.rG 12 rfl (fun j => ?_)
        refine WL.prop 40 rfl (bor (band (dd _) (dd _)) (band (dd _) (dd _))) ?_
        refine WL.nil ?_
        as_aux_lemma =>
          refine WC.ifP rfl (fun cd3 => ?_) (fun cd3 => ?_)
          · refine WC.seq ?_
            refine WC.region ?_
            refine WL.r 3 rfl ?_
            refine WL.nil ?_
            refine WC.ret ?_
            refine ⟨[.int .u64 0, .int .i64 0, .int .i64 13], ⟨rfl, rfl, rfl⟩, ?_⟩
            replace hS := (hS.sel 1 [] rfl)
            have q4 : (k = 9 ∧ 1 < x) ∨ (0 < k ∧ x = 0) := by omega
            rw [uvGo_bad q4] at he; rw [he]; exact ⟨rfl, hS⟩
          · refine WC.skip ?_
            refine WC.seq ?_
            refine WC.region ?_
            have q4 : ¬ ((k = 9 ∧ 1 < x) ∨ (0 < k ∧ x = 0)) := by omega
            refine WL.r 3 rfl ?_
            refine WL.reb 43 (.int .u8 (x % 128)) (congrArg (Value.int .u8) (by exact and127 hx8.1 hx8.2)) ?_
            refine WL.r 1 rfl ?_
            refine WL.nw 44 rfl (wu64 (by omega)) ?_
            refine WL.r 2 rfl ?_
            refine WL.nw 46 rfl (wu64 (by omega)) ?_
            refine WL.r 1 rfl ?_
            refine WL.nw 47 rfl (wu64 (by omega)) ?_
            refine WL.shl rfl rfl (b := 7 * (k : Int)) (7 * k) rfl rfl (by omega) ?_
            refine WL.r 1 rfl ?_
            refine WL.reb 49 (.int .u64 (u + x % 128 * 128 ^ k)) (congrArg (Value.int .u64) (by exact uv_step hu q4 hx8.1 hx8.2)) ?_
            refine WL.r 1 rfl ?_
            refine WL.nil ?_
            refine WC.seq ?_
            refine WC.region ?_
            refine WL.r 2 rfl ?_
            refine WL.nil ?_
            refine WC.ifP rfl (fun cd4 => ?_) (fun cd4 => ?_)
            · refine WC.seq ?_
              refine WC.region ?_
              refine WL.r 4 rfl ?_
              refine WL.nw 55 rfl (w64 (by omega)) ?_
              refine WL.r 1 rfl ?_
              refine WL.nw 56 rfl (w64 (by omega)) ?_
              refine WL.r 3 rfl ?_
              refine WL.nil ?_
              as_aux_lemma =>
                refine WC.ret ?_
                refine ⟨[.int .u64 (u + x % 128 * 128 ^ k), .int .i64 (((p : Int) + (k : Int)) + 1), .int .i64 0], ⟨rfl, rfl, rfl⟩, ?_⟩
                replace hS := (hS.sel 1 [] rfl)
                rw [uvGo_end q4 (by omega)] at he; rw [he]; refine ⟨?_, hS⟩
                rw [show x % 128 = x by omega]; simp only [if_true]; congr 3
            · refine WC.skip ?_
              refine WC.region ?_
              refine WL.r 1 rfl ?_
              refine WL.nw 57 rfl (w64 (by omega)) ?_
              refine WL.r 1 rfl ?_
              refine WL.nil ?_
              exact ⟨_, by omega, k + 1, u + x % 128 * 128 ^ k, rfl, hS, (by omega), (by rw [show x % 128 = x - 128 by omega]; exact hu.next q4 (by omega) hx8.2), (by rw [he, uvGo_go q4 (by omega), show x % 128 = x - 128 by omega]), rfl⟩
      · refine WC.exit ?_
        refine WC.seq ?_
        refine WC.region ?_
        refine WL.r 3 rfl ?_
        refine WL.nil ?_
        refine WC.ret ?_
        refine ⟨[.int .u64 0, .int .i64 0, .int .i64 12], ⟨rfl, rfl, rfl⟩, ?_⟩
        replace hS := (hS.sel 1 [] rfl)
        have e0 : bs.drop (p + k) = [] := List.drop_eq_nil_of_le (by omega)
        rw [e0, uvGo_nil] at he; rw [he]; exact ⟨rfl, hS⟩
end Go.Proofs.YthcmigbamkohpaaGreatDoor
/-! ## Wr -/
namespace Go.Proofs.YthcmigbamkohpaaGreatDoor
open Go Go.V
set_option maxRecDepth 8192 in
theorem wbyte_spec {g w : World} {L : List HP} (q : Nat) (xs : List Int) (a : Option Addr) (c : Nat) (x : Int) (hx : xs.length ≤ 1000000) (hS : St g (cel q #[.slice a (List.length (by8 xs)) c] 57 :: Own 5 1 (by8 xs) a c :: L) w) :
    Sp Tryz.prog 59 [.pointer (some ⟨q, 0, none⟩), .int .u8 x] w (fun v w' => ∃ (a2 : Option Addr) (c2 : Nat), v = .tuple #[] ∧ St g (cel q #[.slice a2 (List.length (by8 (xs ++ [x]))) c2] 57 :: Own 5 1 (by8 (xs ++ [x])) a2 c2 :: L) w') := by
  refine Sp.enter Tryz.func59 rfl (by kernel_rfl) (by kernel_rfl) ?_
  have _ := hx
  refine WC.region ?_
  refine WL.run 6 [.slice a (List.length (by8 xs)) c] rfl (by exact hS.ld 0 rfl rfl) ?_
  refine WL.lit rfl rfl (by8 [x]) el_24 hS (by exact ⟨rfl, rfl⟩) (by8_ok _) rfl (by decide) (fun b1 w hS => ?_)
  refine WL.app rfl rfl 2 (by8 (xs ++ [x])) el_24 hS rfl (hS.srcO 0 rfl) (by8_app _ _).symm (Rm.of (by first | omega | (simp <;> omega)) (by decide)) rfl rfl (fun a1 c1 w hS => ?_)
  replace hS : St g (Own 5 1 (by8 [x]) (some ⟨b1, 0, none⟩) (List.length (by8 [x])) :: cel q #[.slice a (List.length (by8 xs)) c] 57 :: Own 5 1 (by8 (xs ++ [x])) a1 c1 :: L) w := hS
  refine WL.r 2 rfl ?_
  refine WL.st rfl rfl rfl 1 hS rfl rfl rfl rfl rfl rfl (fun w hS => ?_)
  replace hS : St g (Own 5 1 (by8 [x]) (some ⟨b1, 0, none⟩) (List.length (by8 [x])) :: cel q #[.slice a1 (List.length (by8 (xs ++ [x]))) c1] 57 :: Own 5 1 (by8 (xs ++ [x])) a1 c1 :: L) w := hS
  refine WL.nil ?_
  refine ⟨[], trivial, ?_⟩
  replace hS := (hS.sel 1 [] rfl)
  exact ⟨_, _, rfl, hS⟩
set_option maxRecDepth 8192 in
theorem wvarint_spec {g w : World} {L : List HP} (q : Nat) (xs : List Int) (a : Option Addr) (c : Nat) (u : Int) (hx : xs.length ≤ 1000000) (hu : 0 ≤ u ∧ u ≤ 18446744073709551615) (hS : St g (cel q #[.slice a (List.length (by8 xs)) c] 57 :: Own 5 1 (by8 xs) a c :: L) w) :
    Sp Tryz.prog 24 [.pointer (some ⟨q, 0, none⟩), .int .u64 u] w (fun v w' => ∃ (a2 : Option Addr) (c2 : Nat), v = .tuple #[] ∧ St g (cel q #[.slice a2 (List.length (by8 (xs ++ eU u))) c2] 57 :: Own 5 1 (by8 (xs ++ eU u)) a2 c2 :: L) w') := by
  refine Sp.enter Tryz.func24 rfl (by kernel_rfl) (by kernel_rfl) ?_
  have _ := hu
  have _ := hx
  refine WC.plan [([0, 1, 5, 2, 3, 4], some (6, [0, 1, 2, 3, 4])), ([], some (7, [0])), ([8, 9], some (10, []))] (by kernel_rfl) (by kernel_rfl) ?_
  obtain ⟨k, rfl⟩ : ∃ k : Nat, u = k := ⟨u.toNat, by omega⟩; have hl := varint_len 10 k (by omega) (by omega)
  refine WQ.run 6 [.slice a (List.length (by8 xs)) c] rfl (by exact hS.ld 0 rfl rfl) ?_
  refine WQ.nil ?_
  intro m1
  replace hS := hS.drewN m1; generalize hwm1 : World.drewN _ _ = w at *; clear hwm1
  refine WL.call rfl rfl (appendUvarint (u := k) (hu := (by omega)) (hS := hS)) rfl ?_
  clear hS; rintro _ w ⟨a1, c1, rfl, hS⟩
  replace hS : St g (Own 5 1 (by8 (varint k)) a1 c1 :: cel q #[.slice a (List.length (by8 xs)) c] 57 :: Own 5 1 (by8 xs) a c :: L) w := hS
  refine WL.nil ?_
  refine ⟨by exact ⟨RQ.pure rfl rfl rfl rfl, RQ.pure rfl rfl rfl rfl, RQ.pure rfl rfl rfl rfl, RQ.pure rfl rfl rfl rfl, RQ.load rfl rfl rfl rfl (hS.ld 1 rfl rfl)⟩, ?_⟩
  refine WQ.nil ?_
  intro m2
  replace hS := hS.drewN m2; generalize hwm2 : World.drewN _ _ = w at *; clear hwm2
  refine WL.app rfl rfl 2 (by8 (xs ++ (varint k))) el_24 hS rfl (hS.srcO 0 rfl) (by8_app _ _).symm (Rm.of (by first | omega | (simp <;> omega)) (by decide)) rfl rfl (fun a2 c2 w hS => ?_)
  replace hS : St g (Own 5 1 (by8 (varint k)) a1 c1 :: cel q #[.slice a (List.length (by8 xs)) c] 57 :: Own 5 1 (by8 (xs ++ (varint k))) a2 c2 :: L) w := hS
  refine WL.nil ?_
  refine ⟨by exact RQ.pure rfl rfl rfl rfl, ?_⟩
  refine WQ.r 2 rfl ?_
  refine WQ.nil ?_
  intro m3
  replace hS := hS.drewN m3; generalize hwm3 : World.drewN _ _ = w at *; clear hwm3
  refine WL.st rfl rfl rfl 1 hS rfl rfl rfl rfl rfl rfl (fun w hS => ?_)
  replace hS : St g (Own 5 1 (by8 (varint k)) a1 c1 :: cel q #[.slice a2 (List.length (by8 (xs ++ (varint k)))) c2] 57 :: Own 5 1 (by8 (xs ++ (varint k))) a2 c2 :: L) w := hS
  refine WL.nil ?_
  refine ⟨by exact trivial, ?_⟩
  intro m4
  replace hS := hS.drewN m4; generalize hwm4 : World.drewN _ _ = w at *; clear hwm4
  refine ⟨[], trivial, ?_⟩
  replace hS := (hS.sel 1 [] rfl)
  exact ⟨_, _, rfl, hS⟩
set_option maxRecDepth 8192 in
theorem wsigned_spec {g w : World} {L : List HP} (q : Nat) (xs : List Int) (a : Option Addr) (c : Nat) (n : Int) (hx : xs.length ≤ 1000000) (hn : I64 n) (hS : St g (cel q #[.slice a (List.length (by8 xs)) c] 57 :: Own 5 1 (by8 xs) a c :: L) w) :
    Sp Tryz.prog 25 [.pointer (some ⟨q, 0, none⟩), .int .i64 n] w (fun v w' => ∃ (a2 : Option Addr) (c2 : Nat), v = .tuple #[] ∧ St g (cel q #[.slice a2 (List.length (by8 (xs ++ eZ n))) c2] 57 :: Own 5 1 (by8 (xs ++ eZ n)) a2 c2 :: L) w') := by
  refine Sp.enter Tryz.func25 rfl (by kernel_rfl) (by kernel_rfl) ?_
  have _ := hx
  refine WC.region ?_
  have hz := zz_b hn
  refine WL.r 2 rfl ?_
  refine WL.call rfl rfl (zigzag (n := n) (hn := hn) (hS := hS)) rfl ?_
  clear hS; rintro _ w ⟨rfl, hS⟩
  replace hS : St g (cel q #[.slice a (List.length (by8 xs)) c] 57 :: Own 5 1 (by8 xs) a c :: L) w := hS
  refine WL.call rfl rfl (wvarint_spec (q := q) (xs := xs) (a := a) (c := c) (u := zz n) (hx := (by first | omega | (simp <;> omega))) (hu := (by omega)) (hS := hS)) rfl ?_
  generalize hY1 : xs ++ eU (zz n) = Y1
  clear hS; rintro _ w ⟨a1, c1, rfl, hS⟩
  have hY1f0 : (List.length Y1) ≤ (List.length xs) + 10 := by rw [← hY1, List.length_append]; exact Nat.add_le_add_left (eU_len (by omega)) _
  replace hS : St g (cel q #[.slice a1 (List.length (by8 Y1)) c1] 57 :: Own 5 1 (by8 Y1) a1 c1 :: L) w := hS
  refine WL.nil ?_
  refine ⟨[], trivial, ?_⟩
  subst hY1; exact ⟨_, _, rfl, hS⟩
set_option maxRecDepth 8192 in
theorem wbool_spec {g w : World} {L : List HP} (q : Nat) (xs : List Int) (a : Option Addr) (c : Nat) (x : Bool) (hx : xs.length ≤ 1000000) (hS : St g (cel q #[.slice a (List.length (by8 xs)) c] 57 :: Own 5 1 (by8 xs) a c :: L) w) :
    Sp Tryz.prog 26 [.pointer (some ⟨q, 0, none⟩), .bool x] w (fun v w' => ∃ (a2 : Option Addr) (c2 : Nat), v = .tuple #[] ∧ St g (cel q #[.slice a2 (List.length (by8 (xs ++ eF x))) c2] 57 :: Own 5 1 (by8 (xs ++ eF x)) a2 c2 :: L) w') := by
  refine Sp.enter Tryz.func26 rfl (by kernel_rfl) (by kernel_rfl) ?_
  have _ := hx
  refine WC.seq ?_
  refine WC.region ?_
  refine WL.r 1 rfl ?_
  refine WL.nil ?_
  refine WC.if_ rfl (fun cd1 => ?_) (fun cd1 => ?_)
  · refine WC.region ?_
    refine WL.r 1 rfl ?_
    refine WL.call rfl rfl (wbyte_spec (q := q) (xs := xs) (a := a) (c := c) (x := 1) (hx := (by first | omega | (simp <;> omega))) (hS := hS)) rfl ?_
    generalize hY1 : xs ++ [1] = Y1
    clear hS; rintro _ w ⟨a1, c1, rfl, hS⟩
    have hY1f0 : (List.length Y1) = (List.length xs) + 1 := by rw [← hY1]; simp
    replace hS : St g (cel q #[.slice a1 (List.length (by8 Y1)) c1] 57 :: Own 5 1 (by8 Y1) a1 c1 :: L) w := hS
    refine WL.nil ?_
    refine ⟨[], trivial, ?_⟩
    subst hY1; rw [eF, if_pos cd1]; exact ⟨_, _, rfl, hS⟩
  · refine WC.region ?_
    refine WL.r 1 rfl ?_
    refine WL.call rfl rfl (wbyte_spec (q := q) (xs := xs) (a := a) (c := c) (x := 0) (hx := (by first | omega | (simp <;> omega))) (hS := hS)) rfl ?_
    generalize hY1 : xs ++ [0] = Y1
    clear hS; rintro _ w ⟨a1, c1, rfl, hS⟩
    have hY1f0 : (List.length Y1) = (List.length xs) + 1 := by rw [← hY1]; simp
    replace hS : St g (cel q #[.slice a1 (List.length (by8 Y1)) c1] 57 :: Own 5 1 (by8 Y1) a1 c1 :: L) w := hS
    refine WL.nil ?_
    refine ⟨[], trivial, ?_⟩
    subst hY1; rw [eF, if_neg (by simp [cd1])]; exact ⟨_, _, rfl, hS⟩
set_option maxRecDepth 8192 in
theorem wbytes_spec {g w : World} {L : List HP} (q : Nat) (xs : List Int) (a : Option Addr) (c : Nat) (l : List Int) (la : Option Addr) (lc : Nat) (hx : xs.length ≤ 1000000) (hl : l.length ≤ 1000000) (hS : St g (cel q #[.slice a (List.length (by8 xs)) c] 57 :: Own 5 1 (by8 xs) a c :: Sh 5 1 (by8 l) la lc :: L) w) :
    Sp Tryz.prog 27 [.pointer (some ⟨q, 0, none⟩), .slice la (List.length (by8 l)) lc] w (fun v w' => ∃ (a2 : Option Addr) (c2 : Nat), v = .tuple #[] ∧ St g (cel q #[.slice a2 (List.length (by8 (xs ++ eBytes l))) c2] 57 :: Own 5 1 (by8 (xs ++ eBytes l)) a2 c2 :: Sh 5 1 (by8 l) la lc :: L) w') := by
  refine Sp.enter Tryz.func27 rfl (by kernel_rfl) (by kernel_rfl) ?_
  have _ := hl
  have _ := hx
  refine WC.seq ?_
  refine WC.region ?_
  have hl8 := by8_len l
  refine WL.r 4 rfl ?_
  refine WL.nw 7 rfl (wu64 (by omega)) ?_
  refine WL.call rfl rfl (wvarint_spec (q := q) (xs := xs) (a := a) (c := c) (u := (List.length (by8 l) : Int)) (hx := (by first | omega | (simp <;> omega))) (hu := (by omega)) (hS := hS)) rfl ?_
  generalize hY1 : xs ++ eU (List.length (by8 l) : Int) = Y1
  clear hS; rintro _ w ⟨a1, c1, rfl, hS⟩
  have hY1f0 : (List.length Y1) ≤ (List.length xs) + 10 := by rw [← hY1, List.length_append]; exact Nat.add_le_add_left (eU_len (by omega)) _
  replace hS : St g (cel q #[.slice a1 (List.length (by8 Y1)) c1] 57 :: Own 5 1 (by8 Y1) a1 c1 :: Sh 5 1 (by8 l) la lc :: L) w := hS
  refine WL.nil ?_
  refine WC.region ?_
  refine WL.run 6 [.slice a1 (List.length (by8 Y1)) c1] rfl (by exact hS.ld 0 rfl rfl) ?_
  refine WL.app rfl rfl 1 (by8 (Y1 ++ l)) el_24 hS rfl (hS.srcS 2 rfl) (by8_app _ _).symm (Rm.of (by first | omega | (simp <;> omega)) (by decide)) rfl rfl (fun a2 c2 w hS => ?_)
  replace hS : St g (cel q #[.slice a1 (List.length (by8 Y1)) c1] 57 :: Own 5 1 (by8 (Y1 ++ l)) a2 c2 :: Sh 5 1 (by8 l) la lc :: L) w := hS
  refine WL.r 2 rfl ?_
  refine WL.st rfl rfl rfl 0 hS rfl rfl rfl rfl rfl rfl (fun w hS => ?_)
  replace hS : St g (cel q #[.slice a2 (List.length (by8 (Y1 ++ l))) c2] 57 :: Own 5 1 (by8 (Y1 ++ l)) a2 c2 :: Sh 5 1 (by8 l) la lc :: L) w := hS
  refine WL.nil ?_
  refine ⟨[], trivial, ?_⟩
  subst hY1; rw [hl8] at hS; rw [eBytes, ← List.append_assoc]; exact ⟨_, _, rfl, hS⟩
set_option maxRecDepth 8192 in
theorem wentries_spec {g w : World} {L : List HP} (q : Nat) (xs : List Int) (a : Option Addr) (c : Nat) (l : List (Int × Int)) (la : Option Addr) (lc : Nat) (hx : xs.length ≤ 1000000) (hl : l.length ≤ 10000) (hx2 : xs.length + 31 * l.length ≤ 900000) (hw : En64 l) (hS : St g (cel q #[.slice a (List.length (by8 xs)) c] 57 :: Own 5 1 (by8 xs) a c :: Sh 48 2 (en2 l) la lc :: L) w) :
    Sp Tryz.prog 28 [.pointer (some ⟨q, 0, none⟩), .slice la (List.length (en2 l)) lc] w (fun v w' => ∃ (a2 : Option Addr) (c2 : Nat), v = .tuple #[] ∧ St g (cel q #[.slice a2 (List.length (by8 (xs ++ eEnts l))) c2] 57 :: Own 5 1 (by8 (xs ++ eEnts l)) a2 c2 :: Sh 48 2 (en2 l) la lc :: L) w') := by
  refine Sp.enter Tryz.func28 rfl (by kernel_rfl) (by kernel_rfl) ?_
  have _ := hl
  have _ := hx
  refine WC.seq ?_
  refine WC.region ?_
  have hl2 := en2_len l
  refine WL.r 4 rfl ?_
  refine WL.nw 9 rfl (wu64 (by omega)) ?_
  refine WL.call rfl rfl (wvarint_spec (q := q) (xs := xs) (a := a) (c := c) (u := (List.length (en2 l) : Int)) (hx := (by first | omega | (simp <;> omega))) (hu := (by omega)) (hS := hS)) rfl ?_
  generalize hY1 : xs ++ eU (List.length (en2 l) : Int) = Y1
  clear hS; rintro _ w ⟨a1, c1, rfl, hS⟩
  have hY1f0 : (List.length Y1) ≤ (List.length xs) + 10 := by rw [← hY1, List.length_append]; exact Nat.add_le_add_left (eU_len (by omega)) _
  replace hS : St g (cel q #[.slice a1 (List.length (by8 Y1)) c1] 57 :: Own 5 1 (by8 Y1) a1 c1 :: Sh 48 2 (en2 l) la lc :: L) w := hS
  refine WL.nil ?_
  refine WC.seq ?_
  refine WC.region ?_
  refine WL.r 3 rfl ?_
  refine WL.nil ?_
  refine WC.block ?_
  refine WC.loop [0, 11, 12, 13] (fun kM vs w => ∃ (k : Nat) (ys : List Int) (a3 : Option Addr) (c3 : Nat), vs = [.pointer (some ⟨q, 0, none⟩), .slice la (List.length (en2 l)) lc, .int .i64 (List.length (en2 l) : Int), .int .i64 (k : Int)] ∧ St g (cel q #[.slice a3 (List.length (by8 ys)) c3] 57 :: Own 5 1 (by8 ys) a3 c3 :: Sh 48 2 (en2 l) la lc :: L) w ∧ (k ≤ l.length) ∧ (ys = xs ++ (eU l.length ++ (l.take k).flatMap eEn)) ∧ (ys.length ≤ xs.length + 10 + 20 * k) ∧ (l.length - k) = kM) ((List.length l) - 0) ⟨0, Y1, _, _, rfl, hS, (Nat.zero_le _), (by rw [← hY1, hl2]; simp), (by omega), rfl⟩ ?_
  clear hS; rintro _ _ w j ⟨k, ys, a3, c3, rfl, hS, hk, hys, hyl, rfl⟩
  refine WC.seq ?_
  refine WC.region ?_
  refine WL.r 1 rfl ?_
  refine WL.nil ?_
  refine WC.seq ?_
  refine WC.ifP rfl (fun cd1 => ?_) (fun cd1 => ?_)
  · refine WC.skip ?_
    as_aux_lemma =>
      refine WC.seq ?_
      refine WC.block ?_
      refine WC.seq ?_
      refine WC.region ?_
      obtain ⟨x, hx2⟩ : ∃ x, l[k]? = some x := ⟨_, List.getElem?_eq_getElem (by omega)⟩; have hxw := hw x (List.mem_of_getElem? hx2); obtain ⟨hw1, hw2⟩ := hxw
      refine WL.ix rfl rfl (i := (k : Int)) (k) el_26 rfl rfl (by omega) (len_of (en2_at hx2)) (hS.rdS 2 rfl (en2_at hx2)).1 ?_
      refine WL.ldC rfl rfl [.int .i64 x.1, .int .i64 x.2] ag_48 rfl (hS.rdS 2 rfl (en2_at hx2)).2 ?_
      refine WL.new rfl rfl zv_48 hS (fun b1 w hS => ?_)
      refine WL.stF rfl rfl rfl 0 hS rfl rfl rfl rfl rfl ag_48 (fun w hS => ?_)
      replace hS : St g (cel b1 #[.int .i64 x.1, .int .i64 x.2] 48 :: cel q #[.slice a3 (List.length (by8 ys)) c3] 57 :: Own 5 1 (by8 ys) a3 c3 :: Sh 48 2 (en2 l) la lc :: L) w := hS
      refine WL.nil ?_
      refine WC.seq ?_
      refine WC.region ?_
      refine WL.run 3 [.int .i64 x.1] rfl (by exact hS.ld 0 rfl rfl) ?_
      refine WL.call rfl rfl (wsigned_spec (q := q) (xs := ys) (a := a3) (c := c3) (n := x.1) (hx := (by first | omega | (simp <;> omega))) (hn := (by assumption)) (hS := (hS.sel 3 [1, 1, 0] rfl))) rfl ?_
      generalize hY2 : ys ++ eZ x.1 = Y2
      clear hS; rintro _ w ⟨a2, c2, rfl, hS⟩
      have hY2f0 : (List.length Y2) ≤ (List.length ys) + 10 := by rw [← hY2, List.length_append]; exact Nat.add_le_add_left (eZ_len (by assumption)) _
      replace hS : St g (cel q #[.slice a2 (List.length (by8 Y2)) c2] 57 :: Own 5 1 (by8 Y2) a2 c2 :: cel b1 #[.int .i64 x.1, .int .i64 x.2] 48 :: Sh 48 2 (en2 l) la lc :: L) w := hS
      refine WL.nil ?_
      refine WC.region ?_
      refine WL.run 3 [.int .i64 x.2] rfl (by exact hS.ld 2 rfl rfl) ?_
      refine WL.call rfl rfl (wsigned_spec (q := q) (xs := Y2) (a := a2) (c := c2) (n := x.2) (hx := (by first | omega | (simp <;> omega))) (hn := (by assumption)) (hS := hS)) rfl ?_
      generalize hY3 : Y2 ++ eZ x.2 = Y3
      clear hS; rintro _ w ⟨a3, c3, rfl, hS⟩
      have hY3f0 : (List.length Y3) ≤ (List.length Y2) + 10 := by rw [← hY3, List.length_append]; exact Nat.add_le_add_left (eZ_len (by assumption)) _
      replace hS : St g (cel q #[.slice a3 (List.length (by8 Y3)) c3] 57 :: Own 5 1 (by8 Y3) a3 c3 :: cel b1 #[.int .i64 x.1, .int .i64 x.2] 48 :: Sh 48 2 (en2 l) la lc :: L) w := hS
      refine WL.nil ?_
      as_aux_lemma =>
        refine WC.region ?_
        refine WL.r 1 rfl ?_
        refine WL.nw 25 rfl (w64 (by omega)) ?_
        refine WL.r 1 rfl ?_
        refine WL.nil ?_
        exact ⟨_, by omega, k + 1, Y3, _, _, rfl, (hS.sel 3 [0, 0] rfl), (by omega), (by rw [fm_take eEn hx2, eEn, ← hY3, ← hY2, hys]; simp only [List.append_assoc]), (by omega), rfl⟩
  · refine WC.exit ?_
    refine ⟨[], trivial, ?_⟩
    have h9 : ys = xs ++ eEnts l := by rw [hys, fm_all eEn (by omega), eEnts]; rfl
    rw [← h9]; exact ⟨_, _, rfl, hS⟩
set_option maxRecDepth 8192 in
theorem wchanges_spec {g w : World} {L : List HP} (q : Nat) (xs : List Int) (a : Option Addr) (c : Nat) (l : List (Int × Int × Int × Int)) (la : Option Addr) (lc : Nat) (hx : xs.length ≤ 1000000) (hl : l.length ≤ 10000) (hx2 : xs.length + 31 * l.length ≤ 900000) (hw : Ch64 l) (hS : St g (cel q #[.slice a (List.length (by8 xs)) c] 57 :: Own 5 1 (by8 xs) a c :: Sh 77 4 (ch4 l) la lc :: L) w) :
    Sp Tryz.prog 29 [.pointer (some ⟨q, 0, none⟩), .slice la (List.length (ch4 l)) lc] w (fun v w' => ∃ (a2 : Option Addr) (c2 : Nat), v = .tuple #[] ∧ St g (cel q #[.slice a2 (List.length (by8 (xs ++ eChs l))) c2] 57 :: Own 5 1 (by8 (xs ++ eChs l)) a2 c2 :: Sh 77 4 (ch4 l) la lc :: L) w') := by
  refine Sp.enter Tryz.func29 rfl (by kernel_rfl) (by kernel_rfl) ?_
  have _ := hl
  have _ := hx
  refine WC.seq ?_
  refine WC.region ?_
  have hl2 := ch4_len l
  refine WL.r 4 rfl ?_
  refine WL.nw 9 rfl (wu64 (by omega)) ?_
  refine WL.call rfl rfl (wvarint_spec (q := q) (xs := xs) (a := a) (c := c) (u := (List.length (ch4 l) : Int)) (hx := (by first | omega | (simp <;> omega))) (hu := (by omega)) (hS := hS)) rfl ?_
  generalize hY1 : xs ++ eU (List.length (ch4 l) : Int) = Y1
  clear hS; rintro _ w ⟨a1, c1, rfl, hS⟩
  have hY1f0 : (List.length Y1) ≤ (List.length xs) + 10 := by rw [← hY1, List.length_append]; exact Nat.add_le_add_left (eU_len (by omega)) _
  replace hS : St g (cel q #[.slice a1 (List.length (by8 Y1)) c1] 57 :: Own 5 1 (by8 Y1) a1 c1 :: Sh 77 4 (ch4 l) la lc :: L) w := hS
  refine WL.nil ?_
  refine WC.seq ?_
  refine WC.region ?_
  refine WL.r 3 rfl ?_
  refine WL.nil ?_
  refine WC.block ?_
  refine WC.loop [0, 11, 12, 13] (fun kM vs w => ∃ (k : Nat) (ys : List Int) (a3 : Option Addr) (c3 : Nat), vs = [.pointer (some ⟨q, 0, none⟩), .slice la (List.length (ch4 l)) lc, .int .i64 (List.length (ch4 l) : Int), .int .i64 (k : Int)] ∧ St g (cel q #[.slice a3 (List.length (by8 ys)) c3] 57 :: Own 5 1 (by8 ys) a3 c3 :: Sh 77 4 (ch4 l) la lc :: L) w ∧ (k ≤ l.length) ∧ (ys = xs ++ (eU l.length ++ (l.take k).flatMap eCh)) ∧ (ys.length ≤ xs.length + 10 + 31 * k) ∧ (l.length - k) = kM) ((List.length l) - 0) ⟨0, Y1, _, _, rfl, hS, (Nat.zero_le _), (by rw [← hY1, hl2]; simp), (by omega), rfl⟩ ?_
  clear hS; rintro _ _ w j ⟨k, ys, a3, c3, rfl, hS, hk, hys, hyl, rfl⟩
  refine WC.seq ?_
  refine WC.region ?_
  refine WL.r 1 rfl ?_
  refine WL.nil ?_
  refine WC.seq ?_
  refine WC.ifP rfl (fun cd1 => ?_) (fun cd1 => ?_)
  · refine WC.skip ?_
    as_aux_lemma =>
      refine WC.seq ?_
      refine WC.block ?_
      refine WC.seq ?_
      refine WC.region ?_
      obtain ⟨x, hx2⟩ : ∃ x, l[k]? = some x := ⟨_, List.getElem?_eq_getElem (by omega)⟩; have hxw := hw x (List.mem_of_getElem? hx2); obtain ⟨hw1, hw2, hw3, hw4⟩ := hxw
      refine WL.ix rfl rfl (i := (k : Int)) (k) el_27 rfl rfl (by omega) (len_of (ch4_at hx2)) (hS.rdS 2 rfl (ch4_at hx2)).1 ?_
      refine WL.ldC rfl rfl [.int .i64 x.1, .int .i64 x.2.1, .int .i64 x.2.2.1, .int .i64 x.2.2.2] ag_77 rfl (hS.rdS 2 rfl (ch4_at hx2)).2 ?_
      refine WL.new rfl rfl zv_77 hS (fun b1 w hS => ?_)
      refine WL.stF rfl rfl rfl 0 hS rfl rfl rfl rfl rfl ag_77 (fun w hS => ?_)
      replace hS : St g (cel b1 #[.int .i64 x.1, .int .i64 x.2.1, .int .i64 x.2.2.1, .int .i64 x.2.2.2] 77 :: cel q #[.slice a3 (List.length (by8 ys)) c3] 57 :: Own 5 1 (by8 ys) a3 c3 :: Sh 77 4 (ch4 l) la lc :: L) w := hS
      refine WL.nil ?_
      refine WC.seq ?_
      refine WC.region ?_
      refine WL.run 4 [.int .i64 x.1] rfl (by exact hS.ld 0 rfl rfl) ?_
      refine WL.reb 20 (.int .u8 (x.1 % 256)) (congrArg (Value.int .u8) (by rfl)) ?_
      refine WL.call rfl rfl (wbyte_spec (q := q) (xs := ys) (a := a3) (c := c3) (x := x.1 % 256) (hx := (by first | omega | (simp <;> omega))) (hS := (hS.sel 3 [1, 1, 0] rfl))) rfl ?_
      generalize hY2 : ys ++ [x.1 % 256] = Y2
      clear hS; rintro _ w ⟨a2, c2, rfl, hS⟩
      have hY2f0 : (List.length Y2) = (List.length ys) + 1 := by rw [← hY2]; simp
      replace hS : St g (cel q #[.slice a2 (List.length (by8 Y2)) c2] 57 :: Own 5 1 (by8 Y2) a2 c2 :: cel b1 #[.int .i64 x.1, .int .i64 x.2.1, .int .i64 x.2.2.1, .int .i64 x.2.2.2] 77 :: Sh 77 4 (ch4 l) la lc :: L) w := hS
      refine WL.nil ?_
      refine WC.seq ?_
      refine WC.region ?_
      refine WL.run 3 [.int .i64 x.2.1] rfl (by exact hS.ld 2 rfl rfl) ?_
      refine WL.call rfl rfl (wsigned_spec (q := q) (xs := Y2) (a := a2) (c := c2) (n := x.2.1) (hx := (by first | omega | (simp <;> omega))) (hn := (by assumption)) (hS := hS)) rfl ?_
      generalize hY3 : Y2 ++ eZ x.2.1 = Y3
      clear hS; rintro _ w ⟨a3, c3, rfl, hS⟩
      have hY3f0 : (List.length Y3) ≤ (List.length Y2) + 10 := by rw [← hY3, List.length_append]; exact Nat.add_le_add_left (eZ_len (by assumption)) _
      replace hS : St g (cel q #[.slice a3 (List.length (by8 Y3)) c3] 57 :: Own 5 1 (by8 Y3) a3 c3 :: cel b1 #[.int .i64 x.1, .int .i64 x.2.1, .int .i64 x.2.2.1, .int .i64 x.2.2.2] 77 :: Sh 77 4 (ch4 l) la lc :: L) w := hS
      refine WL.nil ?_
      as_aux_lemma =>
        refine WC.seq ?_
        refine WC.region ?_
        refine WL.run 3 [.int .i64 x.2.2.1] rfl (by exact hS.ld 2 rfl rfl) ?_
        refine WL.call rfl rfl (wsigned_spec (q := q) (xs := Y3) (a := a3) (c := c3) (n := x.2.2.1) (hx := (by first | omega | (simp <;> omega))) (hn := (by assumption)) (hS := hS)) rfl ?_
        generalize hY4 : Y3 ++ eZ x.2.2.1 = Y4
        clear hS; rintro _ w ⟨a4, c4, rfl, hS⟩
        have hY4f0 : (List.length Y4) ≤ (List.length Y3) + 10 := by rw [← hY4, List.length_append]; exact Nat.add_le_add_left (eZ_len (by assumption)) _
        replace hS : St g (cel q #[.slice a4 (List.length (by8 Y4)) c4] 57 :: Own 5 1 (by8 Y4) a4 c4 :: cel b1 #[.int .i64 x.1, .int .i64 x.2.1, .int .i64 x.2.2.1, .int .i64 x.2.2.2] 77 :: Sh 77 4 (ch4 l) la lc :: L) w := hS
        refine WL.nil ?_
        refine WC.region ?_
        refine WL.run 3 [.int .i64 x.2.2.2] rfl (by exact hS.ld 2 rfl rfl) ?_
        refine WL.call rfl rfl (wsigned_spec (q := q) (xs := Y4) (a := a4) (c := c4) (n := x.2.2.2) (hx := (by first | omega | (simp <;> omega))) (hn := (by assumption)) (hS := hS)) rfl ?_
        generalize hY5 : Y4 ++ eZ x.2.2.2 = Y5
        clear hS; rintro _ w ⟨a5, c5, rfl, hS⟩
        have hY5f0 : (List.length Y5) ≤ (List.length Y4) + 10 := by rw [← hY5, List.length_append]; exact Nat.add_le_add_left (eZ_len (by assumption)) _
        replace hS : St g (cel q #[.slice a5 (List.length (by8 Y5)) c5] 57 :: Own 5 1 (by8 Y5) a5 c5 :: cel b1 #[.int .i64 x.1, .int .i64 x.2.1, .int .i64 x.2.2.1, .int .i64 x.2.2.2] 77 :: Sh 77 4 (ch4 l) la lc :: L) w := hS
        refine WL.nil ?_
        refine WC.region ?_
        refine WL.r 1 rfl ?_
        refine WL.nw 34 rfl (w64 (by omega)) ?_
        refine WL.r 1 rfl ?_
        refine WL.nil ?_
        exact ⟨_, by omega, k + 1, Y5, _, _, rfl, (hS.sel 3 [0, 0] rfl), (by omega), (by rw [fm_take eCh hx2, eCh, ← hY5, ← hY4, ← hY3, ← hY2, hys]; simp only [List.append_assoc, List.cons_append, List.nil_append]), (by omega), rfl⟩
  · refine WC.exit ?_
    refine ⟨[], trivial, ?_⟩
    have h9 : ys = xs ++ eChs l := by rw [hys, fm_all eCh (by omega), eChs]; rfl
    rw [← h9]; exact ⟨_, _, rfl, hS⟩
end Go.Proofs.YthcmigbamkohpaaGreatDoor
/-! ## Fld -/
namespace Go.Proofs.YthcmigbamkohpaaGreatDoor
open Go Go.V
set_option maxRecDepth 8192 in
theorem fields_spec {g w : World} {L : List HP} (c : Int) (hS : St g (L) w) :
    Sp Tryz.prog 13 [.int .i64 c] w (fun v w' => v = .tuple #[.string (mkS (fs c)), .bool (isOp c)] ∧ St g (L) w') := by
  refine Sp.enter Tryz.func13 rfl (by kernel_rfl) (by kernel_rfl) ?_
  refine WC.seq ?_
  refine WC.region ?_
  refine WL.r 2 rfl ?_
  refine WL.nil ?_
  refine WC.seq ?_
  refine WC.seq ?_
  refine WC.region ?_
  refine WL.r 1 rfl ?_
  refine WL.nil ?_
  refine WC.block ?_
  refine WC.seq ?_
  refine WC.seq ?_
  refine WC.region ?_
  refine WL.r 2 rfl ?_
  refine WL.nil ?_
  refine WC.ifP rfl (fun cd1 => ?_) (fun cd1 => ?_)
  · refine WC.skip ?_
    refine WC.ifT rfl (decide_eq_true cd1) ?_
    refine WC.seq ?_
    refine WC.region ?_
    refine WL.r 2 rfl ?_
    refine WL.nil ?_
    refine WC.ret ?_
    refine ⟨[.string ⟨#[]⟩, .bool true], ⟨rfl, rfl⟩, ?_⟩
    subst cd1; exact ⟨rfl, hS⟩
  · refine WC.region ?_
    refine WL.r 2 rfl ?_
    refine WL.nil ?_
    refine WC.ifP rfl (fun cd2 => ?_) (fun cd2 => ?_)
    · refine WC.seq ?_
      refine WC.region ?_
      refine WL.r 2 rfl ?_
      refine WL.nil ?_
      as_aux_lemma =>
        refine WC.ret ?_
        refine ⟨[.string ⟨#[]⟩, .bool true], ⟨rfl, rfl⟩, ?_⟩
        subst cd2; exact ⟨rfl, hS⟩
    · refine WC.seq ?_
      refine WC.seq ?_
      refine WC.region ?_
      refine WL.r 2 rfl ?_
      refine WL.nil ?_
      as_aux_lemma =>
        refine WC.ifP rfl (fun cd3 => ?_) (fun cd3 => ?_)
        · refine WC.skip ?_
          refine WC.ifT rfl (decide_eq_true cd3) ?_
          refine WC.seq ?_
          refine WC.region ?_
          refine WL.r 2 rfl ?_
          refine WL.nil ?_
          refine WC.ret ?_
          refine ⟨[.string ⟨#[65, 75]⟩, .bool true], ⟨rfl, rfl⟩, ?_⟩
          subst cd3; exact ⟨rfl, hS⟩
        · refine WC.seq ?_
          refine WC.region ?_
          refine WL.r 2 rfl ?_
          refine WL.nil ?_
          refine WC.ifP rfl (fun cd4 => ?_) (fun cd4 => ?_)
          · refine WC.skip ?_
            refine WC.ifT rfl (decide_eq_true cd4) ?_
            refine WC.seq ?_
            refine WC.region ?_
            refine WL.r 2 rfl ?_
            refine WL.nil ?_
            refine WC.ret ?_
            refine ⟨[.string ⟨#[65, 75]⟩, .bool true], ⟨rfl, rfl⟩, ?_⟩
            subst cd4; exact ⟨rfl, hS⟩
          · refine WC.seq ?_
            refine WC.region ?_
            refine WL.r 2 rfl ?_
            refine WL.nil ?_
            refine WC.ifP rfl (fun cd5 => ?_) (fun cd5 => ?_)
            · refine WC.skip ?_
              refine WC.ifT rfl (decide_eq_true cd5) ?_
              refine WC.seq ?_
              refine WC.region ?_
              refine WL.r 2 rfl ?_
              refine WL.nil ?_
              refine WC.ret ?_
              refine ⟨[.string ⟨#[65, 75]⟩, .bool true], ⟨rfl, rfl⟩, ?_⟩
              subst cd5; exact ⟨rfl, hS⟩
            · refine WC.seq ?_
              refine WC.region ?_
              refine WL.r 2 rfl ?_
              refine WL.nil ?_
              refine WC.ifP rfl (fun cd6 => ?_) (fun cd6 => ?_)
              · refine WC.skip ?_
                refine WC.ifT rfl (decide_eq_true cd6) ?_
                refine WC.seq ?_
                refine WC.region ?_
                refine WL.r 2 rfl ?_
                refine WL.nil ?_
                refine WC.ret ?_
                refine ⟨[.string ⟨#[65, 75]⟩, .bool true], ⟨rfl, rfl⟩, ?_⟩
                subst cd6; exact ⟨rfl, hS⟩
              · refine WC.region ?_
                refine WL.r 2 rfl ?_
                refine WL.nil ?_
                refine WC.ifP rfl (fun cd7 => ?_) (fun cd7 => ?_)
                · refine WC.seq ?_
                  refine WC.region ?_
                  refine WL.r 2 rfl ?_
                  refine WL.nil ?_
                  refine WC.ret ?_
                  refine ⟨[.string ⟨#[65, 75]⟩, .bool true], ⟨rfl, rfl⟩, ?_⟩
                  subst cd7; exact ⟨rfl, hS⟩
                · refine WC.seq ?_
                  refine WC.seq ?_
                  refine WC.region ?_
                  refine WL.r 2 rfl ?_
                  refine WL.nil ?_
                  as_aux_lemma =>
                    refine WC.ifP rfl (fun cd8 => ?_) (fun cd8 => ?_)
                    · refine WC.skip ?_
                      refine WC.ifT rfl (decide_eq_true cd8) ?_
                      refine WC.seq ?_
                      refine WC.region ?_
                      refine WL.r 2 rfl ?_
                      refine WL.nil ?_
                      refine WC.ret ?_
                      refine ⟨[.string ⟨#[65, 75, 86]⟩, .bool true], ⟨rfl, rfl⟩, ?_⟩
                      subst cd8; exact ⟨rfl, hS⟩
                    · refine WC.seq ?_
                      refine WC.region ?_
                      refine WL.r 2 rfl ?_
                      refine WL.nil ?_
                      refine WC.ifP rfl (fun cd9 => ?_) (fun cd9 => ?_)
                      · refine WC.skip ?_
                        refine WC.ifT rfl (decide_eq_true cd9) ?_
                        refine WC.seq ?_
                        refine WC.region ?_
                        refine WL.r 2 rfl ?_
                        refine WL.nil ?_
                        refine WC.ret ?_
                        refine ⟨[.string ⟨#[65, 75, 86]⟩, .bool true], ⟨rfl, rfl⟩, ?_⟩
                        subst cd9; exact ⟨rfl, hS⟩
                      · refine WC.region ?_
                        refine WL.r 2 rfl ?_
                        refine WL.nil ?_
                        refine WC.ifP rfl (fun cd10 => ?_) (fun cd10 => ?_)
                        · refine WC.seq ?_
                          refine WC.region ?_
                          refine WL.r 2 rfl ?_
                          refine WL.nil ?_
                          refine WC.ret ?_
                          refine ⟨[.string ⟨#[65, 75, 86]⟩, .bool true], ⟨rfl, rfl⟩, ?_⟩
                          subst cd10; exact ⟨rfl, hS⟩
                        · refine WC.seq ?_
                          refine WC.region ?_
                          refine WL.r 2 rfl ?_
                          refine WL.nil ?_
                          refine WC.ifP rfl (fun cd11 => ?_) (fun cd11 => ?_)
                          · refine WC.seq ?_
                            refine WC.region ?_
                            refine WL.r 2 rfl ?_
                            refine WL.nil ?_
                            refine WC.ret ?_
                            refine ⟨[.string ⟨#[65, 67]⟩, .bool true], ⟨rfl, rfl⟩, ?_⟩
                            subst cd11; exact ⟨rfl, hS⟩
                          · refine WC.seq ?_
                            refine WC.region ?_
                            refine WL.r 2 rfl ?_
                            refine WL.nil ?_
                            refine WC.ifP rfl (fun cd12 => ?_) (fun cd12 => ?_)
                            · refine WC.seq ?_
                              refine WC.region ?_
                              refine WL.r 2 rfl ?_
                              refine WL.nil ?_
                              refine WC.ret ?_
                              refine ⟨[.string ⟨#[69]⟩, .bool true], ⟨rfl, rfl⟩, ?_⟩
                              subst cd12; exact ⟨rfl, hS⟩
                            · refine WC.seq ?_
                              refine WC.seq ?_
                              refine WC.region ?_
                              refine WL.r 2 rfl ?_
                              refine WL.nil ?_
                              as_aux_lemma =>
                                refine WC.ifP rfl (fun cd13 => ?_) (fun cd13 => ?_)
                                · refine WC.skip ?_
                                  refine WC.ifT rfl (decide_eq_true cd13) ?_
                                  refine WC.seq ?_
                                  refine WC.region ?_
                                  refine WL.r 2 rfl ?_
                                  refine WL.nil ?_
                                  refine WC.ret ?_
                                  refine ⟨[.string ⟨#[65]⟩, .bool true], ⟨rfl, rfl⟩, ?_⟩
                                  subst cd13; exact ⟨rfl, hS⟩
                                · refine WC.seq ?_
                                  refine WC.region ?_
                                  refine WL.r 2 rfl ?_
                                  refine WL.nil ?_
                                  refine WC.ifP rfl (fun cd14 => ?_) (fun cd14 => ?_)
                                  · refine WC.skip ?_
                                    refine WC.ifT rfl (decide_eq_true cd14) ?_
                                    refine WC.seq ?_
                                    refine WC.region ?_
                                    refine WL.r 2 rfl ?_
                                    refine WL.nil ?_
                                    refine WC.ret ?_
                                    refine ⟨[.string ⟨#[65]⟩, .bool true], ⟨rfl, rfl⟩, ?_⟩
                                    subst cd14; exact ⟨rfl, hS⟩
                                  · refine WC.seq ?_
                                    refine WC.region ?_
                                    refine WL.r 2 rfl ?_
                                    refine WL.nil ?_
                                    refine WC.ifP rfl (fun cd15 => ?_) (fun cd15 => ?_)
                                    · refine WC.skip ?_
                                      refine WC.ifT rfl (decide_eq_true cd15) ?_
                                      refine WC.seq ?_
                                      refine WC.region ?_
                                      refine WL.r 2 rfl ?_
                                      refine WL.nil ?_
                                      refine WC.ret ?_
                                      refine ⟨[.string ⟨#[65]⟩, .bool true], ⟨rfl, rfl⟩, ?_⟩
                                      subst cd15; exact ⟨rfl, hS⟩
                                    · refine WC.seq ?_
                                      refine WC.region ?_
                                      refine WL.r 2 rfl ?_
                                      refine WL.nil ?_
                                      refine WC.ifP rfl (fun cd16 => ?_) (fun cd16 => ?_)
                                      · refine WC.skip ?_
                                        refine WC.ifT rfl (decide_eq_true cd16) ?_
                                        refine WC.seq ?_
                                        refine WC.region ?_
                                        refine WL.r 2 rfl ?_
                                        refine WL.nil ?_
                                        refine WC.ret ?_
                                        refine ⟨[.string ⟨#[65]⟩, .bool true], ⟨rfl, rfl⟩, ?_⟩
                                        subst cd16; exact ⟨rfl, hS⟩
                                      · refine WC.region ?_
                                        refine WL.r 2 rfl ?_
                                        refine WL.nil ?_
                                        refine WC.ifP rfl (fun cd17 => ?_) (fun cd17 => ?_)
                                        · refine WC.seq ?_
                                          refine WC.region ?_
                                          refine WL.r 2 rfl ?_
                                          refine WL.nil ?_
                                          refine WC.ret ?_
                                          refine ⟨[.string ⟨#[65]⟩, .bool true], ⟨rfl, rfl⟩, ?_⟩
                                          subst cd17; exact ⟨rfl, hS⟩
                                        · refine WC.seq ?_
                                          refine WC.region ?_
                                          refine WL.r 2 rfl ?_
                                          refine WL.nil ?_
                                          refine WC.ifP rfl (fun cd18 => ?_) (fun cd18 => ?_)
                                          · refine WC.seq ?_
                                            refine WC.region ?_
                                            refine WL.r 2 rfl ?_
                                            refine WL.nil ?_
                                            as_aux_lemma =>
                                              refine WC.ret ?_
                                              refine ⟨[.string ⟨#[65, 66, 78]⟩, .bool true], ⟨rfl, rfl⟩, ?_⟩
                                              subst cd18; exact ⟨rfl, hS⟩
                                          · refine WC.seq ?_
                                            refine WC.region ?_
                                            refine WL.r 2 rfl ?_
                                            refine WL.nil ?_
                                            as_aux_lemma =>
                                              refine WC.ifP rfl (fun cd19 => ?_) (fun cd19 => ?_)
                                              · refine WC.seq ?_
                                                refine WC.region ?_
                                                refine WL.r 2 rfl ?_
                                                refine WL.nil ?_
                                                refine WC.ret ?_
                                                refine ⟨[.string ⟨#[65, 66, 78, 86]⟩, .bool true], ⟨rfl, rfl⟩, ?_⟩
                                                subst cd19; exact ⟨rfl, hS⟩
                                              · refine WC.seq ?_
                                                refine WC.seq ?_
                                                refine WC.region ?_
                                                refine WL.r 2 rfl ?_
                                                refine WL.nil ?_
                                                refine WC.ifP rfl (fun cd20 => ?_) (fun cd20 => ?_)
                                                · refine WC.skip ?_
                                                  refine WC.ifT rfl (decide_eq_true cd20) ?_
                                                  refine WC.seq ?_
                                                  refine WC.region ?_
                                                  refine WL.r 2 rfl ?_
                                                  refine WL.nil ?_
                                                  refine WC.ret ?_
                                                  refine ⟨[.string ⟨#[65, 76, 72, 78]⟩, .bool true], ⟨rfl, rfl⟩, ?_⟩
                                                  subst cd20; exact ⟨rfl, hS⟩
                                                · refine WC.region ?_
                                                  refine WL.r 2 rfl ?_
                                                  refine WL.nil ?_
                                                  refine WC.ifP rfl (fun cd21 => ?_) (fun cd21 => ?_)
                                                  · refine WC.seq ?_
                                                    refine WC.region ?_
                                                    refine WL.r 2 rfl ?_
                                                    refine WL.nil ?_
                                                    refine WC.ret ?_
                                                    refine ⟨[.string ⟨#[65, 76, 72, 78]⟩, .bool true], ⟨rfl, rfl⟩, ?_⟩
                                                    subst cd21; exact ⟨rfl, hS⟩
                                                  · refine WC.seq ?_
                                                    refine WC.seq ?_
                                                    refine WC.region ?_
                                                    refine WL.r 2 rfl ?_
                                                    refine WL.nil ?_
                                                    refine WC.ifP rfl (fun cd22 => ?_) (fun cd22 => ?_)
                                                    · refine WC.skip ?_
                                                      refine WC.ifT rfl (decide_eq_true cd22) ?_
                                                      refine WC.seq ?_
                                                      refine WC.region ?_
                                                      refine WL.r 2 rfl ?_
                                                      refine WL.nil ?_
                                                      refine WC.ret ?_
                                                      refine ⟨[.string ⟨#[65, 66]⟩, .bool true], ⟨rfl, rfl⟩, ?_⟩
                                                      subst cd22; exact ⟨rfl, hS⟩
                                                    · refine WC.seq ?_
                                                      refine WC.region ?_
                                                      refine WL.r 2 rfl ?_
                                                      refine WL.nil ?_
                                                      refine WC.ifP rfl (fun cd23 => ?_) (fun cd23 => ?_)
                                                      · refine WC.skip ?_
                                                        refine WC.ifT rfl (decide_eq_true cd23) ?_
                                                        refine WC.seq ?_
                                                        refine WC.region ?_
                                                        refine WL.r 2 rfl ?_
                                                        refine WL.nil ?_
                                                        as_aux_lemma =>
                                                          refine WC.ret ?_
                                                          refine ⟨[.string ⟨#[65, 66]⟩, .bool true], ⟨rfl, rfl⟩, ?_⟩
                                                          subst cd23; exact ⟨rfl, hS⟩
                                                      · refine WC.seq ?_
                                                        refine WC.region ?_
                                                        refine WL.r 2 rfl ?_
                                                        refine WL.nil ?_
                                                        as_aux_lemma =>
                                                          refine WC.ifP rfl (fun cd24 => ?_) (fun cd24 => ?_)
                                                          · refine WC.skip ?_
                                                            refine WC.ifT rfl (decide_eq_true cd24) ?_
                                                            refine WC.seq ?_
                                                            refine WC.region ?_
                                                            refine WL.r 2 rfl ?_
                                                            refine WL.nil ?_
                                                            refine WC.ret ?_
                                                            refine ⟨[.string ⟨#[65, 66]⟩, .bool true], ⟨rfl, rfl⟩, ?_⟩
                                                            subst cd24; exact ⟨rfl, hS⟩
                                                          · refine WC.region ?_
                                                            refine WL.r 2 rfl ?_
                                                            refine WL.nil ?_
                                                            refine WC.ifP rfl (fun cd25 => ?_) (fun cd25 => ?_)
                                                            · refine WC.seq ?_
                                                              refine WC.region ?_
                                                              refine WL.r 2 rfl ?_
                                                              refine WL.nil ?_
                                                              refine WC.ret ?_
                                                              refine ⟨[.string ⟨#[65, 66]⟩, .bool true], ⟨rfl, rfl⟩, ?_⟩
                                                              subst cd25; exact ⟨rfl, hS⟩
                                                            · refine WC.seq ?_
                                                              refine WC.seq ?_
                                                              refine WC.region ?_
                                                              refine WL.r 2 rfl ?_
                                                              refine WL.nil ?_
                                                              refine WC.ifP rfl (fun cd26 => ?_) (fun cd26 => ?_)
                                                              · refine WC.skip ?_
                                                                refine WC.ifT rfl (decide_eq_true cd26) ?_
                                                                refine WC.seq ?_
                                                                refine WC.region ?_
                                                                refine WL.r 2 rfl ?_
                                                                refine WL.nil ?_
                                                                refine WC.ret ?_
                                                                refine ⟨[.string ⟨#[65, 75, 78]⟩, .bool true], ⟨rfl, rfl⟩, ?_⟩
                                                                subst cd26; exact ⟨rfl, hS⟩
                                                              · refine WC.region ?_
                                                                refine WL.r 2 rfl ?_
                                                                refine WL.nil ?_
                                                                refine WC.ifP rfl (fun cd27 => ?_) (fun cd27 => ?_)
                                                                · refine WC.seq ?_
                                                                  refine WC.region ?_
                                                                  refine WL.r 2 rfl ?_
                                                                  refine WL.nil ?_
                                                                  refine WC.ret ?_
                                                                  refine ⟨[.string ⟨#[65, 75, 78]⟩, .bool true], ⟨rfl, rfl⟩, ?_⟩
                                                                  subst cd27; exact ⟨rfl, hS⟩
                                                                · refine WC.seq ?_
                                                                  refine WC.region ?_
                                                                  refine WL.r 2 rfl ?_
                                                                  refine WL.nil ?_
                                                                  refine WC.ifP rfl (fun cd28 => ?_) (fun cd28 => ?_)
                                                                  · refine WC.seq ?_
                                                                    refine WC.region ?_
                                                                    refine WL.r 2 rfl ?_
                                                                    refine WL.nil ?_
                                                                    refine WC.ret ?_
                                                                    refine ⟨[.string ⟨#[65, 78]⟩, .bool true], ⟨rfl, rfl⟩, ?_⟩
                                                                    subst cd28; exact ⟨rfl, hS⟩
                                                                  · refine WC.seq ?_
                                                                    refine WC.seq ?_
                                                                    refine WC.region ?_
                                                                    refine WL.r 2 rfl ?_
                                                                    refine WL.nil ?_
                                                                    as_aux_lemma =>
                                                                      refine WC.ifP rfl (fun cd29 => ?_) (fun cd29 => ?_)
                                                                      · refine WC.skip ?_
                                                                        refine WC.ifT rfl (decide_eq_true cd29) ?_
                                                                        refine WC.seq ?_
                                                                        refine WC.region ?_
                                                                        refine WL.r 2 rfl ?_
                                                                        refine WL.nil ?_
                                                                        refine WC.ret ?_
                                                                        refine ⟨[.string ⟨#[65, 76, 72]⟩, .bool true], ⟨rfl, rfl⟩, ?_⟩
                                                                        subst cd29; exact ⟨rfl, hS⟩
                                                                      · refine WC.seq ?_
                                                                        refine WC.region ?_
                                                                        refine WL.r 2 rfl ?_
                                                                        refine WL.nil ?_
                                                                        refine WC.ifP rfl (fun cd30 => ?_) (fun cd30 => ?_)
                                                                        · refine WC.skip ?_
                                                                          refine WC.ifT rfl (decide_eq_true cd30) ?_
                                                                          refine WC.seq ?_
                                                                          refine WC.region ?_
                                                                          refine WL.r 2 rfl ?_
                                                                          refine WL.nil ?_
                                                                          refine WC.ret ?_
                                                                          refine ⟨[.string ⟨#[65, 76, 72]⟩, .bool true], ⟨rfl, rfl⟩, ?_⟩
                                                                          subst cd30; exact ⟨rfl, hS⟩
                                                                        · refine WC.region ?_
                                                                          refine WL.r 2 rfl ?_
                                                                          refine WL.nil ?_
                                                                          refine WC.ifP rfl (fun cd31 => ?_) (fun cd31 => ?_)
                                                                          · refine WC.seq ?_
                                                                            refine WC.region ?_
                                                                            refine WL.r 2 rfl ?_
                                                                            refine WL.nil ?_
                                                                            refine WC.ret ?_
                                                                            refine ⟨[.string ⟨#[65, 76, 72]⟩, .bool true], ⟨rfl, rfl⟩, ?_⟩
                                                                            subst cd31; exact ⟨rfl, hS⟩
                                                                          · refine WC.seq ?_
                                                                            refine WC.region ?_
                                                                            refine WL.r 2 rfl ?_
                                                                            refine WL.nil ?_
                                                                            refine WC.ifP rfl (fun cd32 => ?_) (fun cd32 => ?_)
                                                                            · refine WC.seq ?_
                                                                              refine WC.region ?_
                                                                              refine WL.r 2 rfl ?_
                                                                              refine WL.nil ?_
                                                                              refine WC.ret ?_
                                                                              refine ⟨[.string ⟨#[65, 76, 72, 78, 70, 89]⟩, .bool true], ⟨rfl, rfl⟩, ?_⟩
                                                                              subst cd32; exact ⟨rfl, hS⟩
                                                                            · refine WC.seq ?_
                                                                              refine WC.region ?_
                                                                              refine WL.r 2 rfl ?_
                                                                              refine WL.nil ?_
                                                                              refine WC.ifP rfl (fun cd33 => ?_) (fun cd33 => ?_)
                                                                              · refine WC.seq ?_
                                                                                refine WC.region ?_
                                                                                refine WL.r 2 rfl ?_
                                                                                refine WL.nil ?_
                                                                                refine WC.ret ?_
                                                                                refine ⟨[.string ⟨#[65, 66, 83]⟩, .bool true], ⟨rfl, rfl⟩, ?_⟩
                                                                                subst cd33; exact ⟨rfl, hS⟩
                                                                              · refine WC.seq ?_
                                                                                refine WC.region ?_
                                                                                refine WL.r 2 rfl ?_
                                                                                refine WL.nil ?_
                                                                                refine WC.ifP rfl (fun cd34 => ?_) (fun cd34 => ?_)
                                                                                · refine WC.seq ?_
                                                                                  refine WC.region ?_
                                                                                  refine WL.r 2 rfl ?_
                                                                                  refine WL.nil ?_
                                                                                  as_aux_lemma =>
                                                                                    refine WC.ret ?_
                                                                                    refine ⟨[.string ⟨#[83]⟩, .bool true], ⟨rfl, rfl⟩, ?_⟩
                                                                                    subst cd34; exact ⟨rfl, hS⟩
                                                                                · refine WC.seq ?_
                                                                                  refine WC.region ?_
                                                                                  refine WL.r 2 rfl ?_
                                                                                  refine WL.nil ?_
                                                                                  as_aux_lemma =>
                                                                                    refine WC.ifP rfl (fun cd35 => ?_) (fun cd35 => ?_)
                                                                                    · refine WC.seq ?_
                                                                                      refine WC.region ?_
                                                                                      refine WL.r 2 rfl ?_
                                                                                      refine WL.nil ?_
                                                                                      refine WC.ret ?_
                                                                                      refine ⟨[.string ⟨#[66, 89]⟩, .bool true], ⟨rfl, rfl⟩, ?_⟩
                                                                                      subst cd35; exact ⟨rfl, hS⟩
                                                                                    · refine WC.skip ?_
                                                                                      refine WC.seq ?_
                                                                                      refine WC.region ?_
                                                                                      refine WL.r 2 rfl ?_
                                                                                      refine WL.nil ?_
                                                                                      refine WC.ret ?_
                                                                                      refine ⟨[.string ⟨#[]⟩, .bool false], ⟨rfl, rfl⟩, ?_⟩
                                                                                      have h0 : ¬ (1 ≤ c ∧ c ≤ 35) := by omega
                                                                                      rw [fs_none h0, isOp, decide_eq_false h0]; exact ⟨rfl, hS⟩
end Go.Proofs.YthcmigbamkohpaaGreatDoor
/-! ## Opw -/
namespace Go.Proofs.YthcmigbamkohpaaGreatDoor
open Go Go.V
set_option maxRecDepth 8192 in
theorem clear_spec {g w : World} {L : List HP} (y : ZM) (ab ae ac : Option Addr) (cb ce cc : Nat) (f : Int) (hS : St g (L) w) :
    Sp Tryz.prog 23 [.agg #[.int .i64 y.code, .int .u64 y.a, .int .u64 y.b, .int .i64 y.key, .int .i64 y.val, .int .i64 y.lo, .int .i64 y.hi, .int .i64 y.n, .bool y.flag, .string y.name, .slice ab y.lb cb, .slice ae y.le ce, .slice ac y.lc cc], .int .i32 f] w (fun v w' => ∃ (ab2 ae2 ac2 : Option Addr) (cb2 ce2 cc2 : Nat), v = .agg #[.int .i64 (clrZ f y).code, .int .u64 (clrZ f y).a, .int .u64 (clrZ f y).b, .int .i64 (clrZ f y).key, .int .i64 (clrZ f y).val, .int .i64 (clrZ f y).lo, .int .i64 (clrZ f y).hi, .int .i64 (clrZ f y).n, .bool (clrZ f y).flag, .string (clrZ f y).name, .slice ab2 (clrZ f y).lb cb2, .slice ae2 (clrZ f y).le ce2, .slice ac2 (clrZ f y).lc cc2] ∧ St g (L) w') := by
  refine Sp.enter Tryz.func23 rfl (by kernel_rfl) (by kernel_rfl) ?_
  refine WC.seq ?_
  refine WC.region ?_
  refine WL.box rfl rfl #[.int .i64 y.code, .int .u64 y.a, .int .u64 y.b, .int .i64 y.key, .int .i64 y.val, .int .i64 y.lo, .int .i64 y.hi, .int .i64 y.n, .bool y.flag, .string y.name, .slice ab y.lb cb, .slice ae y.le ce, .slice ac y.lc cc] hS rfl rfl (fun b1 w hS => ?_)
  refine WL.new rfl rfl zv_29 hS (fun b2 w hS => ?_)
  refine WL.nil ?_
  refine WC.seq ?_
  refine WC.seq ?_
  refine WC.region ?_
  refine WL.r 1 rfl ?_
  refine WL.nil ?_
  refine WC.block ?_
  refine WC.seq ?_
  refine WC.region ?_
  refine WL.r 2 rfl ?_
  refine WL.nil ?_
  refine WC.ifP rfl (fun cd1 => ?_) (fun cd1 => ?_)
  · refine WC.region ?_
    refine WL.r 1 rfl ?_
    refine WL.st rfl rfl rfl 1 hS rfl rfl rfl rfl rfl rfl (fun w hS => ?_)
    replace hS : St g (cel b2 #[.int .i64 0, .int .u64 0, .int .u64 0, .int .i64 0, .int .i64 0, .int .i64 0, .int .i64 0, .int .i64 0, .bool false, .string ⟨#[]⟩, .slice none 0 0, .slice none 0 0, .slice none 0 0] 29 :: cel b1 #[.int .i64 y.code, .int .u64 0, .int .u64 y.b, .int .i64 y.key, .int .i64 y.val, .int .i64 y.lo, .int .i64 y.hi, .int .i64 y.n, .bool y.flag, .string y.name, .slice ab y.lb cb, .slice ae y.le ce, .slice ac y.lc cc] 29 :: L) w := hS
    refine WL.nil ?_
    refine WC.seq ?_
    refine WC.region ?_
    refine WL.ldF rfl rfl 1 hS rfl rfl ag_29 ?_
    refine WL.stF rfl rfl rfl 0 hS rfl rfl rfl rfl rfl ag_29 (fun w hS => ?_)
    replace hS : St g (cel b2 #[.int .i64 y.code, .int .u64 0, .int .u64 y.b, .int .i64 y.key, .int .i64 y.val, .int .i64 y.lo, .int .i64 y.hi, .int .i64 y.n, .bool y.flag, .string y.name, .slice ab y.lb cb, .slice ae y.le ce, .slice ac y.lc cc] 29 :: cel b1 #[.int .i64 y.code, .int .u64 0, .int .u64 y.b, .int .i64 y.key, .int .i64 y.val, .int .i64 y.lo, .int .i64 y.hi, .int .i64 y.n, .bool y.flag, .string y.name, .slice ab y.lb cb, .slice ae y.le ce, .slice ac y.lc cc] 29 :: L) w := hS
    refine WL.nil ?_
    as_aux_lemma =>
      refine WC.ret ?_
      refine ⟨[.agg #[.int .i64 y.code, .int .u64 0, .int .u64 y.b, .int .i64 y.key, .int .i64 y.val, .int .i64 y.lo, .int .i64 y.hi, .int .i64 y.n, .bool y.flag, .string y.name, .slice ab y.lb cb, .slice ae y.le ce, .slice ac y.lc cc]], ⟨⟨_, rfl, hS.lvF 0 rfl ag_29⟩, trivial⟩, ?_⟩
      replace hS := (hS.sel 2 [] rfl)
      subst cd1; rw [clrZ_A]; exact ⟨_, _, _, _, _, _, rfl, hS⟩
  · refine WC.seq ?_
    refine WC.region ?_
    refine WL.r 2 rfl ?_
    refine WL.nil ?_
    refine WC.ifP rfl (fun cd2 => ?_) (fun cd2 => ?_)
    · refine WC.region ?_
      refine WL.r 1 rfl ?_
      refine WL.st rfl rfl rfl 1 hS rfl rfl rfl rfl rfl rfl (fun w hS => ?_)
      replace hS : St g (cel b2 #[.int .i64 0, .int .u64 0, .int .u64 0, .int .i64 0, .int .i64 0, .int .i64 0, .int .i64 0, .int .i64 0, .bool false, .string ⟨#[]⟩, .slice none 0 0, .slice none 0 0, .slice none 0 0] 29 :: cel b1 #[.int .i64 y.code, .int .u64 y.a, .int .u64 0, .int .i64 y.key, .int .i64 y.val, .int .i64 y.lo, .int .i64 y.hi, .int .i64 y.n, .bool y.flag, .string y.name, .slice ab y.lb cb, .slice ae y.le ce, .slice ac y.lc cc] 29 :: L) w := hS
      refine WL.nil ?_
      as_aux_lemma =>
        refine WC.seq ?_
        refine WC.region ?_
        refine WL.ldF rfl rfl 1 hS rfl rfl ag_29 ?_
        refine WL.stF rfl rfl rfl 0 hS rfl rfl rfl rfl rfl ag_29 (fun w hS => ?_)
        replace hS : St g (cel b2 #[.int .i64 y.code, .int .u64 y.a, .int .u64 0, .int .i64 y.key, .int .i64 y.val, .int .i64 y.lo, .int .i64 y.hi, .int .i64 y.n, .bool y.flag, .string y.name, .slice ab y.lb cb, .slice ae y.le ce, .slice ac y.lc cc] 29 :: cel b1 #[.int .i64 y.code, .int .u64 y.a, .int .u64 0, .int .i64 y.key, .int .i64 y.val, .int .i64 y.lo, .int .i64 y.hi, .int .i64 y.n, .bool y.flag, .string y.name, .slice ab y.lb cb, .slice ae y.le ce, .slice ac y.lc cc] 29 :: L) w := hS
        refine WL.nil ?_
        refine WC.ret ?_
        refine ⟨[.agg #[.int .i64 y.code, .int .u64 y.a, .int .u64 0, .int .i64 y.key, .int .i64 y.val, .int .i64 y.lo, .int .i64 y.hi, .int .i64 y.n, .bool y.flag, .string y.name, .slice ab y.lb cb, .slice ae y.le ce, .slice ac y.lc cc]], ⟨⟨_, rfl, hS.lvF 0 rfl ag_29⟩, trivial⟩, ?_⟩
        replace hS := (hS.sel 2 [] rfl)
        subst cd2; rw [clrZ_B]; exact ⟨_, _, _, _, _, _, rfl, hS⟩
    · refine WC.seq ?_
      refine WC.region ?_
      refine WL.r 2 rfl ?_
      refine WL.nil ?_
      as_aux_lemma =>
        refine WC.ifP rfl (fun cd3 => ?_) (fun cd3 => ?_)
        · refine WC.region ?_
          refine WL.r 1 rfl ?_
          refine WL.st rfl rfl rfl 1 hS rfl rfl rfl rfl rfl rfl (fun w hS => ?_)
          replace hS : St g (cel b2 #[.int .i64 0, .int .u64 0, .int .u64 0, .int .i64 0, .int .i64 0, .int .i64 0, .int .i64 0, .int .i64 0, .bool false, .string ⟨#[]⟩, .slice none 0 0, .slice none 0 0, .slice none 0 0] 29 :: cel b1 #[.int .i64 y.code, .int .u64 y.a, .int .u64 y.b, .int .i64 0, .int .i64 y.val, .int .i64 y.lo, .int .i64 y.hi, .int .i64 y.n, .bool y.flag, .string y.name, .slice ab y.lb cb, .slice ae y.le ce, .slice ac y.lc cc] 29 :: L) w := hS
          refine WL.nil ?_
          refine WC.seq ?_
          refine WC.region ?_
          refine WL.ldF rfl rfl 1 hS rfl rfl ag_29 ?_
          refine WL.stF rfl rfl rfl 0 hS rfl rfl rfl rfl rfl ag_29 (fun w hS => ?_)
          replace hS : St g (cel b2 #[.int .i64 y.code, .int .u64 y.a, .int .u64 y.b, .int .i64 0, .int .i64 y.val, .int .i64 y.lo, .int .i64 y.hi, .int .i64 y.n, .bool y.flag, .string y.name, .slice ab y.lb cb, .slice ae y.le ce, .slice ac y.lc cc] 29 :: cel b1 #[.int .i64 y.code, .int .u64 y.a, .int .u64 y.b, .int .i64 0, .int .i64 y.val, .int .i64 y.lo, .int .i64 y.hi, .int .i64 y.n, .bool y.flag, .string y.name, .slice ab y.lb cb, .slice ae y.le ce, .slice ac y.lc cc] 29 :: L) w := hS
          refine WL.nil ?_
          refine WC.ret ?_
          refine ⟨[.agg #[.int .i64 y.code, .int .u64 y.a, .int .u64 y.b, .int .i64 0, .int .i64 y.val, .int .i64 y.lo, .int .i64 y.hi, .int .i64 y.n, .bool y.flag, .string y.name, .slice ab y.lb cb, .slice ae y.le ce, .slice ac y.lc cc]], ⟨⟨_, rfl, hS.lvF 0 rfl ag_29⟩, trivial⟩, ?_⟩
          replace hS := (hS.sel 2 [] rfl)
          subst cd3; rw [clrZ_K]; exact ⟨_, _, _, _, _, _, rfl, hS⟩
        · refine WC.seq ?_
          refine WC.region ?_
          refine WL.r 2 rfl ?_
          refine WL.nil ?_
          refine WC.ifP rfl (fun cd4 => ?_) (fun cd4 => ?_)
          · refine WC.region ?_
            refine WL.r 1 rfl ?_
            refine WL.st rfl rfl rfl 1 hS rfl rfl rfl rfl rfl rfl (fun w hS => ?_)
            replace hS : St g (cel b2 #[.int .i64 0, .int .u64 0, .int .u64 0, .int .i64 0, .int .i64 0, .int .i64 0, .int .i64 0, .int .i64 0, .bool false, .string ⟨#[]⟩, .slice none 0 0, .slice none 0 0, .slice none 0 0] 29 :: cel b1 #[.int .i64 y.code, .int .u64 y.a, .int .u64 y.b, .int .i64 y.key, .int .i64 0, .int .i64 y.lo, .int .i64 y.hi, .int .i64 y.n, .bool y.flag, .string y.name, .slice ab y.lb cb, .slice ae y.le ce, .slice ac y.lc cc] 29 :: L) w := hS
            refine WL.nil ?_
            refine WC.seq ?_
            refine WC.region ?_
            refine WL.ldF rfl rfl 1 hS rfl rfl ag_29 ?_
            refine WL.stF rfl rfl rfl 0 hS rfl rfl rfl rfl rfl ag_29 (fun w hS => ?_)
            replace hS : St g (cel b2 #[.int .i64 y.code, .int .u64 y.a, .int .u64 y.b, .int .i64 y.key, .int .i64 0, .int .i64 y.lo, .int .i64 y.hi, .int .i64 y.n, .bool y.flag, .string y.name, .slice ab y.lb cb, .slice ae y.le ce, .slice ac y.lc cc] 29 :: cel b1 #[.int .i64 y.code, .int .u64 y.a, .int .u64 y.b, .int .i64 y.key, .int .i64 0, .int .i64 y.lo, .int .i64 y.hi, .int .i64 y.n, .bool y.flag, .string y.name, .slice ab y.lb cb, .slice ae y.le ce, .slice ac y.lc cc] 29 :: L) w := hS
            refine WL.nil ?_
            refine WC.ret ?_
            refine ⟨[.agg #[.int .i64 y.code, .int .u64 y.a, .int .u64 y.b, .int .i64 y.key, .int .i64 0, .int .i64 y.lo, .int .i64 y.hi, .int .i64 y.n, .bool y.flag, .string y.name, .slice ab y.lb cb, .slice ae y.le ce, .slice ac y.lc cc]], ⟨⟨_, rfl, hS.lvF 0 rfl ag_29⟩, trivial⟩, ?_⟩
            replace hS := (hS.sel 2 [] rfl)
            subst cd4; rw [clrZ_V]; exact ⟨_, _, _, _, _, _, rfl, hS⟩
          · refine WC.seq ?_
            refine WC.region ?_
            refine WL.r 2 rfl ?_
            refine WL.nil ?_
            refine WC.ifP rfl (fun cd5 => ?_) (fun cd5 => ?_)
            · refine WC.region ?_
              refine WL.r 1 rfl ?_
              refine WL.st rfl rfl rfl 1 hS rfl rfl rfl rfl rfl rfl (fun w hS => ?_)
              replace hS : St g (cel b2 #[.int .i64 0, .int .u64 0, .int .u64 0, .int .i64 0, .int .i64 0, .int .i64 0, .int .i64 0, .int .i64 0, .bool false, .string ⟨#[]⟩, .slice none 0 0, .slice none 0 0, .slice none 0 0] 29 :: cel b1 #[.int .i64 y.code, .int .u64 y.a, .int .u64 y.b, .int .i64 y.key, .int .i64 y.val, .int .i64 0, .int .i64 y.hi, .int .i64 y.n, .bool y.flag, .string y.name, .slice ab y.lb cb, .slice ae y.le ce, .slice ac y.lc cc] 29 :: L) w := hS
              refine WL.nil ?_
              refine WC.seq ?_
              refine WC.region ?_
              refine WL.ldF rfl rfl 1 hS rfl rfl ag_29 ?_
              refine WL.stF rfl rfl rfl 0 hS rfl rfl rfl rfl rfl ag_29 (fun w hS => ?_)
              replace hS : St g (cel b2 #[.int .i64 y.code, .int .u64 y.a, .int .u64 y.b, .int .i64 y.key, .int .i64 y.val, .int .i64 0, .int .i64 y.hi, .int .i64 y.n, .bool y.flag, .string y.name, .slice ab y.lb cb, .slice ae y.le ce, .slice ac y.lc cc] 29 :: cel b1 #[.int .i64 y.code, .int .u64 y.a, .int .u64 y.b, .int .i64 y.key, .int .i64 y.val, .int .i64 0, .int .i64 y.hi, .int .i64 y.n, .bool y.flag, .string y.name, .slice ab y.lb cb, .slice ae y.le ce, .slice ac y.lc cc] 29 :: L) w := hS
              refine WL.nil ?_
              refine WC.ret ?_
              refine ⟨[.agg #[.int .i64 y.code, .int .u64 y.a, .int .u64 y.b, .int .i64 y.key, .int .i64 y.val, .int .i64 0, .int .i64 y.hi, .int .i64 y.n, .bool y.flag, .string y.name, .slice ab y.lb cb, .slice ae y.le ce, .slice ac y.lc cc]], ⟨⟨_, rfl, hS.lvF 0 rfl ag_29⟩, trivial⟩, ?_⟩
              replace hS := (hS.sel 2 [] rfl)
              subst cd5; rw [clrZ_L]; exact ⟨_, _, _, _, _, _, rfl, hS⟩
            · refine WC.seq ?_
              refine WC.region ?_
              refine WL.r 2 rfl ?_
              refine WL.nil ?_
              refine WC.ifP rfl (fun cd6 => ?_) (fun cd6 => ?_)
              · refine WC.region ?_
                refine WL.r 1 rfl ?_
                refine WL.st rfl rfl rfl 1 hS rfl rfl rfl rfl rfl rfl (fun w hS => ?_)
                replace hS : St g (cel b2 #[.int .i64 0, .int .u64 0, .int .u64 0, .int .i64 0, .int .i64 0, .int .i64 0, .int .i64 0, .int .i64 0, .bool false, .string ⟨#[]⟩, .slice none 0 0, .slice none 0 0, .slice none 0 0] 29 :: cel b1 #[.int .i64 y.code, .int .u64 y.a, .int .u64 y.b, .int .i64 y.key, .int .i64 y.val, .int .i64 y.lo, .int .i64 0, .int .i64 y.n, .bool y.flag, .string y.name, .slice ab y.lb cb, .slice ae y.le ce, .slice ac y.lc cc] 29 :: L) w := hS
                refine WL.nil ?_
                refine WC.seq ?_
                refine WC.region ?_
                refine WL.ldF rfl rfl 1 hS rfl rfl ag_29 ?_
                refine WL.stF rfl rfl rfl 0 hS rfl rfl rfl rfl rfl ag_29 (fun w hS => ?_)
                replace hS : St g (cel b2 #[.int .i64 y.code, .int .u64 y.a, .int .u64 y.b, .int .i64 y.key, .int .i64 y.val, .int .i64 y.lo, .int .i64 0, .int .i64 y.n, .bool y.flag, .string y.name, .slice ab y.lb cb, .slice ae y.le ce, .slice ac y.lc cc] 29 :: cel b1 #[.int .i64 y.code, .int .u64 y.a, .int .u64 y.b, .int .i64 y.key, .int .i64 y.val, .int .i64 y.lo, .int .i64 0, .int .i64 y.n, .bool y.flag, .string y.name, .slice ab y.lb cb, .slice ae y.le ce, .slice ac y.lc cc] 29 :: L) w := hS
                refine WL.nil ?_
                as_aux_lemma =>
                  refine WC.ret ?_
                  refine ⟨[.agg #[.int .i64 y.code, .int .u64 y.a, .int .u64 y.b, .int .i64 y.key, .int .i64 y.val, .int .i64 y.lo, .int .i64 0, .int .i64 y.n, .bool y.flag, .string y.name, .slice ab y.lb cb, .slice ae y.le ce, .slice ac y.lc cc]], ⟨⟨_, rfl, hS.lvF 0 rfl ag_29⟩, trivial⟩, ?_⟩
                  replace hS := (hS.sel 2 [] rfl)
                  subst cd6; rw [clrZ_H]; exact ⟨_, _, _, _, _, _, rfl, hS⟩
              · refine WC.seq ?_
                refine WC.region ?_
                refine WL.r 2 rfl ?_
                refine WL.nil ?_
                refine WC.ifP rfl (fun cd7 => ?_) (fun cd7 => ?_)
                · refine WC.region ?_
                  refine WL.r 1 rfl ?_
                  refine WL.st rfl rfl rfl 1 hS rfl rfl rfl rfl rfl rfl (fun w hS => ?_)
                  replace hS : St g (cel b2 #[.int .i64 0, .int .u64 0, .int .u64 0, .int .i64 0, .int .i64 0, .int .i64 0, .int .i64 0, .int .i64 0, .bool false, .string ⟨#[]⟩, .slice none 0 0, .slice none 0 0, .slice none 0 0] 29 :: cel b1 #[.int .i64 y.code, .int .u64 y.a, .int .u64 y.b, .int .i64 y.key, .int .i64 y.val, .int .i64 y.lo, .int .i64 y.hi, .int .i64 0, .bool y.flag, .string y.name, .slice ab y.lb cb, .slice ae y.le ce, .slice ac y.lc cc] 29 :: L) w := hS
                  refine WL.nil ?_
                  as_aux_lemma =>
                    refine WC.seq ?_
                    refine WC.region ?_
                    refine WL.ldF rfl rfl 1 hS rfl rfl ag_29 ?_
                    refine WL.stF rfl rfl rfl 0 hS rfl rfl rfl rfl rfl ag_29 (fun w hS => ?_)
                    replace hS : St g (cel b2 #[.int .i64 y.code, .int .u64 y.a, .int .u64 y.b, .int .i64 y.key, .int .i64 y.val, .int .i64 y.lo, .int .i64 y.hi, .int .i64 0, .bool y.flag, .string y.name, .slice ab y.lb cb, .slice ae y.le ce, .slice ac y.lc cc] 29 :: cel b1 #[.int .i64 y.code, .int .u64 y.a, .int .u64 y.b, .int .i64 y.key, .int .i64 y.val, .int .i64 y.lo, .int .i64 y.hi, .int .i64 0, .bool y.flag, .string y.name, .slice ab y.lb cb, .slice ae y.le ce, .slice ac y.lc cc] 29 :: L) w := hS
                    refine WL.nil ?_
                    refine WC.ret ?_
                    refine ⟨[.agg #[.int .i64 y.code, .int .u64 y.a, .int .u64 y.b, .int .i64 y.key, .int .i64 y.val, .int .i64 y.lo, .int .i64 y.hi, .int .i64 0, .bool y.flag, .string y.name, .slice ab y.lb cb, .slice ae y.le ce, .slice ac y.lc cc]], ⟨⟨_, rfl, hS.lvF 0 rfl ag_29⟩, trivial⟩, ?_⟩
                    replace hS := (hS.sel 2 [] rfl)
                    subst cd7; rw [clrZ_N]; exact ⟨_, _, _, _, _, _, rfl, hS⟩
                · refine WC.seq ?_
                  refine WC.region ?_
                  refine WL.r 2 rfl ?_
                  refine WL.nil ?_
                  as_aux_lemma =>
                    refine WC.ifP rfl (fun cd8 => ?_) (fun cd8 => ?_)
                    · refine WC.region ?_
                      refine WL.r 1 rfl ?_
                      refine WL.st rfl rfl rfl 1 hS rfl rfl rfl rfl rfl rfl (fun w hS => ?_)
                      replace hS : St g (cel b2 #[.int .i64 0, .int .u64 0, .int .u64 0, .int .i64 0, .int .i64 0, .int .i64 0, .int .i64 0, .int .i64 0, .bool false, .string ⟨#[]⟩, .slice none 0 0, .slice none 0 0, .slice none 0 0] 29 :: cel b1 #[.int .i64 y.code, .int .u64 y.a, .int .u64 y.b, .int .i64 y.key, .int .i64 y.val, .int .i64 y.lo, .int .i64 y.hi, .int .i64 y.n, .bool false, .string y.name, .slice ab y.lb cb, .slice ae y.le ce, .slice ac y.lc cc] 29 :: L) w := hS
                      refine WL.nil ?_
                      refine WC.seq ?_
                      refine WC.region ?_
                      refine WL.ldF rfl rfl 1 hS rfl rfl ag_29 ?_
                      refine WL.stF rfl rfl rfl 0 hS rfl rfl rfl rfl rfl ag_29 (fun w hS => ?_)
                      replace hS : St g (cel b2 #[.int .i64 y.code, .int .u64 y.a, .int .u64 y.b, .int .i64 y.key, .int .i64 y.val, .int .i64 y.lo, .int .i64 y.hi, .int .i64 y.n, .bool false, .string y.name, .slice ab y.lb cb, .slice ae y.le ce, .slice ac y.lc cc] 29 :: cel b1 #[.int .i64 y.code, .int .u64 y.a, .int .u64 y.b, .int .i64 y.key, .int .i64 y.val, .int .i64 y.lo, .int .i64 y.hi, .int .i64 y.n, .bool false, .string y.name, .slice ab y.lb cb, .slice ae y.le ce, .slice ac y.lc cc] 29 :: L) w := hS
                      refine WL.nil ?_
                      refine WC.ret ?_
                      refine ⟨[.agg #[.int .i64 y.code, .int .u64 y.a, .int .u64 y.b, .int .i64 y.key, .int .i64 y.val, .int .i64 y.lo, .int .i64 y.hi, .int .i64 y.n, .bool false, .string y.name, .slice ab y.lb cb, .slice ae y.le ce, .slice ac y.lc cc]], ⟨⟨_, rfl, hS.lvF 0 rfl ag_29⟩, trivial⟩, ?_⟩
                      replace hS := (hS.sel 2 [] rfl)
                      subst cd8; rw [clrZ_F]; exact ⟨_, _, _, _, _, _, rfl, hS⟩
                    · refine WC.seq ?_
                      refine WC.region ?_
                      refine WL.r 2 rfl ?_
                      refine WL.nil ?_
                      refine WC.ifP rfl (fun cd9 => ?_) (fun cd9 => ?_)
                      · refine WC.region ?_
                        refine WL.r 1 rfl ?_
                        refine WL.st rfl rfl rfl 1 hS rfl rfl rfl rfl rfl rfl (fun w hS => ?_)
                        replace hS : St g (cel b2 #[.int .i64 0, .int .u64 0, .int .u64 0, .int .i64 0, .int .i64 0, .int .i64 0, .int .i64 0, .int .i64 0, .bool false, .string ⟨#[]⟩, .slice none 0 0, .slice none 0 0, .slice none 0 0] 29 :: cel b1 #[.int .i64 y.code, .int .u64 y.a, .int .u64 y.b, .int .i64 y.key, .int .i64 y.val, .int .i64 y.lo, .int .i64 y.hi, .int .i64 y.n, .bool y.flag, .string ⟨#[]⟩, .slice ab y.lb cb, .slice ae y.le ce, .slice ac y.lc cc] 29 :: L) w := hS
                        refine WL.nil ?_
                        refine WC.seq ?_
                        refine WC.region ?_
                        refine WL.ldF rfl rfl 1 hS rfl rfl ag_29 ?_
                        refine WL.stF rfl rfl rfl 0 hS rfl rfl rfl rfl rfl ag_29 (fun w hS => ?_)
                        replace hS : St g (cel b2 #[.int .i64 y.code, .int .u64 y.a, .int .u64 y.b, .int .i64 y.key, .int .i64 y.val, .int .i64 y.lo, .int .i64 y.hi, .int .i64 y.n, .bool y.flag, .string ⟨#[]⟩, .slice ab y.lb cb, .slice ae y.le ce, .slice ac y.lc cc] 29 :: cel b1 #[.int .i64 y.code, .int .u64 y.a, .int .u64 y.b, .int .i64 y.key, .int .i64 y.val, .int .i64 y.lo, .int .i64 y.hi, .int .i64 y.n, .bool y.flag, .string ⟨#[]⟩, .slice ab y.lb cb, .slice ae y.le ce, .slice ac y.lc cc] 29 :: L) w := hS
                        refine WL.nil ?_
                        refine WC.ret ?_
                        refine ⟨[.agg #[.int .i64 y.code, .int .u64 y.a, .int .u64 y.b, .int .i64 y.key, .int .i64 y.val, .int .i64 y.lo, .int .i64 y.hi, .int .i64 y.n, .bool y.flag, .string ⟨#[]⟩, .slice ab y.lb cb, .slice ae y.le ce, .slice ac y.lc cc]], ⟨⟨_, rfl, hS.lvF 0 rfl ag_29⟩, trivial⟩, ?_⟩
                        replace hS := (hS.sel 2 [] rfl)
                        subst cd9; rw [clrZ_S]; exact ⟨_, _, _, _, _, _, rfl, hS⟩
                      · refine WC.seq ?_
                        refine WC.region ?_
                        refine WL.r 2 rfl ?_
                        refine WL.nil ?_
                        refine WC.ifP rfl (fun cd10 => ?_) (fun cd10 => ?_)
                        · refine WC.region ?_
                          refine WL.r 1 rfl ?_
                          refine WL.st rfl rfl rfl 1 hS rfl rfl rfl rfl rfl rfl (fun w hS => ?_)
                          replace hS : St g (cel b2 #[.int .i64 0, .int .u64 0, .int .u64 0, .int .i64 0, .int .i64 0, .int .i64 0, .int .i64 0, .int .i64 0, .bool false, .string ⟨#[]⟩, .slice none 0 0, .slice none 0 0, .slice none 0 0] 29 :: cel b1 #[.int .i64 y.code, .int .u64 y.a, .int .u64 y.b, .int .i64 y.key, .int .i64 y.val, .int .i64 y.lo, .int .i64 y.hi, .int .i64 y.n, .bool y.flag, .string y.name, .slice none 0 0, .slice ae y.le ce, .slice ac y.lc cc] 29 :: L) w := hS
                          refine WL.nil ?_
                          refine WC.seq ?_
                          refine WC.region ?_
                          refine WL.ldF rfl rfl 1 hS rfl rfl ag_29 ?_
                          refine WL.stF rfl rfl rfl 0 hS rfl rfl rfl rfl rfl ag_29 (fun w hS => ?_)
                          replace hS : St g (cel b2 #[.int .i64 y.code, .int .u64 y.a, .int .u64 y.b, .int .i64 y.key, .int .i64 y.val, .int .i64 y.lo, .int .i64 y.hi, .int .i64 y.n, .bool y.flag, .string y.name, .slice none 0 0, .slice ae y.le ce, .slice ac y.lc cc] 29 :: cel b1 #[.int .i64 y.code, .int .u64 y.a, .int .u64 y.b, .int .i64 y.key, .int .i64 y.val, .int .i64 y.lo, .int .i64 y.hi, .int .i64 y.n, .bool y.flag, .string y.name, .slice none 0 0, .slice ae y.le ce, .slice ac y.lc cc] 29 :: L) w := hS
                          refine WL.nil ?_
                          refine WC.ret ?_
                          refine ⟨[.agg #[.int .i64 y.code, .int .u64 y.a, .int .u64 y.b, .int .i64 y.key, .int .i64 y.val, .int .i64 y.lo, .int .i64 y.hi, .int .i64 y.n, .bool y.flag, .string y.name, .slice none 0 0, .slice ae y.le ce, .slice ac y.lc cc]], ⟨⟨_, rfl, hS.lvF 0 rfl ag_29⟩, trivial⟩, ?_⟩
                          replace hS := (hS.sel 2 [] rfl)
                          subst cd10; rw [clrZ_Y]; exact ⟨_, _, _, _, _, _, rfl, hS⟩
                        · refine WC.seq ?_
                          refine WC.region ?_
                          refine WL.r 2 rfl ?_
                          refine WL.nil ?_
                          refine WC.ifP rfl (fun cd11 => ?_) (fun cd11 => ?_)
                          · refine WC.region ?_
                            refine WL.r 1 rfl ?_
                            refine WL.st rfl rfl rfl 1 hS rfl rfl rfl rfl rfl rfl (fun w hS => ?_)
                            replace hS : St g (cel b2 #[.int .i64 0, .int .u64 0, .int .u64 0, .int .i64 0, .int .i64 0, .int .i64 0, .int .i64 0, .int .i64 0, .bool false, .string ⟨#[]⟩, .slice none 0 0, .slice none 0 0, .slice none 0 0] 29 :: cel b1 #[.int .i64 y.code, .int .u64 y.a, .int .u64 y.b, .int .i64 y.key, .int .i64 y.val, .int .i64 y.lo, .int .i64 y.hi, .int .i64 y.n, .bool y.flag, .string y.name, .slice ab y.lb cb, .slice none 0 0, .slice ac y.lc cc] 29 :: L) w := hS
                            refine WL.nil ?_
                            refine WC.seq ?_
                            refine WC.region ?_
                            refine WL.ldF rfl rfl 1 hS rfl rfl ag_29 ?_
                            refine WL.stF rfl rfl rfl 0 hS rfl rfl rfl rfl rfl ag_29 (fun w hS => ?_)
                            replace hS : St g (cel b2 #[.int .i64 y.code, .int .u64 y.a, .int .u64 y.b, .int .i64 y.key, .int .i64 y.val, .int .i64 y.lo, .int .i64 y.hi, .int .i64 y.n, .bool y.flag, .string y.name, .slice ab y.lb cb, .slice none 0 0, .slice ac y.lc cc] 29 :: cel b1 #[.int .i64 y.code, .int .u64 y.a, .int .u64 y.b, .int .i64 y.key, .int .i64 y.val, .int .i64 y.lo, .int .i64 y.hi, .int .i64 y.n, .bool y.flag, .string y.name, .slice ab y.lb cb, .slice none 0 0, .slice ac y.lc cc] 29 :: L) w := hS
                            refine WL.nil ?_
                            as_aux_lemma =>
                              refine WC.ret ?_
                              refine ⟨[.agg #[.int .i64 y.code, .int .u64 y.a, .int .u64 y.b, .int .i64 y.key, .int .i64 y.val, .int .i64 y.lo, .int .i64 y.hi, .int .i64 y.n, .bool y.flag, .string y.name, .slice ab y.lb cb, .slice none 0 0, .slice ac y.lc cc]], ⟨⟨_, rfl, hS.lvF 0 rfl ag_29⟩, trivial⟩, ?_⟩
                              replace hS := (hS.sel 2 [] rfl)
                              subst cd11; rw [clrZ_E]; exact ⟨_, _, _, _, _, _, rfl, hS⟩
                          · refine WC.seq ?_
                            refine WC.region ?_
                            refine WL.r 2 rfl ?_
                            refine WL.nil ?_
                            refine WC.ifP rfl (fun cd12 => ?_) (fun cd12 => ?_)
                            · refine WC.region ?_
                              refine WL.r 1 rfl ?_
                              refine WL.st rfl rfl rfl 1 hS rfl rfl rfl rfl rfl rfl (fun w hS => ?_)
                              replace hS : St g (cel b2 #[.int .i64 0, .int .u64 0, .int .u64 0, .int .i64 0, .int .i64 0, .int .i64 0, .int .i64 0, .int .i64 0, .bool false, .string ⟨#[]⟩, .slice none 0 0, .slice none 0 0, .slice none 0 0] 29 :: cel b1 #[.int .i64 y.code, .int .u64 y.a, .int .u64 y.b, .int .i64 y.key, .int .i64 y.val, .int .i64 y.lo, .int .i64 y.hi, .int .i64 y.n, .bool y.flag, .string y.name, .slice ab y.lb cb, .slice ae y.le ce, .slice none 0 0] 29 :: L) w := hS
                              refine WL.nil ?_
                              as_aux_lemma =>
                                refine WC.seq ?_
                                refine WC.region ?_
                                refine WL.ldF rfl rfl 1 hS rfl rfl ag_29 ?_
                                refine WL.stF rfl rfl rfl 0 hS rfl rfl rfl rfl rfl ag_29 (fun w hS => ?_)
                                replace hS : St g (cel b2 #[.int .i64 y.code, .int .u64 y.a, .int .u64 y.b, .int .i64 y.key, .int .i64 y.val, .int .i64 y.lo, .int .i64 y.hi, .int .i64 y.n, .bool y.flag, .string y.name, .slice ab y.lb cb, .slice ae y.le ce, .slice none 0 0] 29 :: cel b1 #[.int .i64 y.code, .int .u64 y.a, .int .u64 y.b, .int .i64 y.key, .int .i64 y.val, .int .i64 y.lo, .int .i64 y.hi, .int .i64 y.n, .bool y.flag, .string y.name, .slice ab y.lb cb, .slice ae y.le ce, .slice none 0 0] 29 :: L) w := hS
                                refine WL.nil ?_
                                refine WC.ret ?_
                                refine ⟨[.agg #[.int .i64 y.code, .int .u64 y.a, .int .u64 y.b, .int .i64 y.key, .int .i64 y.val, .int .i64 y.lo, .int .i64 y.hi, .int .i64 y.n, .bool y.flag, .string y.name, .slice ab y.lb cb, .slice ae y.le ce, .slice none 0 0]], ⟨⟨_, rfl, hS.lvF 0 rfl ag_29⟩, trivial⟩, ?_⟩
                                replace hS := (hS.sel 2 [] rfl)
                                subst cd12; rw [clrZ_C]; exact ⟨_, _, _, _, _, _, rfl, hS⟩
                            · refine WC.skip ?_
                              refine WC.seq ?_
                              refine WC.region ?_
                              refine WL.ldF rfl rfl 1 hS rfl rfl ag_29 ?_
                              refine WL.stF rfl rfl rfl 0 hS rfl rfl rfl rfl rfl ag_29 (fun w hS => ?_)
                              replace hS : St g (cel b2 #[.int .i64 y.code, .int .u64 y.a, .int .u64 y.b, .int .i64 y.key, .int .i64 y.val, .int .i64 y.lo, .int .i64 y.hi, .int .i64 y.n, .bool y.flag, .string y.name, .slice ab y.lb cb, .slice ae y.le ce, .slice ac y.lc cc] 29 :: cel b1 #[.int .i64 y.code, .int .u64 y.a, .int .u64 y.b, .int .i64 y.key, .int .i64 y.val, .int .i64 y.lo, .int .i64 y.hi, .int .i64 y.n, .bool y.flag, .string y.name, .slice ab y.lb cb, .slice ae y.le ce, .slice ac y.lc cc] 29 :: L) w := hS
                              refine WL.nil ?_
                              as_aux_lemma =>
                                refine WC.ret ?_
                                refine ⟨[.agg #[.int .i64 y.code, .int .u64 y.a, .int .u64 y.b, .int .i64 y.key, .int .i64 y.val, .int .i64 y.lo, .int .i64 y.hi, .int .i64 y.n, .bool y.flag, .string y.name, .slice ab y.lb cb, .slice ae y.le ce, .slice ac y.lc cc]], ⟨⟨_, rfl, hS.lvF 0 rfl ag_29⟩, trivial⟩, ?_⟩
                                replace hS := (hS.sel 2 [] rfl)
                                rw [clrZ_no (by unfold Ltr; omega)]; exact ⟨_, _, _, _, _, _, rfl, hS⟩
set_option maxRecDepth 8192 in
theorem join_spec {g w : World} {L : List HP} (xs ys : List Int) (a b : Option Addr) (c d : Nat) (hx : xs.length + ys.length ≤ 1000000) (hS : St g (Sh 5 1 (by8 xs) a c :: Sh 5 1 (by8 ys) b d :: L) w) :
    Sp Tryz.prog 15 [.slice a (List.length (by8 xs)) c, .slice b (List.length (by8 ys)) d] w (fun v w' => ∃ (a2 : Option Addr) (c2 : Nat), v = .slice a2 (List.length (by8 (xs ++ ys))) c2 ∧ St g (Own 5 1 (by8 (xs ++ ys)) a2 c2 :: Sh 5 1 (by8 xs) a c :: Sh 5 1 (by8 ys) b d :: L) w') := by
  refine Sp.enter Tryz.func15 rfl (by kernel_rfl) (by kernel_rfl) ?_
  have _ := hx
  refine WC.seq ?_
  refine WC.region ?_
  refine WL.r 1 rfl ?_
  refine WL.nil ?_
  refine WC.seq ?_
  refine WC.region ?_
  have h1 := by8_len xs; have h2 := by8_len ys
  refine WL.r 5 rfl ?_
  refine WL.nw 9 rfl (w64 (by omega)) ?_
  refine WL.make rfl rfl (v := 0) (v' := (List.length (by8 xs) : Int) + (List.length (by8 ys) : Int)) (0) (xs.length + ys.length) el_24 hS rfl (by omega) rfl (by omega) (by omega) (Rm.of (by omega) (by decide)) (fun b1 w hS => ?_)
  replace hS : St g (Own 5 1 [] (some ⟨b1, 0, none⟩) ((List.length xs) + (List.length ys)) :: Sh 5 1 (by8 xs) a c :: Sh 5 1 (by8 ys) b d :: L) w := hS
  refine WL.r 1 rfl ?_
  refine WL.app rfl rfl 0 (by8 xs) el_24 hS rfl (hS.srcS 1 rfl) (List.nil_append _) (Rm.of (by first | omega | (simp <;> omega)) (by decide)) rfl rfl (fun a1 c1 w hS => ?_)
  replace hS : St g (Own 5 1 (by8 xs) a1 c1 :: Sh 5 1 (by8 xs) a c :: Sh 5 1 (by8 ys) b d :: L) w := hS
  refine WL.r 1 rfl ?_
  refine WL.app rfl rfl 0 (by8 (xs ++ ys)) el_24 hS rfl (hS.srcS 2 rfl) (by8_app _ _).symm (Rm.of (by first | omega | (simp <;> omega)) (by decide)) rfl rfl (fun a2 c2 w hS => ?_)
  replace hS : St g (Own 5 1 (by8 (xs ++ ys)) a2 c2 :: Sh 5 1 (by8 xs) a c :: Sh 5 1 (by8 ys) b d :: L) w := hS
  refine WL.r 1 rfl ?_
  refine WL.nil ?_
  refine WC.ret ?_
  refine ⟨[.slice a2 (List.length (by8 (xs ++ ys))) c2], rfl, ?_⟩
  exact ⟨_, _, rfl, hS⟩
end Go.Proofs.YthcmigbamkohpaaGreatDoor
/-! ## App -/
namespace Go.Proofs.YthcmigbamkohpaaGreatDoor
open Go Go.V
set_option maxRecDepth 8192 in
theorem valid_spec {g w : World} {L : List HP} (x : OpM) (ab ae ac : Option Addr) (cb ce cc : Nat) (hS : St g (Sh 77 4 (ch4 x.chs) ac cc :: L) w) :
    Sp Tryz.prog 12 [.agg #[.int .i64 x.code, .int .u64 x.a, .int .u64 x.b, .int .i64 x.key, .int .i64 x.val, .int .i64 x.lo, .int .i64 x.hi, .int .i64 x.n, .bool x.flag, .string x.name, .slice ab (List.length (by8 x.bytes)) cb, .slice ae (List.length (en2 x.ents)) ce, .slice ac (List.length (ch4 x.chs)) cc]] w (fun v w' => ∃ (ok : Bool), v = .bool ok ∧ St g (Sh 77 4 (ch4 x.chs) ac cc :: L) w' ∧ (ok = true ↔ okOp x)) := by
  refine Sp.enter Tryz.func12 rfl (by kernel_rfl) (by kernel_rfl) ?_
  refine WC.seq ?_
  refine WC.region ?_
  refine WL.box rfl rfl #[.int .i64 x.code, .int .u64 x.a, .int .u64 x.b, .int .i64 x.key, .int .i64 x.val, .int .i64 x.lo, .int .i64 x.hi, .int .i64 x.n, .bool x.flag, .string x.name, .slice ab (List.length (by8 x.bytes)) cb, .slice ae (List.length (en2 x.ents)) ce, .slice ac (List.length (ch4 x.chs)) cc] hS rfl rfl (fun b1 w hS => ?_)
  refine WL.r 1 rfl ?_
  refine WL.nil ?_
  refine WC.seq ?_
  refine WC.region ?_
  refine WL.run 2 [.int .i64 x.code] rfl (by exact hS.ld 0 rfl rfl) ?_
  refine WL.call rfl rfl (fields_spec (c := x.code)  (hS := hS)) rfl ?_
  clear hS; rintro _ w ⟨rfl, hS⟩
  replace hS : St g (cel b1 #[.int .i64 x.code, .int .u64 x.a, .int .u64 x.b, .int .i64 x.key, .int .i64 x.val, .int .i64 x.lo, .int .i64 x.hi, .int .i64 x.n, .bool x.flag, .string x.name, .slice ab (List.length (by8 x.bytes)) cb, .slice ae (List.length (en2 x.ents)) ce, .slice ac (List.length (ch4 x.chs)) cc] 29 :: Sh 77 4 (ch4 x.chs) ac cc :: L) w := hS
  refine WL.r 5 rfl ?_
  refine WL.nil ?_
  refine WC.seq ?_
  refine WC.seq ?_
  refine WC.region ?_
  refine WL.r 2 rfl ?_
  refine WL.runG 34 [.int .i64 x.n, .int .i64 x.n, .string x.name, .slice ab (List.length (by8 x.bytes)) cb, .slice ae (List.length (en2 x.ents)) ce, .slice ac (List.length (ch4 x.chs)) cc] rfl (by exact ⟨fun _ => hS.ld 0 rfl rfl, fun _ => hS.ld 0 rfl rfl, fun _ => hS.ld 0 rfl rfl, fun _ => hS.ld 0 rfl rfl, fun _ => hS.ld 0 rfl rfl, fun _ => hS.ld 0 rfl rfl⟩) (fun j => ?_)
  refine WL.prop 52 rfl (bor (bor (bor (bor (bor (bor (bnot (dv _)) (dd _)) (dd _)) (dd _)) (dd _)) (dd _)) (dd _)) ?_
  refine WL.nil ?_
  refine WC.ifP rfl (fun cd1 => ?_) (fun cd1 => ?_)
  · refine WC.seq ?_
    refine WC.region ?_
    have hl4 := ch4_len x.chs; have hl2 := en2_len x.ents; have hl1 := by8_len x.bytes
    refine WL.r 1 rfl ?_
    refine WL.nil ?_
    as_aux_lemma =>
      refine WC.ret ?_
      refine ⟨[.bool false], rfl, ?_⟩
      replace hS := (hS.sel 1 [] rfl)
      refine ⟨_, rfl, hS, ⟨fun h => (by cases h), fun h => ?_⟩⟩
      obtain ⟨h1, ⟨h2, h3, h4, h5, h6⟩, _⟩ := h
      rcases cd1 with ((((((c | c) | c) | c) | c) | c) | c)
      · exact absurd h1 c
      all_goals omega
  · refine WC.skip ?_
    refine WC.seq ?_
    refine WC.seq ?_
    refine WC.region ?_
    have hl4 := ch4_len x.chs; have hl2 := en2_len x.ents; have hl1 := by8_len x.bytes
    refine WL.run 4 [.slice ac (List.length (ch4 x.chs)) cc] rfl (by exact hS.ld 0 rfl rfl) ?_
    refine WL.nil ?_
    as_aux_lemma =>
      refine WC.block ?_
      refine WC.loop [1, 3, 54, 55, 56] (fun kM vs w => ∃ (k : Nat), vs = [.pointer (some ⟨b1, 0, none⟩), .string (mkS (fs x.code)), .slice ac (List.length (ch4 x.chs)) cc, .int .i64 (List.length (ch4 x.chs) : Int), .int .i64 (k : Int)] ∧ St g (cel b1 #[.int .i64 x.code, .int .u64 x.a, .int .u64 x.b, .int .i64 x.key, .int .i64 x.val, .int .i64 x.lo, .int .i64 x.hi, .int .i64 x.n, .bool x.flag, .string x.name, .slice ab (List.length (by8 x.bytes)) cb, .slice ae (List.length (en2 x.ents)) ce, .slice ac (List.length (ch4 x.chs)) cc] 29 :: Sh 77 4 (ch4 x.chs) ac cc :: L) w ∧ (k ≤ x.chs.length) ∧ (∀ y ∈ x.chs.take k, 0 ≤ y.1 ∧ y.1 ≤ 255) ∧ (x.chs.length - k) = kM) ((List.length x.chs) - 0) ⟨0, rfl, hS, (Nat.zero_le _), (fun _ h => by cases h), rfl⟩ ?_
      clear hS; rintro _ _ w j ⟨k, rfl, hS, hk, hall, rfl⟩
      refine WC.seq ?_
      refine WC.region ?_
      have hl4 := ch4_len x.chs; have hl2 := en2_len x.ents; have hl1 := by8_len x.bytes
      refine WL.r 1 rfl ?_
      refine WL.nil ?_
      refine WC.seq ?_
      refine WC.ifP rfl (fun cd2 => ?_) (fun cd2 => ?_)
      · refine WC.skip ?_
        refine WC.seq ?_
        refine WC.block ?_
        refine WC.seq ?_
        refine WC.region ?_
        obtain ⟨y, hy⟩ : ∃ y, x.chs[k]? = some y := ⟨_, List.getElem?_eq_getElem (by omega)⟩
        refine WL.ix rfl rfl (i := (k : Int)) (k) el_27 rfl rfl (by omega) (len_of (ch4_at hy)) (hS.rdS 1 rfl (ch4_at hy)).1 ?_
        refine WL.ldC rfl rfl [.int .i64 y.1, .int .i64 y.2.1, .int .i64 y.2.2.1, .int .i64 y.2.2.2] ag_77 rfl (hS.rdS 1 rfl (ch4_at hy)).2 ?_
        refine WL.new rfl rfl zv_77 hS (fun b2 w hS => ?_)
        refine WL.stF rfl rfl rfl 0 hS rfl rfl rfl rfl rfl ag_77 (fun w hS => ?_)
        replace hS : St g (cel b2 #[.int .i64 y.1, .int .i64 y.2.1, .int .i64 y.2.2.1, .int .i64 y.2.2.2] 77 :: cel b1 #[.int .i64 x.code, .int .u64 x.a, .int .u64 x.b, .int .i64 x.key, .int .i64 x.val, .int .i64 x.lo, .int .i64 x.hi, .int .i64 x.n, .bool x.flag, .string x.name, .slice ab (List.length (by8 x.bytes)) cb, .slice ae (List.length (en2 x.ents)) ce, .slice ac (List.length (ch4 x.chs)) cc] 29 :: Sh 77 4 (ch4 x.chs) ac cc :: L) w := hS
        refine WL.nil ?_
        refine WC.seq ?_
        refine WC.region ?_
        refine WL.run 3 [.int .i64 y.1] rfl (by exact hS.ld 0 rfl rfl) ?_
        refine WL.runG 5 [.int .i64 y.1] rfl (by exact (fun _ => hS.ld 0 rfl rfl)) (fun j => ?_)
        refine WL.prop 67 rfl (bor (dd _) (dd _)) ?_
        refine WL.nil ?_
        as_aux_lemma =>
          refine WC.ifP rfl (fun cd3 => ?_) (fun cd3 => ?_)
          · refine WC.seq ?_
            refine WC.region ?_
            refine WL.r 1 rfl ?_
            refine WL.nil ?_
            refine WC.ret ?_
            refine ⟨[.bool false], rfl, ?_⟩
            replace hS := (hS.sel 2 [] rfl)
            refine ⟨_, rfl, hS, ⟨fun h => (by cases h), fun h => ?_⟩⟩
            have := h.2.2.1 y (List.mem_of_getElem? hy); omega
          · refine WC.skip ?_
            refine WC.region ?_
            refine WL.r 1 rfl ?_
            refine WL.nw 68 rfl (w64 (by omega)) ?_
            refine WL.r 1 rfl ?_
            refine WL.nil ?_
            exact ⟨_, by omega, k + 1, rfl, (hS.sel 1 [] rfl), (by omega), (fun z hz => by rw [List.take_add_one, hy] at hz; simp only [Option.toList, List.mem_append, List.mem_singleton] at hz; rcases hz with hz | rfl <;> first | exact hall z hz | omega), rfl⟩
      · refine WC.exit ?_
        refine WC.seq ?_
        refine WC.region ?_
        refine WL.ldF rfl rfl 0 hS rfl rfl ag_29 ?_
        refine WL.new rfl rfl zv_29 hS (fun b2 w hS => ?_)
        refine WL.stF rfl rfl rfl 0 hS rfl rfl rfl rfl rfl ag_29 (fun w hS => ?_)
        replace hS : St g (cel b2 #[.int .i64 x.code, .int .u64 x.a, .int .u64 x.b, .int .i64 x.key, .int .i64 x.val, .int .i64 x.lo, .int .i64 x.hi, .int .i64 x.n, .bool x.flag, .string x.name, .slice ab (List.length (by8 x.bytes)) cb, .slice ae (List.length (en2 x.ents)) ce, .slice ac (List.length (ch4 x.chs)) cc] 29 :: cel b1 #[.int .i64 x.code, .int .u64 x.a, .int .u64 x.b, .int .i64 x.key, .int .i64 x.val, .int .i64 x.lo, .int .i64 x.hi, .int .i64 x.n, .bool x.flag, .string x.name, .slice ab (List.length (by8 x.bytes)) cb, .slice ae (List.length (en2 x.ents)) ce, .slice ac (List.length (ch4 x.chs)) cc] 29 :: Sh 77 4 (ch4 x.chs) ac cc :: L) w := hS
        refine WL.nil ?_
        refine WC.seq ?_
        refine WC.seq ?_
        refine WC.region ?_
        try simp only [not_or, Classical.not_not] at cd1
        refine WL.r 1 rfl ?_
        refine WL.rng rfl rfl rfl hS rfl (fun b3 w hS => ?_)
        replace hS : St g (blk b3 (.stringIter (mkS (fs x.code)) 0) :: cel b2 #[.int .i64 x.code, .int .u64 x.a, .int .u64 x.b, .int .i64 x.key, .int .i64 x.val, .int .i64 x.lo, .int .i64 x.hi, .int .i64 x.n, .bool x.flag, .string x.name, .slice ab (List.length (by8 x.bytes)) cb, .slice ae (List.length (en2 x.ents)) ce, .slice ac (List.length (ch4 x.chs)) cc] 29 :: cel b1 #[.int .i64 x.code, .int .u64 x.a, .int .u64 x.b, .int .i64 x.key, .int .i64 x.val, .int .i64 x.lo, .int .i64 x.hi, .int .i64 x.n, .bool x.flag, .string x.name, .slice ab (List.length (by8 x.bytes)) cb, .slice ae (List.length (en2 x.ents)) ce, .slice ac (List.length (ch4 x.chs)) cc] 29 :: Sh 77 4 (ch4 x.chs) ac cc :: L) w := hS
        refine WL.nil ?_
        as_aux_lemma =>
          refine WC.block ?_
          refine WC.loop [7, 71] (fun kM vs w => ∃ (k : Nat) (y : ZM) (zb ze zc : Option Addr) (yb ye yc : Nat), vs = [.pointer (some ⟨b2, 0, none⟩), .pointer (some ⟨b3, 0, none⟩)] ∧ St g (blk b3 (.stringIter (mkS (fs x.code)) k) :: cel b2 #[.int .i64 y.code, .int .u64 y.a, .int .u64 y.b, .int .i64 y.key, .int .i64 y.val, .int .i64 y.lo, .int .i64 y.hi, .int .i64 y.n, .bool y.flag, .string y.name, .slice zb y.lb yb, .slice ze y.le ye, .slice zc y.lc yc] 29 :: cel b1 #[.int .i64 x.code, .int .u64 x.a, .int .u64 x.b, .int .i64 x.key, .int .i64 x.val, .int .i64 x.lo, .int .i64 x.hi, .int .i64 x.n, .bool x.flag, .string x.name, .slice ab (List.length (by8 x.bytes)) cb, .slice ae (List.length (en2 x.ents)) ce, .slice ac (List.length (ch4 x.chs)) cc] 29 :: Sh 77 4 (ch4 x.chs) ac cc :: L) w ∧ (clrZs (fs x.code) (zOf x) = clrZs ((fs x.code).drop k) y) ∧ ((fs x.code).length - k) = kM) ((List.length (fs x.code)) - 0) ⟨0, zOf x, _, _, _, _, _, _, rfl, hS, (rfl), rfl⟩ ?_
          clear hS; rintro _ _ w j ⟨k, y, zb, ze, zc, yb, ye, yc, rfl, hS, hr, rfl⟩
          refine WC.seq ?_
          refine WC.region ?_
          try simp only [not_or, Classical.not_not] at cd1
          refine WL.nx rfl rfl rfl rfl rfl rfl rfl 0 (fs_as _) hS rfl rfl (fun w hS => ?_)
          replace hS : St g (blk b3 (.stringIter (mkS (fs x.code)) (if (k < (List.length (fs x.code))) then (k + 1) else k)) :: cel b2 #[.int .i64 y.code, .int .u64 y.a, .int .u64 y.b, .int .i64 y.key, .int .i64 y.val, .int .i64 y.lo, .int .i64 y.hi, .int .i64 y.n, .bool y.flag, .string y.name, .slice zb y.lb yb, .slice ze y.le ye, .slice zc y.lc yc] 29 :: cel b1 #[.int .i64 x.code, .int .u64 x.a, .int .u64 x.b, .int .i64 x.key, .int .i64 x.val, .int .i64 x.lo, .int .i64 x.hi, .int .i64 x.n, .bool x.flag, .string x.name, .slice ab (List.length (by8 x.bytes)) cb, .slice ae (List.length (en2 x.ents)) ce, .slice ac (List.length (ch4 x.chs)) cc] 29 :: Sh 77 4 (ch4 x.chs) ac cc :: L) w := hS
          refine WL.nil ?_
          refine WC.seq ?_
          refine WC.ifP rfl (fun cd3 => ?_) (fun cd3 => ?_)
          · refine WC.reb 72 (.tuple #[.bool true, .int .i64 (k : Int), .int .i32 (List.getD (fs x.code) k 0)]) (nx_in cd3) ?_
            rw [if_pos cd3] at hS
            refine WC.skip ?_
            refine WC.block ?_
            refine WC.seq ?_
            refine WC.region ?_
            refine WL.r 2 rfl ?_
            refine WL.nil ?_
            refine WC.region ?_
            refine WL.ldF rfl rfl 1 hS rfl rfl ag_29 ?_
            refine WL.r 1 rfl ?_
            refine WL.call rfl rfl (clear_spec (y := y) (ab := zb) (ae := ze) (ac := zc) (cb := yb) (ce := ye) (cc := yc) (f := List.getD (fs x.code) k 0)  (hS := hS)) rfl ?_
            generalize hY1 : clrZ (List.getD (fs x.code) k 0) y = Y1
            clear hS; rintro _ w ⟨ab1, ae1, ac1, cb1, ce1, cc1, rfl, hS⟩
            replace hS : St g (blk b3 (.stringIter (mkS (fs x.code)) (k + 1)) :: cel b2 #[.int .i64 y.code, .int .u64 y.a, .int .u64 y.b, .int .i64 y.key, .int .i64 y.val, .int .i64 y.lo, .int .i64 y.hi, .int .i64 y.n, .bool y.flag, .string y.name, .slice zb y.lb yb, .slice ze y.le ye, .slice zc y.lc yc] 29 :: cel b1 #[.int .i64 x.code, .int .u64 x.a, .int .u64 x.b, .int .i64 x.key, .int .i64 x.val, .int .i64 x.lo, .int .i64 x.hi, .int .i64 x.n, .bool x.flag, .string x.name, .slice ab (List.length (by8 x.bytes)) cb, .slice ae (List.length (en2 x.ents)) ce, .slice ac (List.length (ch4 x.chs)) cc] 29 :: Sh 77 4 (ch4 x.chs) ac cc :: L) w := hS
            refine WL.stF rfl rfl rfl 1 hS rfl rfl rfl rfl rfl ag_29 (fun w hS => ?_)
            replace hS : St g (blk b3 (.stringIter (mkS (fs x.code)) (k + 1)) :: cel b2 #[.int .i64 Y1.code, .int .u64 Y1.a, .int .u64 Y1.b, .int .i64 Y1.key, .int .i64 Y1.val, .int .i64 Y1.lo, .int .i64 Y1.hi, .int .i64 Y1.n, .bool Y1.flag, .string Y1.name, .slice ab1 Y1.lb cb1, .slice ae1 Y1.le ce1, .slice ac1 Y1.lc cc1] 29 :: cel b1 #[.int .i64 x.code, .int .u64 x.a, .int .u64 x.b, .int .i64 x.key, .int .i64 x.val, .int .i64 x.lo, .int .i64 x.hi, .int .i64 x.n, .bool x.flag, .string x.name, .slice ab (List.length (by8 x.bytes)) cb, .slice ae (List.length (en2 x.ents)) ce, .slice ac (List.length (ch4 x.chs)) cc] 29 :: Sh 77 4 (ch4 x.chs) ac cc :: L) w := hS
            refine WL.nil ?_
            exact ⟨_, by omega, k + 1, Y1, _, _, _, _, _, _, rfl, hS, (by rw [hr, clrZs_go cd3, hY1]), rfl⟩
          · rw [if_neg cd3] at hS
            refine WC.exit ?_
            refine WC.seq ?_
            refine WC.region ?_
            refine WL.run 3 [.int .u64 y.a] rfl (by exact hS.ld 1 rfl rfl) ?_
            refine WL.runG 31 [.int .u64 y.b, .int .i64 y.key, .int .i64 y.val, .int .i64 y.lo, .int .i64 y.hi, .int .i64 y.n] rfl (by exact ⟨fun _ => hS.ld 1 rfl rfl, fun _ => hS.ld 1 rfl rfl, fun _ => hS.ld 1 rfl rfl, fun _ => hS.ld 1 rfl rfl, fun _ => hS.ld 1 rfl rfl, fun _ => hS.ld 1 rfl rfl⟩) (fun j => ?_)
            refine WL.prop 110 rfl (band (band (band (band (band (band (dd _) (dd _)) (dd _)) (dd _)) (dd _)) (dd _)) (dd _)) ?_
            refine WL.nil ?_
            refine WC.seq ?_
            refine WC.region ?_
            refine WL.r 1 rfl ?_
            refine WL.runG 29 [.bool y.flag, .string y.name, .slice zb y.lb yb, .slice ze y.le ye, .slice zc y.lc yc] rfl (by exact ⟨fun _ => hS.ld 1 rfl rfl, fun _ => hS.ld 1 rfl rfl, fun _ => hS.ld 1 rfl rfl, fun _ => hS.ld 1 rfl rfl, fun _ => hS.ld 1 rfl rfl⟩) (fun j => ?_)
            refine WL.prop 139 rfl (band (band (band (band (band (band (band (band (band (band (band (dd _) (dd _)) (dd _)) (dd _)) (dd _)) (dd _)) (dd _)) (bnot (dv _))) (dd _)) (dd _)) (dd _)) (dd _)) ?_
            refine WL.nil ?_
            as_aux_lemma =>
              refine WC.ret ?_
              refine ⟨[.bool (bif (bif (bif (bif (bif (bif (bif (bif (bif (bif (bif (decide (y.a = 0)) then (decide (y.b = 0)) else false) then (decide (y.key = 0)) else false) then (decide (y.val = 0)) else false) then (decide (y.lo = 0)) else false) then (decide (y.hi = 0)) else false) then (decide (y.n = 0)) else false) then (! y.flag) else false) then (decide (y.name = ⟨#[]⟩)) else false) then (decide ((y.lb : Int) = 0)) else false) then (decide ((y.le : Int) = 0)) else false) then (decide ((y.lc : Int) = 0)) else false)], rfl, ?_⟩
              replace hS := (hS.sel 3 [] rfl)
              refine ⟨_, rfl, hS, ?_⟩
              simp only [Bool.cond_false_right, Bool.and_eq_true, decide_eq_true_eq, Bool.not_eq_true', and_assoc, nat0]
              rw [zero_iff (by rw [hr, clrZs_end cd3])]
              refine ⟨fun h => ⟨?_, ⟨?_, ?_, ?_, ?_, ?_⟩, ?_, h⟩, fun h => h.2.2.2⟩
              · exact cd1.1.1.1.1.1.1
              all_goals first | omega | skip
              rw [List.take_of_length_le (by omega)] at hall; exact hall
set_option maxRecDepth 8192 in
theorem appendAnswer_spec {g w : World} {L : List HP} (bs : List Int) (a : Option Addr) (c : Nat) (x : AnM) (ab ae ac ak : Option Addr) (cb ce cc ck : Nat) (hbs : bs.length ≤ 500000) (hw : AnW x) (hS : St g (Sh 5 1 (by8 bs) a c :: Sh 5 1 (by8 x.bytes) ab cb :: Sh 48 2 (en2 x.ents) ae ce :: Sh 77 4 (ch4 x.chs) ac cc :: Sh 2 1 (i64s x.keys) ak ck :: L) w) :
    Sp Tryz.prog 55 [.slice a (List.length (by8 bs)) c, .agg #[.int .i64 x.err, .int .u64 x.handle, .int .i64 x.value, .bool x.found, .int .i64 x.n, .int .i64 x.ekey, .int .i64 x.eval, .int .i64 x.count, .int .i64 x.sum, .int .i64 x.mn, .int .i64 x.mx, .slice ae (List.length (en2 x.ents)) ce, .slice ac (List.length (ch4 x.chs)) cc, .slice ak (List.length (i64s x.keys)) ck, .slice ab (List.length (by8 x.bytes)) cb]] w (fun v w' => ∃ (a2 : Option Addr) (c2 : Nat), v = .slice a2 (List.length (by8 (bs ++ eAn x))) c2 ∧ St g (Own 5 1 (by8 (bs ++ eAn x)) a2 c2 :: Sh 5 1 (by8 bs) a c :: Sh 5 1 (by8 x.bytes) ab cb :: Sh 48 2 (en2 x.ents) ae ce :: Sh 77 4 (ch4 x.chs) ac cc :: Sh 2 1 (i64s x.keys) ak ck :: L) w') := by
  refine Sp.enter Tryz.func55 rfl (by kernel_rfl) (by kernel_rfl) ?_
  have _ := hbs
  refine WC.seq ?_
  refine WC.region ?_
  refine WL.box rfl rfl #[.int .i64 x.err, .int .u64 x.handle, .int .i64 x.value, .bool x.found, .int .i64 x.n, .int .i64 x.ekey, .int .i64 x.eval, .int .i64 x.count, .int .i64 x.sum, .int .i64 x.mn, .int .i64 x.mx, .slice ae (List.length (en2 x.ents)) ce, .slice ac (List.length (ch4 x.chs)) cc, .slice ak (List.length (i64s x.keys)) ck, .slice ab (List.length (by8 x.bytes)) cb] hS rfl rfl (fun b1 w hS => ?_)
  refine WL.r 1 rfl ?_
  refine WL.nil ?_
  refine WC.seq ?_
  refine WC.region ?_
  obtain ⟨w1, w2, w3, w5, w6, w7, w8, w9, w10, w11, w12, w13, w14, l1, l2, l3, l4⟩ := hw
  have hl4 := ch4_len x.chs; have hl2 := en2_len x.ents; have hl1 := by8_len x.bytes; have hl3 := i64s_len x.keys
  refine WL.build rfl rfl (cs := [.slice none 0 0]) zv_57 rfl rfl ?_
  refine WL.box rfl rfl #[.slice none 0 0] hS rfl rfl (fun b2 w hS => ?_)
  refine WL.r 1 rfl ?_
  refine WL.nil ?_
  refine WC.seq ?_
  refine WC.region ?_
  refine WL.run 4 [.int .i64 x.err] rfl (by exact hS.ld 1 rfl rfl) ?_
  refine WL.reb 13 (.int .u64 (x.err % 18446744073709551616)) (congrArg (Value.int .u64) (by rfl)) ?_
  replace hS := hS.nil_ 5 1
  replace hS : St g (Own 5 1 (by8 []) none 0 :: cel b2 #[.slice none 0 0] 57 :: cel b1 #[.int .i64 x.err, .int .u64 x.handle, .int .i64 x.value, .bool x.found, .int .i64 x.n, .int .i64 x.ekey, .int .i64 x.eval, .int .i64 x.count, .int .i64 x.sum, .int .i64 x.mn, .int .i64 x.mx, .slice ae (List.length (en2 x.ents)) ce, .slice ac (List.length (ch4 x.chs)) cc, .slice ak (List.length (i64s x.keys)) ck, .slice ab (List.length (by8 x.bytes)) cb] 53 :: Sh 5 1 (by8 bs) a c :: Sh 5 1 (by8 x.bytes) ab cb :: Sh 48 2 (en2 x.ents) ae ce :: Sh 77 4 (ch4 x.chs) ac cc :: Sh 2 1 (i64s x.keys) ak ck :: L) w := hS
  refine WL.call rfl rfl (wvarint_spec (q := b2) (xs := []) (a := none) (c := 0) (u := x.err % 18446744073709551616) (hx := (by first | omega | (simp <;> omega))) (hu := (by omega)) (hS := (hS.sel 2 [1, 0] rfl))) rfl ?_
  generalize hY1 : [] ++ eU (x.err % 18446744073709551616) = Y1
  clear hS; rintro _ w ⟨a1, c1, rfl, hS⟩
  have hY1f0 : (List.length Y1) ≤ 0 + 10 := by rw [← hY1, List.length_append]; exact Nat.add_le_add_left (eU_len (by omega)) _
  replace hS : St g (cel b2 #[.slice a1 (List.length (by8 Y1)) c1] 57 :: Own 5 1 (by8 Y1) a1 c1 :: cel b1 #[.int .i64 x.err, .int .u64 x.handle, .int .i64 x.value, .bool x.found, .int .i64 x.n, .int .i64 x.ekey, .int .i64 x.eval, .int .i64 x.count, .int .i64 x.sum, .int .i64 x.mn, .int .i64 x.mx, .slice ae (List.length (en2 x.ents)) ce, .slice ac (List.length (ch4 x.chs)) cc, .slice ak (List.length (i64s x.keys)) ck, .slice ab (List.length (by8 x.bytes)) cb] 53 :: Sh 5 1 (by8 bs) a c :: Sh 5 1 (by8 x.bytes) ab cb :: Sh 48 2 (en2 x.ents) ae ce :: Sh 77 4 (ch4 x.chs) ac cc :: Sh 2 1 (i64s x.keys) ak ck :: L) w := hS
  refine WL.nil ?_
  as_aux_lemma =>
    refine WC.seq ?_
    refine WC.region ?_
    refine WL.run 3 [.int .u64 x.handle] rfl (by exact hS.ld 2 rfl rfl) ?_
    refine WL.call rfl rfl (wvarint_spec (q := b2) (xs := Y1) (a := a1) (c := c1) (u := x.handle) (hx := (by first | omega | (simp <;> omega))) (hu := (by omega)) (hS := hS)) rfl ?_
    generalize hY2 : Y1 ++ eU x.handle = Y2
    clear hS; rintro _ w ⟨a2, c2, rfl, hS⟩
    have hY2f0 : (List.length Y2) ≤ (List.length Y1) + 10 := by rw [← hY2, List.length_append]; exact Nat.add_le_add_left (eU_len (by omega)) _
    replace hS : St g (cel b2 #[.slice a2 (List.length (by8 Y2)) c2] 57 :: Own 5 1 (by8 Y2) a2 c2 :: cel b1 #[.int .i64 x.err, .int .u64 x.handle, .int .i64 x.value, .bool x.found, .int .i64 x.n, .int .i64 x.ekey, .int .i64 x.eval, .int .i64 x.count, .int .i64 x.sum, .int .i64 x.mn, .int .i64 x.mx, .slice ae (List.length (en2 x.ents)) ce, .slice ac (List.length (ch4 x.chs)) cc, .slice ak (List.length (i64s x.keys)) ck, .slice ab (List.length (by8 x.bytes)) cb] 53 :: Sh 5 1 (by8 bs) a c :: Sh 5 1 (by8 x.bytes) ab cb :: Sh 48 2 (en2 x.ents) ae ce :: Sh 77 4 (ch4 x.chs) ac cc :: Sh 2 1 (i64s x.keys) ak ck :: L) w := hS
    refine WL.nil ?_
    refine WC.seq ?_
    refine WC.region ?_
    refine WL.run 3 [.int .i64 x.value] rfl (by exact hS.ld 2 rfl rfl) ?_
    refine WL.call rfl rfl (wsigned_spec (q := b2) (xs := Y2) (a := a2) (c := c2) (n := x.value) (hx := (by first | omega | (simp <;> omega))) (hn := (by assumption)) (hS := hS)) rfl ?_
    generalize hY3 : Y2 ++ eZ x.value = Y3
    clear hS; rintro _ w ⟨a3, c3, rfl, hS⟩
    have hY3f0 : (List.length Y3) ≤ (List.length Y2) + 10 := by rw [← hY3, List.length_append]; exact Nat.add_le_add_left (eZ_len (by assumption)) _
    replace hS : St g (cel b2 #[.slice a3 (List.length (by8 Y3)) c3] 57 :: Own 5 1 (by8 Y3) a3 c3 :: cel b1 #[.int .i64 x.err, .int .u64 x.handle, .int .i64 x.value, .bool x.found, .int .i64 x.n, .int .i64 x.ekey, .int .i64 x.eval, .int .i64 x.count, .int .i64 x.sum, .int .i64 x.mn, .int .i64 x.mx, .slice ae (List.length (en2 x.ents)) ce, .slice ac (List.length (ch4 x.chs)) cc, .slice ak (List.length (i64s x.keys)) ck, .slice ab (List.length (by8 x.bytes)) cb] 53 :: Sh 5 1 (by8 bs) a c :: Sh 5 1 (by8 x.bytes) ab cb :: Sh 48 2 (en2 x.ents) ae ce :: Sh 77 4 (ch4 x.chs) ac cc :: Sh 2 1 (i64s x.keys) ak ck :: L) w := hS
    refine WL.nil ?_
    refine WC.seq ?_
    refine WC.region ?_
    refine WL.run 3 [.bool x.found] rfl (by exact hS.ld 2 rfl rfl) ?_
    refine WL.call rfl rfl (wbool_spec (q := b2) (xs := Y3) (a := a3) (c := c3) (x := x.found) (hx := (by first | omega | (simp <;> omega))) (hS := hS)) rfl ?_
    generalize hY4 : Y3 ++ eF x.found = Y4
    clear hS; rintro _ w ⟨a4, c4, rfl, hS⟩
    have hY4f0 : (List.length Y4) = (List.length Y3) + 1 := by rw [← hY4]; simp [eF]
    replace hS : St g (cel b2 #[.slice a4 (List.length (by8 Y4)) c4] 57 :: Own 5 1 (by8 Y4) a4 c4 :: cel b1 #[.int .i64 x.err, .int .u64 x.handle, .int .i64 x.value, .bool x.found, .int .i64 x.n, .int .i64 x.ekey, .int .i64 x.eval, .int .i64 x.count, .int .i64 x.sum, .int .i64 x.mn, .int .i64 x.mx, .slice ae (List.length (en2 x.ents)) ce, .slice ac (List.length (ch4 x.chs)) cc, .slice ak (List.length (i64s x.keys)) ck, .slice ab (List.length (by8 x.bytes)) cb] 53 :: Sh 5 1 (by8 bs) a c :: Sh 5 1 (by8 x.bytes) ab cb :: Sh 48 2 (en2 x.ents) ae ce :: Sh 77 4 (ch4 x.chs) ac cc :: Sh 2 1 (i64s x.keys) ak ck :: L) w := hS
    refine WL.nil ?_
    as_aux_lemma =>
      refine WC.seq ?_
      refine WC.region ?_
      refine WL.run 3 [.int .i64 x.n] rfl (by exact hS.ld 2 rfl rfl) ?_
      refine WL.call rfl rfl (wsigned_spec (q := b2) (xs := Y4) (a := a4) (c := c4) (n := x.n) (hx := (by first | omega | (simp <;> omega))) (hn := (by assumption)) (hS := hS)) rfl ?_
      generalize hY5 : Y4 ++ eZ x.n = Y5
      clear hS; rintro _ w ⟨a5, c5, rfl, hS⟩
      have hY5f0 : (List.length Y5) ≤ (List.length Y4) + 10 := by rw [← hY5, List.length_append]; exact Nat.add_le_add_left (eZ_len (by assumption)) _
      replace hS : St g (cel b2 #[.slice a5 (List.length (by8 Y5)) c5] 57 :: Own 5 1 (by8 Y5) a5 c5 :: cel b1 #[.int .i64 x.err, .int .u64 x.handle, .int .i64 x.value, .bool x.found, .int .i64 x.n, .int .i64 x.ekey, .int .i64 x.eval, .int .i64 x.count, .int .i64 x.sum, .int .i64 x.mn, .int .i64 x.mx, .slice ae (List.length (en2 x.ents)) ce, .slice ac (List.length (ch4 x.chs)) cc, .slice ak (List.length (i64s x.keys)) ck, .slice ab (List.length (by8 x.bytes)) cb] 53 :: Sh 5 1 (by8 bs) a c :: Sh 5 1 (by8 x.bytes) ab cb :: Sh 48 2 (en2 x.ents) ae ce :: Sh 77 4 (ch4 x.chs) ac cc :: Sh 2 1 (i64s x.keys) ak ck :: L) w := hS
      refine WL.nil ?_
      refine WC.seq ?_
      refine WC.region ?_
      refine WL.run 4 [.int .i64 x.ekey] rfl (by exact hS.ld 2 rfl rfl) ?_
      refine WL.call rfl rfl (wsigned_spec (q := b2) (xs := Y5) (a := a5) (c := c5) (n := x.ekey) (hx := (by first | omega | (simp <;> omega))) (hn := (by assumption)) (hS := hS)) rfl ?_
      generalize hY6 : Y5 ++ eZ x.ekey = Y6
      clear hS; rintro _ w ⟨a6, c6, rfl, hS⟩
      have hY6f0 : (List.length Y6) ≤ (List.length Y5) + 10 := by rw [← hY6, List.length_append]; exact Nat.add_le_add_left (eZ_len (by assumption)) _
      replace hS : St g (cel b2 #[.slice a6 (List.length (by8 Y6)) c6] 57 :: Own 5 1 (by8 Y6) a6 c6 :: cel b1 #[.int .i64 x.err, .int .u64 x.handle, .int .i64 x.value, .bool x.found, .int .i64 x.n, .int .i64 x.ekey, .int .i64 x.eval, .int .i64 x.count, .int .i64 x.sum, .int .i64 x.mn, .int .i64 x.mx, .slice ae (List.length (en2 x.ents)) ce, .slice ac (List.length (ch4 x.chs)) cc, .slice ak (List.length (i64s x.keys)) ck, .slice ab (List.length (by8 x.bytes)) cb] 53 :: Sh 5 1 (by8 bs) a c :: Sh 5 1 (by8 x.bytes) ab cb :: Sh 48 2 (en2 x.ents) ae ce :: Sh 77 4 (ch4 x.chs) ac cc :: Sh 2 1 (i64s x.keys) ak ck :: L) w := hS
      refine WL.nil ?_
      refine WC.seq ?_
      refine WC.region ?_
      refine WL.run 4 [.int .i64 x.eval] rfl (by exact hS.ld 2 rfl rfl) ?_
      refine WL.call rfl rfl (wsigned_spec (q := b2) (xs := Y6) (a := a6) (c := c6) (n := x.eval) (hx := (by first | omega | (simp <;> omega))) (hn := (by assumption)) (hS := hS)) rfl ?_
      generalize hY7 : Y6 ++ eZ x.eval = Y7
      clear hS; rintro _ w ⟨a7, c7, rfl, hS⟩
      have hY7f0 : (List.length Y7) ≤ (List.length Y6) + 10 := by rw [← hY7, List.length_append]; exact Nat.add_le_add_left (eZ_len (by assumption)) _
      replace hS : St g (cel b2 #[.slice a7 (List.length (by8 Y7)) c7] 57 :: Own 5 1 (by8 Y7) a7 c7 :: cel b1 #[.int .i64 x.err, .int .u64 x.handle, .int .i64 x.value, .bool x.found, .int .i64 x.n, .int .i64 x.ekey, .int .i64 x.eval, .int .i64 x.count, .int .i64 x.sum, .int .i64 x.mn, .int .i64 x.mx, .slice ae (List.length (en2 x.ents)) ce, .slice ac (List.length (ch4 x.chs)) cc, .slice ak (List.length (i64s x.keys)) ck, .slice ab (List.length (by8 x.bytes)) cb] 53 :: Sh 5 1 (by8 bs) a c :: Sh 5 1 (by8 x.bytes) ab cb :: Sh 48 2 (en2 x.ents) ae ce :: Sh 77 4 (ch4 x.chs) ac cc :: Sh 2 1 (i64s x.keys) ak ck :: L) w := hS
      refine WL.nil ?_
      as_aux_lemma =>
        refine WC.seq ?_
        refine WC.region ?_
        refine WL.run 4 [.int .i64 x.count] rfl (by exact hS.ld 2 rfl rfl) ?_
        refine WL.call rfl rfl (wsigned_spec (q := b2) (xs := Y7) (a := a7) (c := c7) (n := x.count) (hx := (by first | omega | (simp <;> omega))) (hn := (by assumption)) (hS := hS)) rfl ?_
        generalize hY8 : Y7 ++ eZ x.count = Y8
        clear hS; rintro _ w ⟨a8, c8, rfl, hS⟩
        have hY8f0 : (List.length Y8) ≤ (List.length Y7) + 10 := by rw [← hY8, List.length_append]; exact Nat.add_le_add_left (eZ_len (by assumption)) _
        replace hS : St g (cel b2 #[.slice a8 (List.length (by8 Y8)) c8] 57 :: Own 5 1 (by8 Y8) a8 c8 :: cel b1 #[.int .i64 x.err, .int .u64 x.handle, .int .i64 x.value, .bool x.found, .int .i64 x.n, .int .i64 x.ekey, .int .i64 x.eval, .int .i64 x.count, .int .i64 x.sum, .int .i64 x.mn, .int .i64 x.mx, .slice ae (List.length (en2 x.ents)) ce, .slice ac (List.length (ch4 x.chs)) cc, .slice ak (List.length (i64s x.keys)) ck, .slice ab (List.length (by8 x.bytes)) cb] 53 :: Sh 5 1 (by8 bs) a c :: Sh 5 1 (by8 x.bytes) ab cb :: Sh 48 2 (en2 x.ents) ae ce :: Sh 77 4 (ch4 x.chs) ac cc :: Sh 2 1 (i64s x.keys) ak ck :: L) w := hS
        refine WL.nil ?_
        refine WC.seq ?_
        refine WC.region ?_
        refine WL.run 4 [.int .i64 x.sum] rfl (by exact hS.ld 2 rfl rfl) ?_
        refine WL.call rfl rfl (wsigned_spec (q := b2) (xs := Y8) (a := a8) (c := c8) (n := x.sum) (hx := (by first | omega | (simp <;> omega))) (hn := (by assumption)) (hS := hS)) rfl ?_
        generalize hY9 : Y8 ++ eZ x.sum = Y9
        clear hS; rintro _ w ⟨a9, c9, rfl, hS⟩
        have hY9f0 : (List.length Y9) ≤ (List.length Y8) + 10 := by rw [← hY9, List.length_append]; exact Nat.add_le_add_left (eZ_len (by assumption)) _
        replace hS : St g (cel b2 #[.slice a9 (List.length (by8 Y9)) c9] 57 :: Own 5 1 (by8 Y9) a9 c9 :: cel b1 #[.int .i64 x.err, .int .u64 x.handle, .int .i64 x.value, .bool x.found, .int .i64 x.n, .int .i64 x.ekey, .int .i64 x.eval, .int .i64 x.count, .int .i64 x.sum, .int .i64 x.mn, .int .i64 x.mx, .slice ae (List.length (en2 x.ents)) ce, .slice ac (List.length (ch4 x.chs)) cc, .slice ak (List.length (i64s x.keys)) ck, .slice ab (List.length (by8 x.bytes)) cb] 53 :: Sh 5 1 (by8 bs) a c :: Sh 5 1 (by8 x.bytes) ab cb :: Sh 48 2 (en2 x.ents) ae ce :: Sh 77 4 (ch4 x.chs) ac cc :: Sh 2 1 (i64s x.keys) ak ck :: L) w := hS
        refine WL.nil ?_
        refine WC.seq ?_
        refine WC.region ?_
        refine WL.run 4 [.int .i64 x.mn] rfl (by exact hS.ld 2 rfl rfl) ?_
        refine WL.call rfl rfl (wsigned_spec (q := b2) (xs := Y9) (a := a9) (c := c9) (n := x.mn) (hx := (by first | omega | (simp <;> omega))) (hn := (by assumption)) (hS := hS)) rfl ?_
        generalize hY10 : Y9 ++ eZ x.mn = Y10
        clear hS; rintro _ w ⟨a10, c10, rfl, hS⟩
        have hY10f0 : (List.length Y10) ≤ (List.length Y9) + 10 := by rw [← hY10, List.length_append]; exact Nat.add_le_add_left (eZ_len (by assumption)) _
        replace hS : St g (cel b2 #[.slice a10 (List.length (by8 Y10)) c10] 57 :: Own 5 1 (by8 Y10) a10 c10 :: cel b1 #[.int .i64 x.err, .int .u64 x.handle, .int .i64 x.value, .bool x.found, .int .i64 x.n, .int .i64 x.ekey, .int .i64 x.eval, .int .i64 x.count, .int .i64 x.sum, .int .i64 x.mn, .int .i64 x.mx, .slice ae (List.length (en2 x.ents)) ce, .slice ac (List.length (ch4 x.chs)) cc, .slice ak (List.length (i64s x.keys)) ck, .slice ab (List.length (by8 x.bytes)) cb] 53 :: Sh 5 1 (by8 bs) a c :: Sh 5 1 (by8 x.bytes) ab cb :: Sh 48 2 (en2 x.ents) ae ce :: Sh 77 4 (ch4 x.chs) ac cc :: Sh 2 1 (i64s x.keys) ak ck :: L) w := hS
        refine WL.nil ?_
        as_aux_lemma =>
          refine WC.seq ?_
          refine WC.region ?_
          refine WL.run 4 [.int .i64 x.mx] rfl (by exact hS.ld 2 rfl rfl) ?_
          refine WL.call rfl rfl (wsigned_spec (q := b2) (xs := Y10) (a := a10) (c := c10) (n := x.mx) (hx := (by first | omega | (simp <;> omega))) (hn := (by assumption)) (hS := hS)) rfl ?_
          generalize hY11 : Y10 ++ eZ x.mx = Y11
          clear hS; rintro _ w ⟨a11, c11, rfl, hS⟩
          have hY11f0 : (List.length Y11) ≤ (List.length Y10) + 10 := by rw [← hY11, List.length_append]; exact Nat.add_le_add_left (eZ_len (by assumption)) _
          replace hS : St g (cel b2 #[.slice a11 (List.length (by8 Y11)) c11] 57 :: Own 5 1 (by8 Y11) a11 c11 :: cel b1 #[.int .i64 x.err, .int .u64 x.handle, .int .i64 x.value, .bool x.found, .int .i64 x.n, .int .i64 x.ekey, .int .i64 x.eval, .int .i64 x.count, .int .i64 x.sum, .int .i64 x.mn, .int .i64 x.mx, .slice ae (List.length (en2 x.ents)) ce, .slice ac (List.length (ch4 x.chs)) cc, .slice ak (List.length (i64s x.keys)) ck, .slice ab (List.length (by8 x.bytes)) cb] 53 :: Sh 5 1 (by8 bs) a c :: Sh 5 1 (by8 x.bytes) ab cb :: Sh 48 2 (en2 x.ents) ae ce :: Sh 77 4 (ch4 x.chs) ac cc :: Sh 2 1 (i64s x.keys) ak ck :: L) w := hS
          refine WL.nil ?_
          refine WC.seq ?_
          refine WC.region ?_
          refine WL.run 3 [.slice ae (List.length (en2 x.ents)) ce] rfl (by exact hS.ld 2 rfl rfl) ?_
          refine WL.call rfl rfl (wentries_spec (q := b2) (xs := Y11) (a := a11) (c := c11) (l := x.ents) (la := ae) (lc := ce) (hx := (by first | omega | (simp <;> omega))) (hl := (by omega)) (hx2 := (by first | omega | (simp <;> omega))) (hw := (by assumption)) (hS := (hS.sel 6 [0, 0, 3, 0, 0, 0] rfl))) rfl ?_
          generalize hY12 : Y11 ++ eEnts x.ents = Y12
          clear hS; rintro _ w ⟨a12, c12, rfl, hS⟩
          have hY12f0 : (List.length Y12) ≤ (List.length Y11) + (10 + 20 * (List.length x.ents)) := by rw [← hY12, List.length_append]; exact Nat.add_le_add_left (eEnts_len (by assumption) (by omega)) _
          replace hS : St g (cel b2 #[.slice a12 (List.length (by8 Y12)) c12] 57 :: Own 5 1 (by8 Y12) a12 c12 :: Sh 48 2 (en2 x.ents) ae ce :: cel b1 #[.int .i64 x.err, .int .u64 x.handle, .int .i64 x.value, .bool x.found, .int .i64 x.n, .int .i64 x.ekey, .int .i64 x.eval, .int .i64 x.count, .int .i64 x.sum, .int .i64 x.mn, .int .i64 x.mx, .slice ae (List.length (en2 x.ents)) ce, .slice ac (List.length (ch4 x.chs)) cc, .slice ak (List.length (i64s x.keys)) ck, .slice ab (List.length (by8 x.bytes)) cb] 53 :: Sh 5 1 (by8 bs) a c :: Sh 5 1 (by8 x.bytes) ab cb :: Sh 77 4 (ch4 x.chs) ac cc :: Sh 2 1 (i64s x.keys) ak ck :: L) w := hS
          refine WL.nil ?_
          refine WC.seq ?_
          refine WC.region ?_
          refine WL.run 3 [.slice ac (List.length (ch4 x.chs)) cc] rfl (by exact hS.ld 3 rfl rfl) ?_
          refine WL.call rfl rfl (wchanges_spec (q := b2) (xs := Y12) (a := a12) (c := c12) (l := x.chs) (la := ac) (lc := cc) (hx := (by first | omega | (simp <;> omega))) (hl := (by omega)) (hx2 := (by first | omega | (simp <;> omega))) (hw := (by assumption)) (hS := (hS.sel 7 [0, 0, 4, 0, 0, 0, 0] rfl))) rfl ?_
          generalize hY13 : Y12 ++ eChs x.chs = Y13
          clear hS; rintro _ w ⟨a13, c13, rfl, hS⟩
          have hY13f0 : (List.length Y13) ≤ (List.length Y12) + (10 + 31 * (List.length x.chs)) := by rw [← hY13, List.length_append]; exact Nat.add_le_add_left (eChs_len (by assumption) (by omega)) _
          replace hS : St g (cel b2 #[.slice a13 (List.length (by8 Y13)) c13] 57 :: Own 5 1 (by8 Y13) a13 c13 :: Sh 77 4 (ch4 x.chs) ac cc :: Sh 48 2 (en2 x.ents) ae ce :: cel b1 #[.int .i64 x.err, .int .u64 x.handle, .int .i64 x.value, .bool x.found, .int .i64 x.n, .int .i64 x.ekey, .int .i64 x.eval, .int .i64 x.count, .int .i64 x.sum, .int .i64 x.mn, .int .i64 x.mx, .slice ae (List.length (en2 x.ents)) ce, .slice ac (List.length (ch4 x.chs)) cc, .slice ak (List.length (i64s x.keys)) ck, .slice ab (List.length (by8 x.bytes)) cb] 53 :: Sh 5 1 (by8 bs) a c :: Sh 5 1 (by8 x.bytes) ab cb :: Sh 2 1 (i64s x.keys) ak ck :: L) w := hS
          refine WL.nil ?_
          as_aux_lemma =>
            refine WC.seq ?_
            refine WC.region ?_
            refine WL.run 5 [.slice ak (List.length (i64s x.keys)) ck] rfl (by exact hS.ld 4 rfl rfl) ?_
            refine WL.nw 73 rfl (wu64 (by omega)) ?_
            refine WL.call rfl rfl (wvarint_spec (q := b2) (xs := Y13) (a := a13) (c := c13) (u := (List.length (i64s x.keys) : Int)) (hx := (by first | omega | (simp <;> omega))) (hu := (by omega)) (hS := hS)) rfl ?_
            generalize hY14 : Y13 ++ eU (List.length (i64s x.keys) : Int) = Y14
            clear hS; rintro _ w ⟨a14, c14, rfl, hS⟩
            have hY14f0 : (List.length Y14) ≤ (List.length Y13) + 10 := by rw [← hY14, List.length_append]; exact Nat.add_le_add_left (eU_len (by omega)) _
            replace hS : St g (cel b2 #[.slice a14 (List.length (by8 Y14)) c14] 57 :: Own 5 1 (by8 Y14) a14 c14 :: Sh 77 4 (ch4 x.chs) ac cc :: Sh 48 2 (en2 x.ents) ae ce :: cel b1 #[.int .i64 x.err, .int .u64 x.handle, .int .i64 x.value, .bool x.found, .int .i64 x.n, .int .i64 x.ekey, .int .i64 x.eval, .int .i64 x.count, .int .i64 x.sum, .int .i64 x.mn, .int .i64 x.mx, .slice ae (List.length (en2 x.ents)) ce, .slice ac (List.length (ch4 x.chs)) cc, .slice ak (List.length (i64s x.keys)) ck, .slice ab (List.length (by8 x.bytes)) cb] 53 :: Sh 5 1 (by8 bs) a c :: Sh 5 1 (by8 x.bytes) ab cb :: Sh 2 1 (i64s x.keys) ak ck :: L) w := hS
            refine WL.nil ?_
            refine WC.seq ?_
            refine WC.seq ?_
            refine WC.region ?_
            refine WL.run 4 [.slice ak (List.length (i64s x.keys)) ck] rfl (by exact hS.ld 4 rfl rfl) ?_
            refine WL.nil ?_
            refine WC.block ?_
            refine WC.loop [0, 3, 4, 5, 76, 77, 78] (fun kM vs w => ∃ (k : Nat) (ys : List Int) (a3 : Option Addr) (c3 : Nat), vs = [.slice a (List.length (by8 bs)) c, .pointer (some ⟨b1, 0, none⟩), .slice none 0 0, .pointer (some ⟨b2, 0, none⟩), .slice ak (List.length (i64s x.keys)) ck, .int .i64 (List.length (i64s x.keys) : Int), .int .i64 (k : Int)] ∧ St g (cel b2 #[.slice a3 (List.length (by8 ys)) c3] 57 :: Own 5 1 (by8 ys) a3 c3 :: Sh 77 4 (ch4 x.chs) ac cc :: Sh 48 2 (en2 x.ents) ae ce :: cel b1 #[.int .i64 x.err, .int .u64 x.handle, .int .i64 x.value, .bool x.found, .int .i64 x.n, .int .i64 x.ekey, .int .i64 x.eval, .int .i64 x.count, .int .i64 x.sum, .int .i64 x.mn, .int .i64 x.mx, .slice ae (List.length (en2 x.ents)) ce, .slice ac (List.length (ch4 x.chs)) cc, .slice ak (List.length (i64s x.keys)) ck, .slice ab (List.length (by8 x.bytes)) cb] 53 :: Sh 5 1 (by8 bs) a c :: Sh 5 1 (by8 x.bytes) ab cb :: Sh 2 1 (i64s x.keys) ak ck :: L) w ∧ (k ≤ x.keys.length) ∧ (ys = Y14 ++ (x.keys.take k).flatMap eZ) ∧ (ys.length ≤ Y14.length + 10 * k) ∧ (x.keys.length - k) = kM) ((List.length x.keys) - 0) ⟨0, Y14, _, _, rfl, hS, (Nat.zero_le _), (by simp), (by omega), rfl⟩ ?_
            clear hS; rintro _ _ w j ⟨k, ys, a3, c3, rfl, hS, hk, hys, hyl, rfl⟩
            refine WC.seq ?_
            refine WC.region ?_
            refine WL.r 1 rfl ?_
            refine WL.nil ?_
            refine WC.seq ?_
            refine WC.ifP rfl (fun cd1 => ?_) (fun cd1 => ?_)
            · refine WC.skip ?_
              as_aux_lemma =>
                refine WC.seq ?_
                refine WC.block ?_
                refine WC.seq ?_
                refine WC.region ?_
                obtain ⟨z, hx2⟩ : ∃ z, x.keys[k]? = some z := ⟨_, List.getElem?_eq_getElem (by omega)⟩; have hz := w14 z (List.mem_of_getElem? hx2)
                refine WL.ix rfl rfl (i := (k : Int)) (k) el_51 rfl rfl (by omega) (len_of (i64s_at hx2)) (hS.rdS 7 rfl (i64s_at hx2)).1 ?_
                refine WL.run 2 [.int .i64 z] rfl (by exact (hS.rdS 7 rfl (i64s_at hx2)).2 0 _ rfl) ?_
                refine WL.nil ?_
                refine WC.region ?_
                refine WL.r 2 rfl ?_
                refine WL.call rfl rfl (wsigned_spec (q := b2) (xs := ys) (a := a3) (c := c3) (n := z) (hx := (by first | omega | (simp <;> omega))) (hn := (by assumption)) (hS := hS)) rfl ?_
                generalize hY15 : ys ++ eZ z = Y15
                clear hS; rintro _ w ⟨a15, c15, rfl, hS⟩
                have hY15f0 : (List.length Y15) ≤ (List.length ys) + 10 := by rw [← hY15, List.length_append]; exact Nat.add_le_add_left (eZ_len (by assumption)) _
                replace hS : St g (cel b2 #[.slice a15 (List.length (by8 Y15)) c15] 57 :: Own 5 1 (by8 Y15) a15 c15 :: Sh 77 4 (ch4 x.chs) ac cc :: Sh 48 2 (en2 x.ents) ae ce :: cel b1 #[.int .i64 x.err, .int .u64 x.handle, .int .i64 x.value, .bool x.found, .int .i64 x.n, .int .i64 x.ekey, .int .i64 x.eval, .int .i64 x.count, .int .i64 x.sum, .int .i64 x.mn, .int .i64 x.mx, .slice ae (List.length (en2 x.ents)) ce, .slice ac (List.length (ch4 x.chs)) cc, .slice ak (List.length (i64s x.keys)) ck, .slice ab (List.length (by8 x.bytes)) cb] 53 :: Sh 5 1 (by8 bs) a c :: Sh 5 1 (by8 x.bytes) ab cb :: Sh 2 1 (i64s x.keys) ak ck :: L) w := hS
                refine WL.nil ?_
                refine WC.region ?_
                refine WL.r 1 rfl ?_
                refine WL.nw 85 rfl (w64 (by omega)) ?_
                refine WL.r 1 rfl ?_
                refine WL.nil ?_
                exact ⟨_, by omega, k + 1, Y15, _, _, rfl, hS, (by omega), (by rw [fm_take eZ hx2, ← hY15, hys]; simp only [List.append_assoc]), (by omega), rfl⟩
            · refine WC.exit ?_
              as_aux_lemma =>
                refine WC.seq ?_
                refine WC.region ?_
                refine WL.run 3 [.slice ab (List.length (by8 x.bytes)) cb] rfl (by exact hS.ld 4 rfl rfl) ?_
                refine WL.call rfl rfl (wbytes_spec (q := b2) (xs := ys) (a := a3) (c := c3) (l := x.bytes) (la := ab) (lc := cb) (hx := (by first | omega | (simp <;> omega))) (hl := (by omega)) (hS := (hS.sel 7 [0, 0, 4, 0, 0, 0, 0] rfl))) rfl ?_
                generalize hY15 : ys ++ eBytes x.bytes = Y15
                clear hS; rintro _ w ⟨a15, c15, rfl, hS⟩
                have hY15f0 : (List.length Y15) ≤ (List.length ys) + (10 + (List.length x.bytes)) := by rw [← hY15, List.length_append]; exact Nat.add_le_add_left (eBytes_len (by omega)) _
                replace hS : St g (cel b2 #[.slice a15 (List.length (by8 Y15)) c15] 57 :: Own 5 1 (by8 Y15) a15 c15 :: Sh 5 1 (by8 x.bytes) ab cb :: Sh 77 4 (ch4 x.chs) ac cc :: Sh 48 2 (en2 x.ents) ae ce :: cel b1 #[.int .i64 x.err, .int .u64 x.handle, .int .i64 x.value, .bool x.found, .int .i64 x.n, .int .i64 x.ekey, .int .i64 x.eval, .int .i64 x.count, .int .i64 x.sum, .int .i64 x.mn, .int .i64 x.mx, .slice ae (List.length (en2 x.ents)) ce, .slice ac (List.length (ch4 x.chs)) cc, .slice ak (List.length (i64s x.keys)) ck, .slice ab (List.length (by8 x.bytes)) cb] 53 :: Sh 5 1 (by8 bs) a c :: Sh 2 1 (i64s x.keys) ak ck :: L) w := hS
                refine WL.nil ?_
                refine WC.seq ?_
                refine WC.region ?_
                refine WL.run 5 [.slice a15 (List.length (by8 Y15)) c15] rfl (by exact hS.ld 0 rfl rfl) ?_
                replace hS := (hS.at_ 1 rfl).share
                replace hS : St g (Sh 5 1 (by8 Y15) a15 c15 :: cel b2 #[.slice a15 (List.length (by8 Y15)) c15] 57 :: Sh 5 1 (by8 x.bytes) ab cb :: Sh 77 4 (ch4 x.chs) ac cc :: Sh 48 2 (en2 x.ents) ae ce :: cel b1 #[.int .i64 x.err, .int .u64 x.handle, .int .i64 x.value, .bool x.found, .int .i64 x.n, .int .i64 x.ekey, .int .i64 x.eval, .int .i64 x.count, .int .i64 x.sum, .int .i64 x.mn, .int .i64 x.mx, .slice ae (List.length (en2 x.ents)) ce, .slice ac (List.length (ch4 x.chs)) cc, .slice ak (List.length (i64s x.keys)) ck, .slice ab (List.length (by8 x.bytes)) cb] 53 :: Sh 5 1 (by8 bs) a c :: Sh 2 1 (i64s x.keys) ak ck :: L) w := hS
                refine WL.call rfl rfl (join_spec (xs := bs) (ys := Y15) (a := a) (b := a15) (c := c) (d := c15) (hx := (by omega)) (hS := (hS.sel 7 [6, 0, 0, 0, 0, 0, 0] rfl))) rfl ?_
                clear hS; rintro _ w ⟨a16, c16, rfl, hS⟩
                replace hS : St g (Own 5 1 (by8 (bs ++ Y15)) a16 c16 :: Sh 5 1 (by8 bs) a c :: Sh 5 1 (by8 Y15) a15 c15 :: cel b2 #[.slice a15 (List.length (by8 Y15)) c15] 57 :: Sh 5 1 (by8 x.bytes) ab cb :: Sh 77 4 (ch4 x.chs) ac cc :: Sh 48 2 (en2 x.ents) ae ce :: cel b1 #[.int .i64 x.err, .int .u64 x.handle, .int .i64 x.value, .bool x.found, .int .i64 x.n, .int .i64 x.ekey, .int .i64 x.eval, .int .i64 x.count, .int .i64 x.sum, .int .i64 x.mn, .int .i64 x.mx, .slice ae (List.length (en2 x.ents)) ce, .slice ac (List.length (ch4 x.chs)) cc, .slice ak (List.length (i64s x.keys)) ck, .slice ab (List.length (by8 x.bytes)) cb] 53 :: Sh 2 1 (i64s x.keys) ak ck :: L) w := hS
                refine WL.r 1 rfl ?_
                refine WL.nil ?_
                refine WC.ret ?_
                refine ⟨[.slice a16 (List.length (by8 (bs ++ Y15))) c16], rfl, ?_⟩
                replace hS := (hS.sel 8 [0, 0, 2, 3, 2] rfl)
                have hy : Y15 = eAn x := by
                  rw [← hY15, hys, fm_all eZ (by omega), ← hY14, ← hY13, ← hY12, ← hY11, ← hY10, ← hY9, ← hY8, ← hY7, ← hY6, ← hY5, ← hY4, ← hY3, ← hY2, ← hY1, eAn]; simp only [List.nil_append, List.append_assoc, i64s_len]
                rw [← hy]; exact ⟨_, _, rfl, hS⟩
end Go.Proofs.YthcmigbamkohpaaGreatDoor
/-! ## Sc2 -/
namespace Go.Proofs.YthcmigbamkohpaaGreatDoor
open Go Go.V Go.RowKit Go.Maps
set_option maxRecDepth 8192 in
theorem fields_1 {g w : World} {L : List HP} (hS : St g (L) w) :
    Sp Tryz.prog 13 [.int .i64 1] w (fun v w' => v = .tuple #[.string (mkS []), .bool true] ∧ St g (L) w') := by
  refine Sp.enter Tryz.func13 rfl (by kernel_rfl) (by kernel_rfl) ?_
  refine WC.seq ?_
  refine WC.region ?_
  refine WL.r 2 rfl ?_
  refine WL.nil ?_
  refine WC.seq ?_
  refine WC.seq ?_
  refine WC.region ?_
  refine WL.r 1 rfl ?_
  refine WL.nil ?_
  refine WC.block ?_
  refine WC.seq ?_
  refine WC.seq ?_
  refine WC.region ?_
  refine WL.r 2 rfl ?_
  refine WL.nil ?_
  refine WC.ifT rfl (decide_eq_true ((by decide))) ?_
  refine WC.skip ?_
  refine WC.ifT rfl (decide_eq_true ((by decide))) ?_
  refine WC.seq ?_
  refine WC.region ?_
  refine WL.r 2 rfl ?_
  refine WL.nil ?_
  refine WC.ret ?_
  refine ⟨[.string ⟨#[]⟩, .bool true], ⟨rfl, rfl⟩, ?_⟩
  exact ⟨rfl, hS⟩
theorem okOp_1 : okOp (op0 1) := by
  refine ⟨rfl, ⟨?_, ?_, ?_, ?_, ?_⟩, fun _ h => (by cases h), ?_⟩
  · exact ⟨Int.le_refl 0, (by decide)⟩
  · show 0 ≤ 32; decide
  · exact Nat.zero_le _
  · exact Nat.zero_le _
  · exact Nat.zero_le _
  · exact ⟨fun _ => rfl, fun _ => rfl, fun _ => rfl, fun _ => rfl, fun _ => rfl, fun _ => rfl, fun _ => rfl, fun _ => rfl, fun _ => rfl, fun _ => rfl, fun _ => rfl, fun _ => rfl⟩
set_option maxRecDepth 8192 in
theorem valid_1 {g w : World} {L : List HP} (hS : St g (L) w) :
    Sp Tryz.prog 12 [.agg #[.int .i64 1, .int .u64 0, .int .u64 0, .int .i64 0, .int .i64 0, .int .i64 0, .int .i64 0, .int .i64 0, .bool false, .string ⟨#[]⟩, .slice none 0 0, .slice none 0 0, .slice none 0 0]] w (fun v w' => v = .bool true ∧ St g (L) w') := by
  refine (valid_spec (op0 1) none none none 0 0 0 (hS.nilS 77 4)).mono fun v w' h => ?_
  obtain ⟨ok, h1, h2, h3⟩ := h
  have h4 : ok = true := h3.2 okOp_1
  subst h4
  exact ⟨h1, h2.sel 1 [] rfl⟩
set_option maxRecDepth 8192 in
theorem snd_1 {g w : World} {L : List HP} (hS : St g (L) w) :
    Sp Tryz.prog 42 [.agg #[.int .i64 1, .int .u64 0, .int .u64 0, .int .i64 0, .int .i64 0, .int .i64 0, .int .i64 0, .int .i64 0, .bool false, .string ⟨#[]⟩, .slice none 0 0, .slice none 0 0, .slice none 0 0]] w (fun v w' => v = .bool true ∧ St g (L) w') := by
  refine Sp.enter Tryz.func42 rfl (by kernel_rfl) (by kernel_rfl) ?_
  refine WC.seq ?_
  refine WC.region ?_
  refine WL.box rfl rfl #[.int .i64 1, .int .u64 0, .int .u64 0, .int .i64 0, .int .i64 0, .int .i64 0, .int .i64 0, .int .i64 0, .bool false, .string ⟨#[]⟩, .slice none 0 0, .slice none 0 0, .slice none 0 0] hS rfl rfl (fun b1 w hS => ?_)
  refine WL.r 1 rfl ?_
  refine WL.nil ?_
  refine WC.seq ?_
  refine WC.seq ?_
  refine WC.region ?_
  refine WL.run 2 [.int .i64 1] rfl (by exact hS.ld 0 rfl rfl) ?_
  refine WL.nil ?_
  refine WC.block ?_
  refine WC.seq ?_
  refine WC.region ?_
  refine WL.r 2 rfl ?_
  refine WL.nil ?_
  refine WC.ifF rfl (decide_eq_false ((by decide))) ?_
  refine WC.seq ?_
  refine WC.region ?_
  refine WL.r 2 rfl ?_
  refine WL.nil ?_
  refine WC.ifF rfl (decide_eq_false ((by decide))) ?_
  refine WC.seq ?_
  refine WC.region ?_
  refine WL.r 2 rfl ?_
  refine WL.nil ?_
  as_aux_lemma =>
    refine WC.ifF rfl (decide_eq_false ((by decide))) ?_
    refine WC.seq ?_
    refine WC.region ?_
    refine WL.r 2 rfl ?_
    refine WL.nil ?_
    refine WC.ifF rfl (decide_eq_false ((by decide))) ?_
    refine WC.seq ?_
    refine WC.region ?_
    refine WL.r 2 rfl ?_
    refine WL.nil ?_
    refine WC.ifF rfl (decide_eq_false ((by decide))) ?_
    refine WC.seq ?_
    refine WC.region ?_
    refine WL.r 2 rfl ?_
    refine WL.nil ?_
    refine WC.ifF rfl (decide_eq_false ((by decide))) ?_
    refine WC.seq ?_
    refine WC.region ?_
    refine WL.r 2 rfl ?_
    refine WL.nil ?_
    refine WC.ifF rfl (decide_eq_false ((by decide))) ?_
    refine WC.skip ?_
    refine WC.seq ?_
    refine WC.region ?_
    refine WL.r 1 rfl ?_
    refine WL.nil ?_
    as_aux_lemma =>
      refine WC.ret ?_
      refine ⟨[.bool true], rfl, ?_⟩
      replace hS := (hS.sel 1 [] rfl)
      exact ⟨rfl, hS⟩
set_option maxRecDepth 8192 in
theorem opA_1 {g w : World} {L : List HP} (p : Nat) (hS : St g (L) w) :
    Sp Tryz.prog 66 [.pointer (some ⟨p, 0, none⟩), .agg #[.int .i64 1, .int .u64 0, .int .u64 0, .int .i64 0, .int .i64 0, .int .i64 0, .int .i64 0, .int .i64 0, .bool false, .string ⟨#[]⟩, .slice none 0 0, .slice none 0 0, .slice none 0 0]] w (fun v w' => v = .int .i64 0 ∧ St g (L) w') := by
  refine Sp.enter Tryz.func66 rfl (by kernel_rfl) (by kernel_rfl) ?_
  refine WC.seq ?_
  refine WC.region ?_
  refine WL.box rfl rfl #[.int .i64 1, .int .u64 0, .int .u64 0, .int .i64 0, .int .i64 0, .int .i64 0, .int .i64 0, .int .i64 0, .bool false, .string ⟨#[]⟩, .slice none 0 0, .slice none 0 0, .slice none 0 0] hS rfl rfl (fun b1 w hS => ?_)
  refine WL.r 1 rfl ?_
  refine WL.nil ?_
  refine WC.seq ?_
  refine WC.seq ?_
  refine WC.region ?_
  refine WL.run 2 [.int .i64 1] rfl (by exact hS.ld 0 rfl rfl) ?_
  refine WL.nil ?_
  refine WC.block ?_
  refine WC.seq ?_
  refine WC.seq ?_
  refine WC.region ?_
  refine WL.r 2 rfl ?_
  refine WL.nil ?_
  refine WC.ifT rfl (by decide) ?_
  refine WC.skip ?_
  refine WC.ifT rfl (by decide) ?_
  refine WC.seq ?_
  refine WC.region ?_
  refine WL.r 1 rfl ?_
  refine WL.nil ?_
  refine WC.ret ?_
  refine ⟨[.int .i64 0], rfl, ?_⟩
  replace hS := (hS.sel 1 [] rfl)
  exact ⟨rfl, hS⟩
set_option maxRecDepth 8192 in
theorem open_1 {g w : World} {L : List HP} (p : Nat) (hS : St g (L) w) :
    Sp Tryz.prog 44 [.pointer (some ⟨p, 0, none⟩), .agg #[.int .i64 1, .int .u64 0, .int .u64 0, .int .i64 0, .int .i64 0, .int .i64 0, .int .i64 0, .int .i64 0, .bool false, .string ⟨#[]⟩, .slice none 0 0, .slice none 0 0, .slice none 0 0]] w (fun v w' => v = .int .i64 0 ∧ St g (L) w') := by
  refine Sp.enter Tryz.func44 rfl (by kernel_rfl) (by kernel_rfl) ?_
  refine WC.seq ?_
  refine WC.region ?_
  refine WL.box rfl rfl #[.int .i64 1, .int .u64 0, .int .u64 0, .int .i64 0, .int .i64 0, .int .i64 0, .int .i64 0, .int .i64 0, .bool false, .string ⟨#[]⟩, .slice none 0 0, .slice none 0 0, .slice none 0 0] hS rfl rfl (fun b1 w hS => ?_)
  refine WL.r 1 rfl ?_
  refine WL.nil ?_
  refine WC.seq ?_
  refine WC.seq ?_
  refine WC.region ?_
  refine WL.r 1 rfl ?_
  refine WL.ldF rfl rfl 0 hS rfl rfl ag_29 ?_
  refine WL.call rfl rfl (opA_1 (p := p)  (hS := hS)) rfl ?_
  clear hS; rintro _ w ⟨rfl, hS⟩
  replace hS : St g (cel b1 #[.int .i64 1, .int .u64 0, .int .u64 0, .int .i64 0, .int .i64 0, .int .i64 0, .int .i64 0, .int .i64 0, .bool false, .string ⟨#[]⟩, .slice none 0 0, .slice none 0 0, .slice none 0 0] 29 :: L) w := hS
  refine WL.r 1 rfl ?_
  refine WL.nil ?_
  refine WC.seq ?_
  refine WC.region ?_
  refine WL.r 2 rfl ?_
  refine WL.nil ?_
  refine WC.ifF rfl (decide_eq_false ((by decide))) ?_
  refine WC.skip ?_
  refine WC.seq ?_
  refine WC.seq ?_
  refine WC.region ?_
  refine WL.run 2 [.int .i64 1] rfl (by exact hS.ld 0 rfl rfl) ?_
  refine WL.nil ?_
  as_aux_lemma =>
    refine WC.block ?_
    refine WC.seq ?_
    refine WC.seq ?_
    refine WC.region ?_
    refine WL.r 2 rfl ?_
    refine WL.nil ?_
    refine WC.ifF rfl (decide_eq_false ((by decide))) ?_
    refine WC.seq ?_
    refine WC.region ?_
    refine WL.r 2 rfl ?_
    refine WL.nil ?_
    refine WC.ifF rfl (decide_eq_false ((by decide))) ?_
    refine WC.seq ?_
    refine WC.region ?_
    refine WL.r 2 rfl ?_
    refine WL.nil ?_
    refine WC.ifF rfl (decide_eq_false ((by decide))) ?_
    refine WC.seq ?_
    refine WC.region ?_
    refine WL.r 2 rfl ?_
    refine WL.nil ?_
    refine WC.ifF rfl (decide_eq_false ((by decide))) ?_
    refine WC.region ?_
    refine WL.r 2 rfl ?_
    refine WL.nil ?_
    as_aux_lemma =>
      refine WC.ifF rfl (decide_eq_false ((by decide))) ?_
      refine WC.seq ?_
      refine WC.seq ?_
      refine WC.region ?_
      refine WL.r 2 rfl ?_
      refine WL.nil ?_
      refine WC.ifF rfl (decide_eq_false ((by decide))) ?_
      refine WC.seq ?_
      refine WC.region ?_
      refine WL.r 2 rfl ?_
      refine WL.nil ?_
      refine WC.ifF rfl (decide_eq_false ((by decide))) ?_
      refine WC.region ?_
      refine WL.r 2 rfl ?_
      refine WL.nil ?_
      refine WC.ifF rfl (decide_eq_false ((by decide))) ?_
      refine WC.skip ?_
      refine WC.seq ?_
      refine WC.region ?_
      refine WL.r 1 rfl ?_
      refine WL.nil ?_
      refine WC.ret ?_
      refine ⟨[.int .i64 0], rfl, ?_⟩
      replace hS := (hS.sel 1 [] rfl)
      exact ⟨rfl, hS⟩
set_option maxRecDepth 8192 in
theorem creates_1 {g w : World} {L : List HP} (hS : St g (L) w) :
    Sp Tryz.prog 45 [.int .i64 1] w (fun v w' => v = .bool true ∧ St g (L) w') := by
  refine Sp.enter Tryz.func45 rfl (by kernel_rfl) (by kernel_rfl) ?_
  refine WC.seq ?_
  refine WC.region ?_
  refine WL.r 1 rfl ?_
  refine WL.nil ?_
  refine WC.seq ?_
  refine WC.seq ?_
  refine WC.region ?_
  refine WL.r 1 rfl ?_
  refine WL.nil ?_
  refine WC.block ?_
  refine WC.seq ?_
  refine WC.seq ?_
  refine WC.region ?_
  refine WL.r 2 rfl ?_
  refine WL.nil ?_
  refine WC.ifT rfl (decide_eq_true ((by decide))) ?_
  refine WC.skip ?_
  refine WC.ifT rfl (decide_eq_true ((by decide))) ?_
  refine WC.seq ?_
  refine WC.region ?_
  refine WL.r 1 rfl ?_
  refine WL.nil ?_
  refine WC.ret ?_
  refine ⟨[.bool true], rfl, ?_⟩
  exact ⟨rfl, hS⟩
theorem opn_0 {V : VM} (hT : TOk V.T) : V.T.s.opn 0 = false := by
  have : V.T.s.ok 0 = false := hT.s.u0
  unfold SM.opn
  rw [show (0 : Int) % 4294967296 = 0 from rfl, this]; rfl
set_option maxRecDepth 8192 in
theorem root_0 {g w : World} {L : List HP} (p s a : Nat) (V : VM) (hT : TOk V.T) (hS : St g (Sto p s a V :: L) w) :
    Sp Tryz.prog 70 [.pointer (some ⟨p, 0, none⟩), .int .u64 0] w (fun v w' => v = .int .u32 0 ∧ St g (Sto p s a V :: L) w') := by
  refine Sp.enter Tryz.func70 rfl (by kernel_rfl) (by kernel_rfl) ?_
  refine WC.seq ?_
  refine WC.region ?_
  refine WL.r 1 rfl ?_
  refine WL.nil ?_
  refine WC.seq ?_
  refine WC.region ?_
  obtain ⟨⟨nm, c, x, m⟩, hS⟩ := St.exOpen (f := stoF p s a V) hS
  replace hS : St g (cel p #[.pointer (some ⟨s, 0, none⟩), .pointer (some ⟨nm, 0, none⟩), .pointer (some ⟨c, 0, none⟩), .pointer (some ⟨x, 0, none⟩), .map (some m)] 102 :: Vst s a V :: blk m (.map (mE []) 0) :: L) w := hS
  refine WL.run 5 [.pointer (some ⟨s, 0, none⟩)] rfl (by exact hS.ld 0 rfl rfl) ?_
  refine WL.call rfl rfl (vs_root_bad (s := s) (a := a) (V := V) (h := 0) (hT := hT) (hh := (by decide)) (hn := opn_0 hT) (hS := (hS.sel 2 [1, 0] rfl))) rfl ?_
  clear hS; rintro _ w ⟨rfl, hS⟩
  replace hS : St g (Vst s a V :: cel p #[.pointer (some ⟨s, 0, none⟩), .pointer (some ⟨nm, 0, none⟩), .pointer (some ⟨c, 0, none⟩), .pointer (some ⟨x, 0, none⟩), .map (some m)] 102 :: blk m (.map (mE []) 0) :: L) w := hS
  refine WL.r 5 rfl ?_
  refine WL.nil ?_
  refine WC.seq ?_
  refine WC.region ?_
  refine WL.r 2 rfl ?_
  refine WL.nil ?_
  refine WC.ret ?_
  replace hS := St.exClose (f := stoF p s a V) (L := L) ⟨nm, c, x, m⟩ ((hS.sel 2 [1, 0] rfl))
  replace hS : St g (Sto p s a V :: L) w := hS
  refine ⟨[.int .u32 0], rfl, ?_⟩
  exact ⟨rfl, hS⟩
set_option maxRecDepth 8192 in
theorem create_1 {g w : World} {L : List HP} (p s a : Nat) (V : VM) (A : AM) (R : List Int) (hV : VI V A R) (hrm : 0 < V.room) (hla : V.last < 1000000000) (hlen : R.length ≤ 900000000) (hS : St g (Sto p s a V :: Arn a A :: L) w) :
    Sp Tryz.prog 47 [.pointer (some ⟨p, 0, none⟩), .agg #[.int .i64 1, .int .u64 0, .int .u64 0, .int .i64 0, .int .i64 0, .int .i64 0, .int .i64 0, .int .i64 0, .bool false, .string ⟨#[]⟩, .slice none 0 0, .slice none 0 0, .slice none 0 0]] w (fun v w' => ∃ (V2 : VM), v = .agg #[.int .i64 0, .int .u64 V.T.newH, .int .i64 0, .bool false, .int .i64 0, .int .i64 0, .int .i64 0, .int .i64 0, .int .i64 0, .int .i64 0, .int .i64 0, .slice none 0 0, .slice none 0 0, .slice none 0 0, .slice none 0 0] ∧ St g (Sto p s a V2 :: Arn a A :: L) w' ∧ (VI V2 A R) ∧ (Com V 0 [] V2)) := by
  refine Sp.enter Tryz.func47 rfl (by kernel_rfl) (by kernel_rfl) ?_
  refine WC.seq ?_
  refine WC.region ?_
  refine WL.box rfl rfl #[.int .i64 1, .int .u64 0, .int .u64 0, .int .i64 0, .int .i64 0, .int .i64 0, .int .i64 0, .int .i64 0, .bool false, .string ⟨#[]⟩, .slice none 0 0, .slice none 0 0, .slice none 0 0] hS rfl rfl (fun b1 w hS => ?_)
  refine WL.new rfl rfl zv_53 hS (fun b2 w hS => ?_)
  refine WL.nil ?_
  refine WC.seq ?_
  refine WC.region ?_
  refine WL.run 2 [.int .u64 0] rfl (by exact hS.ld 1 rfl rfl) ?_
  refine WL.lit rfl rfl (u64s [0]) el_143 hS (by exact ⟨rfl, rfl⟩) (u64s_ok _) rfl (by decide) (fun b3 w hS => ?_)
  refine WL.r 1 rfl ?_
  refine WL.nil ?_
  refine WC.seq ?_
  refine WC.region ?_
  refine WL.new rfl rfl zv_53 hS (fun b4 w hS => ?_)
  refine WL.nil ?_
  refine WC.seq ?_
  refine WC.region ?_
  refine WL.r 1 rfl ?_
  refine WL.nil ?_
  refine WC.seq ?_
  refine WC.region ?_
  refine WL.run 3 [.int .u64 0] rfl (by exact hS.ld 3 rfl rfl) ?_
  refine WL.call rfl rfl (root_0 (p := p) (s := s) (a := a) (V := V) (hT := hV.t) (hS := (hS.sel 5 [4, 0, 0, 0, 0] rfl))) rfl ?_
  clear hS; rintro _ w ⟨rfl, hS⟩
  replace hS : St g (Sto p s a V :: cel b4 #[.int .i64 0, .int .u64 0, .int .i64 0, .bool false, .int .i64 0, .int .i64 0, .int .i64 0, .int .i64 0, .int .i64 0, .int .i64 0, .int .i64 0, .slice none 0 0, .slice none 0 0, .slice none 0 0, .slice none 0 0] 53 :: Own 25 1 (u64s [0]) (some ⟨b3, 0, none⟩) (List.length (u64s [0])) :: cel b2 #[.int .i64 0, .int .u64 0, .int .i64 0, .bool false, .int .i64 0, .int .i64 0, .int .i64 0, .int .i64 0, .int .i64 0, .int .i64 0, .int .i64 0, .slice none 0 0, .slice none 0 0, .slice none 0 0, .slice none 0 0] 53 :: cel b1 #[.int .i64 1, .int .u64 0, .int .u64 0, .int .i64 0, .int .i64 0, .int .i64 0, .int .i64 0, .int .i64 0, .bool false, .string ⟨#[]⟩, .slice none 0 0, .slice none 0 0, .slice none 0 0] 29 :: Arn a A :: L) w := hS
  refine WL.r 1 rfl ?_
  refine WL.nil ?_
  as_aux_lemma =>
    refine WC.seq ?_
    refine WC.seq ?_
    refine WC.region ?_
    refine WL.run 2 [.int .i64 1] rfl (by exact hS.ld 4 rfl rfl) ?_
    refine WL.nil ?_
    refine WC.block ?_
    refine WC.seq ?_
    refine WC.region ?_
    refine WL.r 2 rfl ?_
    refine WL.nil ?_
    refine WC.ifT rfl (decide_eq_true ((by decide))) ?_
    refine WC.region ?_
    refine WL.r 1 rfl ?_
    refine WL.nil ?_
    refine WC.seq ?_
    refine WC.seq ?_
    refine WC.region ?_
    refine WL.run 3 [.int .i64 0] rfl (by exact hS.ld 1 rfl rfl) ?_
    refine WL.nil ?_
    refine WC.ifF rfl (decide_eq_false ((by decide))) ?_
    refine WC.skip ?_
    refine WC.seq ?_
    refine WC.region ?_
    obtain ⟨⟨nm, c, x, m⟩, hS⟩ := St.exOpen (f := stoF p s a V) hS
    replace hS : St g (cel p #[.pointer (some ⟨s, 0, none⟩), .pointer (some ⟨nm, 0, none⟩), .pointer (some ⟨c, 0, none⟩), .pointer (some ⟨x, 0, none⟩), .map (some m)] 102 :: Vst s a V :: blk m (.map (mE []) 0) :: cel b4 #[.int .i64 0, .int .u64 0, .int .i64 0, .bool false, .int .i64 0, .int .i64 0, .int .i64 0, .int .i64 0, .int .i64 0, .int .i64 0, .int .i64 0, .slice none 0 0, .slice none 0 0, .slice none 0 0, .slice none 0 0] 53 :: Own 25 1 (u64s [0]) (some ⟨b3, 0, none⟩) (List.length (u64s [0])) :: cel b2 #[.int .i64 0, .int .u64 0, .int .i64 0, .bool false, .int .i64 0, .int .i64 0, .int .i64 0, .int .i64 0, .int .i64 0, .int .i64 0, .int .i64 0, .slice none 0 0, .slice none 0 0, .slice none 0 0, .slice none 0 0] 53 :: cel b1 #[.int .i64 1, .int .u64 0, .int .u64 0, .int .i64 0, .int .i64 0, .int .i64 0, .int .i64 0, .int .i64 0, .bool false, .string ⟨#[]⟩, .slice none 0 0, .slice none 0 0, .slice none 0 0] 29 :: Arn a A :: L) w := hS
    refine WL.run 6 [.pointer (some ⟨s, 0, none⟩)] rfl (by exact hS.ld 0 rfl rfl) ?_
    replace hS := hS.nilS 25 1
    replace hS : St g (Sh 25 1 (u64s []) none 0 :: cel p #[.pointer (some ⟨s, 0, none⟩), .pointer (some ⟨nm, 0, none⟩), .pointer (some ⟨c, 0, none⟩), .pointer (some ⟨x, 0, none⟩), .map (some m)] 102 :: Vst s a V :: blk m (.map (mE []) 0) :: cel b4 #[.int .i64 0, .int .u64 0, .int .i64 0, .bool false, .int .i64 0, .int .i64 0, .int .i64 0, .int .i64 0, .int .i64 0, .int .i64 0, .int .i64 0, .slice none 0 0, .slice none 0 0, .slice none 0 0, .slice none 0 0] 53 :: Own 25 1 (u64s [0]) (some ⟨b3, 0, none⟩) (List.length (u64s [0])) :: cel b2 #[.int .i64 0, .int .u64 0, .int .i64 0, .bool false, .int .i64 0, .int .i64 0, .int .i64 0, .int .i64 0, .int .i64 0, .int .i64 0, .int .i64 0, .slice none 0 0, .slice none 0 0, .slice none 0 0, .slice none 0 0] 53 :: cel b1 #[.int .i64 1, .int .u64 0, .int .u64 0, .int .i64 0, .int .i64 0, .int .i64 0, .int .i64 0, .int .i64 0, .bool false, .string ⟨#[]⟩, .slice none 0 0, .slice none 0 0, .slice none 0 0] 29 :: Arn a A :: L) w := hS
    refine WL.call rfl rfl (vs_commit (s := s) (a := a) (V := V) (A := A) (R := R) (root := 0) (hs := []) (pa := none) (pc := 0) (hV := hV) (hr := (.inl rfl)) (hps := okPs_nil) (hop := (fun _ h => by cases h)) (hrm := hrm) (hla := hla) (hlen := hlen) (hS := (hS.sel 9 [2, 7, 0, 0, 0, 0, 0, 0, 0] rfl))) rfl ?_
    clear hS; rintro _ w ⟨V1, rfl, hS, f1, f2⟩
    replace hS : St g (Vst s a V1 :: Arn a (A.ret 0) :: Sh 25 1 (u64s []) none 0 :: cel p #[.pointer (some ⟨s, 0, none⟩), .pointer (some ⟨nm, 0, none⟩), .pointer (some ⟨c, 0, none⟩), .pointer (some ⟨x, 0, none⟩), .map (some m)] 102 :: blk m (.map (mE []) 0) :: cel b4 #[.int .i64 0, .int .u64 0, .int .i64 0, .bool false, .int .i64 0, .int .i64 0, .int .i64 0, .int .i64 0, .int .i64 0, .int .i64 0, .int .i64 0, .slice none 0 0, .slice none 0 0, .slice none 0 0, .slice none 0 0] 53 :: Own 25 1 (u64s [0]) (some ⟨b3, 0, none⟩) (List.length (u64s [0])) :: cel b2 #[.int .i64 0, .int .u64 0, .int .i64 0, .bool false, .int .i64 0, .int .i64 0, .int .i64 0, .int .i64 0, .int .i64 0, .int .i64 0, .int .i64 0, .slice none 0 0, .slice none 0 0, .slice none 0 0, .slice none 0 0] 53 :: cel b1 #[.int .i64 1, .int .u64 0, .int .u64 0, .int .i64 0, .int .i64 0, .int .i64 0, .int .i64 0, .int .i64 0, .bool false, .string ⟨#[]⟩, .slice none 0 0, .slice none 0 0, .slice none 0 0] 29 :: L) w := hS
    refine WL.r 4 rfl ?_
    refine WL.st rfl rfl rfl 5 hS rfl rfl rfl rfl rfl rfl (fun w hS => ?_)
    replace hS : St g (Vst s a V1 :: Arn a (A.ret 0) :: Sh 25 1 (u64s []) none 0 :: cel p #[.pointer (some ⟨s, 0, none⟩), .pointer (some ⟨nm, 0, none⟩), .pointer (some ⟨c, 0, none⟩), .pointer (some ⟨x, 0, none⟩), .map (some m)] 102 :: blk m (.map (mE []) 0) :: cel b4 #[.int .i64 0, .int .u64 V.T.newH, .int .i64 0, .bool false, .int .i64 0, .int .i64 0, .int .i64 0, .int .i64 0, .int .i64 0, .int .i64 0, .int .i64 0, .slice none 0 0, .slice none 0 0, .slice none 0 0, .slice none 0 0] 53 :: Own 25 1 (u64s [0]) (some ⟨b3, 0, none⟩) (List.length (u64s [0])) :: cel b2 #[.int .i64 0, .int .u64 0, .int .i64 0, .bool false, .int .i64 0, .int .i64 0, .int .i64 0, .int .i64 0, .int .i64 0, .int .i64 0, .int .i64 0, .slice none 0 0, .slice none 0 0, .slice none 0 0, .slice none 0 0] 53 :: cel b1 #[.int .i64 1, .int .u64 0, .int .u64 0, .int .i64 0, .int .i64 0, .int .i64 0, .int .i64 0, .int .i64 0, .bool false, .string ⟨#[]⟩, .slice none 0 0, .slice none 0 0, .slice none 0 0] 29 :: L) w := hS
    refine WL.r 1 rfl ?_
    refine WL.st rfl rfl rfl 5 hS rfl rfl rfl rfl rfl rfl (fun w hS => ?_)
    replace hS : St g (Vst s a V1 :: Arn a (A.ret 0) :: Sh 25 1 (u64s []) none 0 :: cel p #[.pointer (some ⟨s, 0, none⟩), .pointer (some ⟨nm, 0, none⟩), .pointer (some ⟨c, 0, none⟩), .pointer (some ⟨x, 0, none⟩), .map (some m)] 102 :: blk m (.map (mE []) 0) :: cel b4 #[.int .i64 0, .int .u64 V.T.newH, .int .i64 0, .bool false, .int .i64 0, .int .i64 0, .int .i64 0, .int .i64 0, .int .i64 0, .int .i64 0, .int .i64 0, .slice none 0 0, .slice none 0 0, .slice none 0 0, .slice none 0 0] 53 :: Own 25 1 (u64s [0]) (some ⟨b3, 0, none⟩) (List.length (u64s [0])) :: cel b2 #[.int .i64 0, .int .u64 0, .int .i64 0, .bool false, .int .i64 0, .int .i64 0, .int .i64 0, .int .i64 0, .int .i64 0, .int .i64 0, .int .i64 0, .slice none 0 0, .slice none 0 0, .slice none 0 0, .slice none 0 0] 53 :: cel b1 #[.int .i64 1, .int .u64 0, .int .u64 0, .int .i64 0, .int .i64 0, .int .i64 0, .int .i64 0, .int .i64 0, .bool false, .string ⟨#[]⟩, .slice none 0 0, .slice none 0 0, .slice none 0 0] 29 :: L) w := hS
    refine WL.nil ?_
    as_aux_lemma =>
      refine WC.seq ?_
      refine WC.region ?_
      replace hS := St.exClose (f := stoF p s a V1) (L := Arn a (A.ret 0) :: Sh 25 1 (u64s []) none 0 :: cel b4 #[.int .i64 0, .int .u64 V.T.newH, .int .i64 0, .bool false, .int .i64 0, .int .i64 0, .int .i64 0, .int .i64 0, .int .i64 0, .int .i64 0, .int .i64 0, .slice none 0 0, .slice none 0 0, .slice none 0 0, .slice none 0 0] 53 :: Own 25 1 (u64s [0]) (some ⟨b3, 0, none⟩) (List.length (u64s [0])) :: cel b2 #[.int .i64 0, .int .u64 0, .int .i64 0, .bool false, .int .i64 0, .int .i64 0, .int .i64 0, .int .i64 0, .int .i64 0, .int .i64 0, .int .i64 0, .slice none 0 0, .slice none 0 0, .slice none 0 0, .slice none 0 0] 53 :: cel b1 #[.int .i64 1, .int .u64 0, .int .u64 0, .int .i64 0, .int .i64 0, .int .i64 0, .int .i64 0, .int .i64 0, .bool false, .string ⟨#[]⟩, .slice none 0 0, .slice none 0 0, .slice none 0 0] 29 :: L) ⟨nm, c, x, m⟩ ((hS.sel 5 [3, 0, 2, 0, 0] rfl))
      replace hS : St g (Sto p s a V1 :: Arn a (A.ret 0) :: Sh 25 1 (u64s []) none 0 :: cel b4 #[.int .i64 0, .int .u64 V.T.newH, .int .i64 0, .bool false, .int .i64 0, .int .i64 0, .int .i64 0, .int .i64 0, .int .i64 0, .int .i64 0, .int .i64 0, .slice none 0 0, .slice none 0 0, .slice none 0 0, .slice none 0 0] 53 :: Own 25 1 (u64s [0]) (some ⟨b3, 0, none⟩) (List.length (u64s [0])) :: cel b2 #[.int .i64 0, .int .u64 0, .int .i64 0, .bool false, .int .i64 0, .int .i64 0, .int .i64 0, .int .i64 0, .int .i64 0, .int .i64 0, .int .i64 0, .slice none 0 0, .slice none 0 0, .slice none 0 0, .slice none 0 0] 53 :: cel b1 #[.int .i64 1, .int .u64 0, .int .u64 0, .int .i64 0, .int .i64 0, .int .i64 0, .int .i64 0, .int .i64 0, .bool false, .string ⟨#[]⟩, .slice none 0 0, .slice none 0 0, .slice none 0 0] 29 :: L) w := hS
      refine WL.r 1 rfl ?_
      refine WL.call rfl rfl (st_arena (p := p) (s := s) (a := a) (V := V1)  (hS := hS)) rfl ?_
      clear hS; rintro _ w ⟨rfl, hS⟩
      replace hS : St g (Sto p s a V1 :: Arn a (A.ret 0) :: Sh 25 1 (u64s []) none 0 :: cel b4 #[.int .i64 0, .int .u64 V.T.newH, .int .i64 0, .bool false, .int .i64 0, .int .i64 0, .int .i64 0, .int .i64 0, .int .i64 0, .int .i64 0, .int .i64 0, .slice none 0 0, .slice none 0 0, .slice none 0 0, .slice none 0 0] 53 :: Own 25 1 (u64s [0]) (some ⟨b3, 0, none⟩) (List.length (u64s [0])) :: cel b2 #[.int .i64 0, .int .u64 0, .int .i64 0, .bool false, .int .i64 0, .int .i64 0, .int .i64 0, .int .i64 0, .int .i64 0, .int .i64 0, .int .i64 0, .slice none 0 0, .slice none 0 0, .slice none 0 0, .slice none 0 0] 53 :: cel b1 #[.int .i64 1, .int .u64 0, .int .u64 0, .int .i64 0, .int .i64 0, .int .i64 0, .int .i64 0, .int .i64 0, .bool false, .string ⟨#[]⟩, .slice none 0 0, .slice none 0 0, .slice none 0 0] 29 :: L) w := hS
      refine WL.r 1 rfl ?_
      refine WL.call rfl rfl (ar_release0 (a := a) (A := A.ret 0)  (hS := (hS.sel 2 [1, 0] rfl))) rfl ?_
      clear hS; rintro _ w ⟨rfl, hS⟩
      replace hS : St g (Arn a (A.ret 0) :: Sto p s a V1 :: Sh 25 1 (u64s []) none 0 :: cel b4 #[.int .i64 0, .int .u64 V.T.newH, .int .i64 0, .bool false, .int .i64 0, .int .i64 0, .int .i64 0, .int .i64 0, .int .i64 0, .int .i64 0, .int .i64 0, .slice none 0 0, .slice none 0 0, .slice none 0 0, .slice none 0 0] 53 :: Own 25 1 (u64s [0]) (some ⟨b3, 0, none⟩) (List.length (u64s [0])) :: cel b2 #[.int .i64 0, .int .u64 0, .int .i64 0, .bool false, .int .i64 0, .int .i64 0, .int .i64 0, .int .i64 0, .int .i64 0, .int .i64 0, .int .i64 0, .slice none 0 0, .slice none 0 0, .slice none 0 0, .slice none 0 0] 53 :: cel b1 #[.int .i64 1, .int .u64 0, .int .u64 0, .int .i64 0, .int .i64 0, .int .i64 0, .int .i64 0, .int .i64 0, .bool false, .string ⟨#[]⟩, .slice none 0 0, .slice none 0 0, .slice none 0 0] 29 :: L) w := hS
      refine WL.nil ?_
      refine WC.seq ?_
      refine WC.region ?_
      refine WL.ldF rfl rfl 3 hS rfl rfl ag_53 ?_
      refine WL.stF rfl rfl rfl 5 hS rfl rfl rfl rfl rfl ag_53 (fun w hS => ?_)
      replace hS : St g (Arn a (A.ret 0) :: Sto p s a V1 :: Sh 25 1 (u64s []) none 0 :: cel b4 #[.int .i64 0, .int .u64 V.T.newH, .int .i64 0, .bool false, .int .i64 0, .int .i64 0, .int .i64 0, .int .i64 0, .int .i64 0, .int .i64 0, .int .i64 0, .slice none 0 0, .slice none 0 0, .slice none 0 0, .slice none 0 0] 53 :: Own 25 1 (u64s [0]) (some ⟨b3, 0, none⟩) (List.length (u64s [0])) :: cel b2 #[.int .i64 0, .int .u64 V.T.newH, .int .i64 0, .bool false, .int .i64 0, .int .i64 0, .int .i64 0, .int .i64 0, .int .i64 0, .int .i64 0, .int .i64 0, .slice none 0 0, .slice none 0 0, .slice none 0 0, .slice none 0 0] 53 :: cel b1 #[.int .i64 1, .int .u64 0, .int .u64 0, .int .i64 0, .int .i64 0, .int .i64 0, .int .i64 0, .int .i64 0, .bool false, .string ⟨#[]⟩, .slice none 0 0, .slice none 0 0, .slice none 0 0] 29 :: L) w := hS
      refine WL.nil ?_
      refine WC.ret ?_
      refine ⟨[.agg #[.int .i64 0, .int .u64 V.T.newH, .int .i64 0, .bool false, .int .i64 0, .int .i64 0, .int .i64 0, .int .i64 0, .int .i64 0, .int .i64 0, .int .i64 0, .slice none 0 0, .slice none 0 0, .slice none 0 0, .slice none 0 0]], ⟨⟨_, rfl, hS.lvF 5 rfl ag_53⟩, trivial⟩, ?_⟩
      replace hS := (hS.sel 7 [1, 0] rfl)
      exact ⟨_, rfl, hS, f1, f2⟩
set_option maxRecDepth 8192 in
theorem do_1 {g w : World} {L : List HP} (p s a : Nat) (V : VM) (A : AM) (R : List Int) (hV : VI V A R) (hrm : 0 < V.room) (hla : V.last < 1000000000) (hlen : R.length ≤ 900000000) (hS : St g (Sto p s a V :: Arn a A :: L) w) :
    Sp Tryz.prog 20 [.pointer (some ⟨p, 0, none⟩), .agg #[.int .i64 1, .int .u64 0, .int .u64 0, .int .i64 0, .int .i64 0, .int .i64 0, .int .i64 0, .int .i64 0, .bool false, .string ⟨#[]⟩, .slice none 0 0, .slice none 0 0, .slice none 0 0]] w (fun v w' => ∃ (V2 : VM), v = .agg #[.int .i64 0, .int .u64 V.T.newH, .int .i64 0, .bool false, .int .i64 0, .int .i64 0, .int .i64 0, .int .i64 0, .int .i64 0, .int .i64 0, .int .i64 0, .slice none 0 0, .slice none 0 0, .slice none 0 0, .slice none 0 0] ∧ St g (Sto p s a V2 :: Arn a A :: L) w' ∧ (VI V2 A R) ∧ (Com V 0 [] V2)) := by
  refine Sp.enter Tryz.func20 rfl (by kernel_rfl) (by kernel_rfl) ?_
  refine WC.seq ?_
  refine WC.region ?_
  refine WL.box rfl rfl #[.int .i64 1, .int .u64 0, .int .u64 0, .int .i64 0, .int .i64 0, .int .i64 0, .int .i64 0, .int .i64 0, .bool false, .string ⟨#[]⟩, .slice none 0 0, .slice none 0 0, .slice none 0 0] hS rfl rfl (fun b1 w hS => ?_)
  refine WL.new rfl rfl zv_53 hS (fun b2 w hS => ?_)
  refine WL.nil ?_
  refine WC.seq ?_
  refine WC.seq ?_
  refine WC.region ?_
  refine WL.ldF rfl rfl 1 hS rfl rfl ag_29 ?_
  refine WL.call rfl rfl (valid_1   (hS := hS)) rfl ?_
  clear hS; rintro _ w ⟨rfl, hS⟩
  replace hS : St g (cel b2 #[.int .i64 0, .int .u64 0, .int .i64 0, .bool false, .int .i64 0, .int .i64 0, .int .i64 0, .int .i64 0, .int .i64 0, .int .i64 0, .int .i64 0, .slice none 0 0, .slice none 0 0, .slice none 0 0, .slice none 0 0] 53 :: cel b1 #[.int .i64 1, .int .u64 0, .int .u64 0, .int .i64 0, .int .i64 0, .int .i64 0, .int .i64 0, .int .i64 0, .bool false, .string ⟨#[]⟩, .slice none 0 0, .slice none 0 0, .slice none 0 0] 29 :: Sto p s a V :: Arn a A :: L) w := hS
  refine WL.r 2 rfl ?_
  refine WL.ung rfl rfl rfl ?_
  refine WL.ldF rfl rfl 1 hS rfl rfl ag_29 ?_
  refine WL.ung rfl rfl rfl ?_
  refine WL.call rfl rfl (snd_1   (hS := hS)) rfl ?_
  clear hS; rintro _ w ⟨rfl, hS⟩
  replace hS : St g (cel b2 #[.int .i64 0, .int .u64 0, .int .i64 0, .bool false, .int .i64 0, .int .i64 0, .int .i64 0, .int .i64 0, .int .i64 0, .int .i64 0, .int .i64 0, .slice none 0 0, .slice none 0 0, .slice none 0 0, .slice none 0 0] 53 :: cel b1 #[.int .i64 1, .int .u64 0, .int .u64 0, .int .i64 0, .int .i64 0, .int .i64 0, .int .i64 0, .int .i64 0, .bool false, .string ⟨#[]⟩, .slice none 0 0, .slice none 0 0, .slice none 0 0] 29 :: Sto p s a V :: Arn a A :: L) w := hS
  refine WL.ung rfl rfl rfl ?_
  refine WL.r 2 rfl ?_
  refine WL.nil ?_
  refine WC.ifF rfl rfl ?_
  refine WC.skip ?_
  as_aux_lemma =>
    refine WC.seq ?_
    refine WC.seq ?_
    refine WC.region ?_
    refine WL.r 1 rfl ?_
    refine WL.ldF rfl rfl 1 hS rfl rfl ag_29 ?_
    refine WL.call rfl rfl (open_1 (p := p)  (hS := hS)) rfl ?_
    clear hS; rintro _ w ⟨rfl, hS⟩
    replace hS : St g (cel b2 #[.int .i64 0, .int .u64 0, .int .i64 0, .bool false, .int .i64 0, .int .i64 0, .int .i64 0, .int .i64 0, .int .i64 0, .int .i64 0, .int .i64 0, .slice none 0 0, .slice none 0 0, .slice none 0 0, .slice none 0 0] 53 :: cel b1 #[.int .i64 1, .int .u64 0, .int .u64 0, .int .i64 0, .int .i64 0, .int .i64 0, .int .i64 0, .int .i64 0, .bool false, .string ⟨#[]⟩, .slice none 0 0, .slice none 0 0, .slice none 0 0] 29 :: Sto p s a V :: Arn a A :: L) w := hS
    refine WL.r 1 rfl ?_
    refine WL.nil ?_
    refine WC.seq ?_
    refine WC.region ?_
    refine WL.r 2 rfl ?_
    refine WL.nil ?_
    refine WC.ifF rfl (decide_eq_false ((by decide))) ?_
    refine WC.skip ?_
    refine WC.seq ?_
    refine WC.seq ?_
    refine WC.region ?_
    refine WL.run 2 [.int .i64 1] rfl (by exact hS.ld 1 rfl rfl) ?_
    refine WL.call rfl rfl (creates_1   (hS := hS)) rfl ?_
    clear hS; rintro _ w ⟨rfl, hS⟩
    replace hS : St g (cel b2 #[.int .i64 0, .int .u64 0, .int .i64 0, .bool false, .int .i64 0, .int .i64 0, .int .i64 0, .int .i64 0, .int .i64 0, .int .i64 0, .int .i64 0, .slice none 0 0, .slice none 0 0, .slice none 0 0, .slice none 0 0] 53 :: cel b1 #[.int .i64 1, .int .u64 0, .int .u64 0, .int .i64 0, .int .i64 0, .int .i64 0, .int .i64 0, .int .i64 0, .bool false, .string ⟨#[]⟩, .slice none 0 0, .slice none 0 0, .slice none 0 0] 29 :: Sto p s a V :: Arn a A :: L) w := hS
    refine WL.nil ?_
    refine WC.ifT rfl rfl ?_
    refine WC.seq ?_
    refine WC.seq ?_
    refine WC.region ?_
    obtain ⟨⟨nm, c, x, m⟩, hS⟩ := St.exOpen (f := stoF p s a V) (hS.at_ 2 rfl)
    replace hS : St g (cel p #[.pointer (some ⟨s, 0, none⟩), .pointer (some ⟨nm, 0, none⟩), .pointer (some ⟨c, 0, none⟩), .pointer (some ⟨x, 0, none⟩), .map (some m)] 102 :: Vst s a V :: blk m (.map (mE []) 0) :: cel b2 #[.int .i64 0, .int .u64 0, .int .i64 0, .bool false, .int .i64 0, .int .i64 0, .int .i64 0, .int .i64 0, .int .i64 0, .int .i64 0, .int .i64 0, .slice none 0 0, .slice none 0 0, .slice none 0 0, .slice none 0 0] 53 :: cel b1 #[.int .i64 1, .int .u64 0, .int .u64 0, .int .i64 0, .int .i64 0, .int .i64 0, .int .i64 0, .int .i64 0, .bool false, .string ⟨#[]⟩, .slice none 0 0, .slice none 0 0, .slice none 0 0] 29 :: Arn a A :: L) w := hS
    obtain ⟨ss, hK⟩ := keys_ex hV.g.ok.uniq
    refine WL.run 4 [.pointer (some ⟨s, 0, none⟩)] rfl (by exact hS.ld 0 rfl rfl) ?_
    refine WL.call rfl rfl (vs_room (s := s) (a := a) (V := V) (ss := ss) (hT := hV.t) (hG := hV.g) (hp := hK.perm) (hs := hK.le) (hS := (hS.sel 2 [1, 0] rfl))) rfl ?_
    clear hS; rintro _ w ⟨rfl, hS⟩
    replace hS : St g (Vst s a V :: cel p #[.pointer (some ⟨s, 0, none⟩), .pointer (some ⟨nm, 0, none⟩), .pointer (some ⟨c, 0, none⟩), .pointer (some ⟨x, 0, none⟩), .map (some m)] 102 :: blk m (.map (mE []) 0) :: cel b2 #[.int .i64 0, .int .u64 0, .int .i64 0, .bool false, .int .i64 0, .int .i64 0, .int .i64 0, .int .i64 0, .int .i64 0, .int .i64 0, .int .i64 0, .slice none 0 0, .slice none 0 0, .slice none 0 0, .slice none 0 0] 53 :: cel b1 #[.int .i64 1, .int .u64 0, .int .u64 0, .int .i64 0, .int .i64 0, .int .i64 0, .int .i64 0, .int .i64 0, .bool false, .string ⟨#[]⟩, .slice none 0 0, .slice none 0 0, .slice none 0 0] 29 :: Arn a A :: L) w := hS
    refine WL.r 1 rfl ?_
    refine WL.nil ?_
    as_aux_lemma =>
      refine WC.ifF rfl (decide_eq_false ((by omega))) ?_
      refine WC.skip ?_
      refine WC.seq ?_
      refine WC.region ?_
      replace hS := St.exClose (f := stoF p s a V) (L := cel b2 #[.int .i64 0, .int .u64 0, .int .i64 0, .bool false, .int .i64 0, .int .i64 0, .int .i64 0, .int .i64 0, .int .i64 0, .int .i64 0, .int .i64 0, .slice none 0 0, .slice none 0 0, .slice none 0 0, .slice none 0 0] 53 :: cel b1 #[.int .i64 1, .int .u64 0, .int .u64 0, .int .i64 0, .int .i64 0, .int .i64 0, .int .i64 0, .int .i64 0, .bool false, .string ⟨#[]⟩, .slice none 0 0, .slice none 0 0, .slice none 0 0] 29 :: Arn a A :: L) ⟨nm, c, x, m⟩ ((hS.sel 2 [1, 0] rfl))
      replace hS : St g (Sto p s a V :: cel b2 #[.int .i64 0, .int .u64 0, .int .i64 0, .bool false, .int .i64 0, .int .i64 0, .int .i64 0, .int .i64 0, .int .i64 0, .int .i64 0, .int .i64 0, .slice none 0 0, .slice none 0 0, .slice none 0 0, .slice none 0 0] 53 :: cel b1 #[.int .i64 1, .int .u64 0, .int .u64 0, .int .i64 0, .int .i64 0, .int .i64 0, .int .i64 0, .int .i64 0, .bool false, .string ⟨#[]⟩, .slice none 0 0, .slice none 0 0, .slice none 0 0] 29 :: Arn a A :: L) w := hS
      refine WL.r 1 rfl ?_
      refine WL.ldF rfl rfl 2 hS rfl rfl ag_29 ?_
      refine WL.call rfl rfl (create_1 (p := p) (s := s) (a := a) (V := V) (A := A) (R := R) (hV := hV) (hrm := hrm) (hla := hla) (hlen := hlen) (hS := (hS.sel 4 [0, 2, 0, 0] rfl))) rfl ?_
      clear hS; rintro _ w ⟨V1, rfl, hS, f1, f2⟩
      replace hS : St g (Sto p s a V1 :: Arn a A :: cel b2 #[.int .i64 0, .int .u64 0, .int .i64 0, .bool false, .int .i64 0, .int .i64 0, .int .i64 0, .int .i64 0, .int .i64 0, .int .i64 0, .int .i64 0, .slice none 0 0, .slice none 0 0, .slice none 0 0, .slice none 0 0] 53 :: cel b1 #[.int .i64 1, .int .u64 0, .int .u64 0, .int .i64 0, .int .i64 0, .int .i64 0, .int .i64 0, .int .i64 0, .bool false, .string ⟨#[]⟩, .slice none 0 0, .slice none 0 0, .slice none 0 0] 29 :: L) w := hS
      refine WL.stF rfl rfl rfl 2 hS rfl rfl rfl rfl rfl ag_53 (fun w hS => ?_)
      replace hS : St g (Sto p s a V1 :: Arn a A :: cel b2 #[.int .i64 0, .int .u64 V.T.newH, .int .i64 0, .bool false, .int .i64 0, .int .i64 0, .int .i64 0, .int .i64 0, .int .i64 0, .int .i64 0, .int .i64 0, .slice none 0 0, .slice none 0 0, .slice none 0 0, .slice none 0 0] 53 :: cel b1 #[.int .i64 1, .int .u64 0, .int .u64 0, .int .i64 0, .int .i64 0, .int .i64 0, .int .i64 0, .int .i64 0, .bool false, .string ⟨#[]⟩, .slice none 0 0, .slice none 0 0, .slice none 0 0] 29 :: L) w := hS
      refine WL.nil ?_
      refine WC.ret ?_
      refine ⟨[.agg #[.int .i64 0, .int .u64 V.T.newH, .int .i64 0, .bool false, .int .i64 0, .int .i64 0, .int .i64 0, .int .i64 0, .int .i64 0, .int .i64 0, .int .i64 0, .slice none 0 0, .slice none 0 0, .slice none 0 0, .slice none 0 0]], ⟨⟨_, rfl, hS.lvF 2 rfl ag_53⟩, trivial⟩, ?_⟩
      replace hS := (hS.sel 4 [0, 0] rfl)
      exact ⟨_, rfl, hS, f1, f2⟩
end Go.Proofs.YthcmigbamkohpaaGreatDoor
/-! ## Rd -/
namespace Go.Proofs.YthcmigbamkohpaaGreatDoor
open Go Go.V
set_option maxRecDepth 8192 in
theorem fail_spec {g w : World} {L : List HP} (r n c : Nat) (a : Option Addr) (p e e2 : Int) (hS : St g (cel r #[.slice a n c, .int .i64 p, .int .i64 e] 64 :: L) w) :
    Sp Tryz.prog 17 [.pointer (some ⟨r, 0, none⟩), .int .i64 e2] w (fun v w' => v = .tuple #[] ∧ St g (cel r #[.slice a n c, .int .i64 p, .int .i64 (fl e e2)] 64 :: L) w') := by
  refine Sp.enter Tryz.func17 rfl (by kernel_rfl) (by kernel_rfl) ?_
  refine WC.seq ?_
  refine WC.region ?_
  refine WL.run 5 [.int .i64 e] rfl (by exact hS.ld 0 rfl rfl) ?_
  refine WL.nil ?_
  refine WC.ifP rfl (fun cd1 => ?_) (fun cd1 => ?_)
  · refine WC.region ?_
    refine WL.r 4 rfl ?_
    refine WL.st rfl rfl rfl 0 hS rfl rfl rfl rfl rfl rfl (fun w hS => ?_)
    replace hS : St g (cel r #[.slice a n c, .int .i64 p, .int .i64 e2] 64 :: L) w := hS
    refine WL.nil ?_
    refine ⟨[], trivial, ?_⟩
    rw [fl, if_pos cd1]; exact ⟨rfl, hS⟩
  · refine WC.skip ?_
    refine ⟨[], trivial, ?_⟩
    rw [fl, if_neg cd1]; exact ⟨rfl, hS⟩
set_option maxRecDepth 8192 in
theorem left_spec {g w : World} {L : List HP} (r n c : Nat) (a : Option Addr) (p : Nat) (e : Int) (h1 : p ≤ n) (h2 : n ≤ 1000000000) (hS : St g (cel r #[.slice a n c, .int .i64 (p : Int), .int .i64 e] 64 :: L) w) :
    Sp Tryz.prog 30 [.pointer (some ⟨r, 0, none⟩)] w (fun v w' => v = .int .i64 ((n : Int) - (p : Int)) ∧ St g (cel r #[.slice a n c, .int .i64 (p : Int), .int .i64 e] 64 :: L) w') := by
  refine Sp.enter Tryz.func30 rfl (by kernel_rfl) (by kernel_rfl) ?_
  have _ := h2
  have _ := h1
  refine WC.seq ?_
  refine WC.region ?_
  refine WL.r 1 rfl ?_
  refine WL.nil ?_
  refine WC.seq ?_
  refine WC.plan [([0, 5, 1, 6, 2, 7, 3, 8, 4, 9, 10], none)] (by kernel_rfl) (by kernel_rfl) ?_
  refine WQ.run 10 [.slice a n c, .int .i64 (p : Int)] rfl (by exact ⟨hS.ld 0 rfl rfl, hS.ld 0 rfl rfl⟩) ?_
  refine WQ.nw 12 rfl (w64 (by omega)) ?_
  refine WQ.r 1 rfl ?_
  refine WQ.nil ?_
  intro m1
  replace hS := hS.drewN m1; generalize hwm1 : World.drewN _ _ = w at *; clear hwm1
  refine WC.ret ?_
  refine ⟨[.int .i64 ((n : Int) - (p : Int))], rfl, ?_⟩
  exact ⟨rfl, hS⟩
set_option maxRecDepth 8192 in
theorem byte_spec {g w : World} {L : List HP} (r c : Nat) (a : Option Addr) (bs : List Int) (p : Nat) (e : Int) (hp : p ≤ bs.length) (hl : bs.length ≤ 1000000000) (hb : B8 bs) (hS : St g (cel r #[.slice a (List.length (by8 bs)) c, .int .i64 (p : Int), .int .i64 e] 64 :: Sh 5 1 (by8 bs) a c :: L) w) :
    Sp Tryz.prog 16 [.pointer (some ⟨r, 0, none⟩)] w (fun v w' => v = .int .u8 (rB bs p e).1 ∧ St g (cel r #[.slice a (List.length (by8 bs)) c, .int .i64 ((rB bs p e).2.1 : Int), .int .i64 (rB bs p e).2.2] 64 :: Sh 5 1 (by8 bs) a c :: L) w') := by
  refine Sp.enter Tryz.func16 rfl (by kernel_rfl) (by kernel_rfl) ?_
  have _ := hb
  have _ := hl
  have _ := hp
  refine WC.seq ?_
  refine WC.region ?_
  have hl8 := by8_len bs
  refine WL.r 1 rfl ?_
  refine WL.nil ?_
  refine WC.seq ?_
  refine WC.seq ?_
  refine WC.region ?_
  refine WL.run 5 [.int .i64 e] rfl (by exact hS.ld 0 rfl rfl) ?_
  refine WL.nil ?_
  refine WC.ifP rfl (fun cd1 => ?_) (fun cd1 => ?_)
  · refine WC.seq ?_
    refine WC.region ?_
    refine WL.r 1 rfl ?_
    refine WL.nil ?_
    refine WC.ret ?_
    refine ⟨[.int .u8 0], rfl, ?_⟩
    rw [rB, if_pos cd1]; exact ⟨rfl, hS⟩
  · refine WC.skip ?_
    refine WC.seq ?_
    refine WC.seq ?_
    refine WC.region ?_
    refine WL.r 1 rfl ?_
    refine WL.call rfl rfl (left_spec (r := r) (n := List.length (by8 bs)) (c := c) (a := a) (p := p) (e := e) (h1 := (by simp only [by8_len]; assumption)) (h2 := (by simp only [by8_len]; assumption)) (hS := hS)) rfl ?_
    clear hS; rintro _ w ⟨rfl, hS⟩
    replace hS : St g (cel r #[.slice a (List.length (by8 bs)) c, .int .i64 (p : Int), .int .i64 e] 64 :: Sh 5 1 (by8 bs) a c :: L) w := hS
    refine WL.r 1 rfl ?_
    refine WL.nil ?_
    refine WC.ifP rfl (fun cd2 => ?_) (fun cd2 => ?_)
    · refine WC.seq ?_
      refine WC.region ?_
      refine WL.r 1 rfl ?_
      refine WL.call rfl rfl (fail_spec (r := r) (n := List.length (by8 bs)) (c := c) (a := a) (p := (p : Int)) (e := e) (e2 := 12)  (hS := hS)) rfl ?_
      clear hS; rintro _ w ⟨rfl, hS⟩
      replace hS : St g (cel r #[.slice a (List.length (by8 bs)) c, .int .i64 (p : Int), .int .i64 (fl e 12)] 64 :: Sh 5 1 (by8 bs) a c :: L) w := hS
      refine WL.nil ?_
      as_aux_lemma =>
        refine WC.seq ?_
        refine WC.region ?_
        refine WL.r 1 rfl ?_
        refine WL.nil ?_
        refine WC.ret ?_
        refine ⟨[.int .u8 0], rfl, ?_⟩
        rw [rB, if_neg cd1, show bs[p]? = none from List.getElem?_eq_none (by omega)]; rw [fl, if_pos (Classical.not_not.1 cd1)] at hS; exact ⟨rfl, hS⟩
    · refine WC.skip ?_
      refine WC.seq ?_
      refine WC.region ?_
      refine WL.run 5 [.int .i64 (p : Int)] rfl (by exact hS.ld 0 rfl rfl) ?_
      refine WL.nw 17 rfl (w64 (by omega)) ?_
      refine WL.r 2 rfl ?_
      refine WL.st rfl rfl rfl 0 hS rfl rfl rfl rfl rfl rfl (fun w hS => ?_)
      replace hS : St g (cel r #[.slice a (List.length (by8 bs)) c, .int .i64 ((p : Int) + 1), .int .i64 e] 64 :: Sh 5 1 (by8 bs) a c :: L) w := hS
      refine WL.nil ?_
      as_aux_lemma =>
        refine WC.seq ?_
        refine WC.plan [([0, 4, 1, 5, 2, 6, 3, 7, 8], some (9, [])), ([10, 11], none)] (by kernel_rfl) (by kernel_rfl) ?_
        refine WQ.run 9 [.slice a (List.length (by8 bs)) c, .int .i64 ((p : Int) + 1)] rfl (by exact ⟨hS.ld 0 rfl rfl, hS.ld 0 rfl rfl⟩) ?_
        refine WQ.nw 28 rfl (w64 (by omega)) ?_
        refine WQ.nil ?_
        intro m1
        replace hS := hS.drewN m1; generalize hwm1 : World.drewN _ _ = w at *; clear hwm1
        obtain ⟨x, hx⟩ : ∃ x, bs[p]? = some x := ⟨_, List.getElem?_eq_getElem (by omega)⟩
        refine WL.ix rfl rfl (i := ((p : Int) + 1) - 1) (p) el_24 rfl rfl (by omega) (len_of (by8_at hx)) (hS.rdS 1 rfl (by8_at hx)).1 ?_
        refine WL.nil ?_
        refine ⟨by exact trivial, ?_⟩
        refine WQ.run 2 [.int .u8 x] rfl (by exact (hS.rdS 1 rfl (by8_at hx)).2 0 _ rfl) ?_
        refine WQ.nil ?_
        intro m2
        replace hS := hS.drewN m2; generalize hwm2 : World.drewN _ _ = w at *; clear hwm2
        refine WC.ret ?_
        refine ⟨[.int .u8 x], rfl, ?_⟩
        rw [rB, if_neg cd1, hx]; rw [Classical.not_not.1 cd1] at hS; exact ⟨rfl, hS⟩
set_option maxRecDepth 8192 in
theorem varint_spec {g w : World} {L : List HP} (r c : Nat) (a : Option Addr) (bs : List Int) (p : Nat) (e : Int) (hp : p ≤ bs.length) (hl : bs.length ≤ 1000000000) (hb : B8 bs) (hS : St g (cel r #[.slice a (List.length (by8 bs)) c, .int .i64 (p : Int), .int .i64 e] 64 :: Sh 5 1 (by8 bs) a c :: L) w) :
    Sp Tryz.prog 31 [.pointer (some ⟨r, 0, none⟩)] w (fun v w' => v = .int .u64 (rU bs p e).1 ∧ St g (cel r #[.slice a (List.length (by8 bs)) c, .int .i64 ((rU bs p e).2.1 : Int), .int .i64 (rU bs p e).2.2] 64 :: Sh 5 1 (by8 bs) a c :: L) w') := by
  refine Sp.enter Tryz.func31 rfl (by kernel_rfl) (by kernel_rfl) ?_
  have _ := hb
  have _ := hl
  have _ := hp
  refine WC.seq ?_
  refine WC.region ?_
  refine WL.r 1 rfl ?_
  refine WL.nil ?_
  refine WC.seq ?_
  refine WC.seq ?_
  refine WC.region ?_
  have hl8 := by8_len bs
  refine WL.run 5 [.int .i64 e] rfl (by exact hS.ld 0 rfl rfl) ?_
  refine WL.nil ?_
  refine WC.ifP rfl (fun cd1 => ?_) (fun cd1 => ?_)
  · refine WC.seq ?_
    refine WC.region ?_
    refine WL.r 1 rfl ?_
    refine WL.nil ?_
    refine WC.ret ?_
    refine ⟨[.int .u64 0], rfl, ?_⟩
    rw [rU, if_pos cd1]; exact ⟨rfl, hS⟩
  · refine WC.skip ?_
    refine WC.seq ?_
    refine WC.plan [([0, 4, 1, 5, 2, 6, 3, 7], some (8, [])), ([9, 10, 11, 12, 13, 14, 15], none)] (by kernel_rfl) (by kernel_rfl) ?_
    refine WQ.run 8 [.slice a (List.length (by8 bs)) c, .int .i64 (p : Int)] rfl (by exact ⟨hS.ld 0 rfl rfl, hS.ld 0 rfl rfl⟩) ?_
    refine WQ.nil ?_
    intro m1
    replace hS := hS.drewN m1; generalize hwm1 : World.drewN _ _ = w at *; clear hwm1
    refine WL.call rfl rfl (uvarint (bs := bs) (a := a) (c := c) (p := p) (hp := (by omega)) (hl := (by omega)) (hb := (by omega)) (hS := (hS.sel 2 [1, 0] rfl))) rfl ?_
    clear hS; rintro _ w ⟨rfl, hS⟩
    replace hS : St g (Sh 5 1 (by8 bs) a c :: cel r #[.slice a (List.length (by8 bs)) c, .int .i64 (p : Int), .int .i64 e] 64 :: L) w := hS
    refine WL.nil ?_
    refine ⟨by exact trivial, ?_⟩
    refine WQ.r 7 rfl ?_
    refine WQ.nil ?_
    intro m2
    replace hS := hS.drewN m2; generalize hwm2 : World.drewN _ _ = w at *; clear hwm2
    as_aux_lemma =>
      refine WC.seq ?_
      refine WC.seq ?_
      refine WC.region ?_
      refine WL.r 2 rfl ?_
      refine WL.nil ?_
      refine WC.ifP rfl (fun cd2 => ?_) (fun cd2 => ?_)
      · refine WC.seq ?_
        refine WC.region ?_
        refine WL.r 2 rfl ?_
        refine WL.call rfl rfl (fail_spec (r := r) (n := List.length (by8 bs)) (c := c) (a := a) (p := (p : Int)) (e := e) (e2 := (uv (bs.drop p)).2.2)  (hS := (hS.sel 2 [1, 0] rfl))) rfl ?_
        clear hS; rintro _ w ⟨rfl, hS⟩
        replace hS : St g (cel r #[.slice a (List.length (by8 bs)) c, .int .i64 (p : Int), .int .i64 (fl e (uv (bs.drop p)).2.2)] 64 :: Sh 5 1 (by8 bs) a c :: L) w := hS
        refine WL.nil ?_
        refine WC.seq ?_
        refine WC.region ?_
        refine WL.r 1 rfl ?_
        refine WL.nil ?_
        refine WC.ret ?_
        refine ⟨[.int .u64 0], rfl, ?_⟩
        have h0 := Classical.not_not.1 cd1
        rw [rU, if_neg cd1, if_neg cd2]; rw [fl, if_pos h0] at hS; exact ⟨rfl, hS⟩
      · refine WC.skip ?_
        refine WC.seq ?_
        refine WC.region ?_
        refine WL.r 4 rfl ?_
        refine WL.st rfl rfl rfl 1 hS rfl rfl rfl rfl rfl rfl (fun w hS => ?_)
        replace hS : St g (Sh 5 1 (by8 bs) a c :: cel r #[.slice a (List.length (by8 bs)) c, .int .i64 (if (uv (bs.drop p)).2.2 = 0 then (p : Int) + (uv (bs.drop p)).2.1 else 0), .int .i64 e] 64 :: L) w := hS
        refine WL.nil ?_
        refine WC.seq ?_
        refine WC.region ?_
        refine WL.r 2 rfl ?_
        refine WL.nil ?_
        refine WC.ret ?_
        refine ⟨[.int .u64 (uv (bs.drop p)).1], rfl, ?_⟩
        replace hS := (hS.sel 2 [1, 0] rfl)
        have h0 := Classical.not_not.1 cd1; have h1 := Classical.not_not.1 cd2
        rw [rU, if_neg cd1, if_pos h1]; rw [if_pos h1, h0] at hS; exact ⟨rfl, hS⟩
set_option maxRecDepth 8192 in
theorem signed_spec {g w : World} {L : List HP} (r c : Nat) (a : Option Addr) (bs : List Int) (p : Nat) (e : Int) (hp : p ≤ bs.length) (hl : bs.length ≤ 1000000000) (hb : B8 bs) (hS : St g (cel r #[.slice a (List.length (by8 bs)) c, .int .i64 (p : Int), .int .i64 e] 64 :: Sh 5 1 (by8 bs) a c :: L) w) :
    Sp Tryz.prog 32 [.pointer (some ⟨r, 0, none⟩)] w (fun v w' => v = .int .i64 (rZ bs p e).1 ∧ St g (cel r #[.slice a (List.length (by8 bs)) c, .int .i64 ((rZ bs p e).2.1 : Int), .int .i64 (rZ bs p e).2.2] 64 :: Sh 5 1 (by8 bs) a c :: L) w') := by
  refine Sp.enter Tryz.func32 rfl (by kernel_rfl) (by kernel_rfl) ?_
  have _ := hl
  have _ := hp
  refine WC.seq ?_
  refine WC.region ?_
  refine WL.r 1 rfl ?_
  refine WL.nil ?_
  refine WC.seq ?_
  refine WC.region ?_
  refine WL.r 1 rfl ?_
  refine WL.call rfl rfl (varint_spec (r := r) (c := c) (a := a) (bs := bs) (p := p) (e := e) (hp := (by assumption)) (hl := (by assumption)) (hb := (by assumption)) (hS := hS)) rfl ?_
  generalize hR1 : rU bs p e = R1
  clear hS; rintro _ w ⟨rfl, hS⟩
  have hR1f0 : R1.2.1 ≤ (List.length bs) := by rw [← hR1]; exact rU_le (by assumption)
  replace hS : St g (cel r #[.slice a (List.length (by8 bs)) c, .int .i64 (R1.2.1 : Int), .int .i64 R1.2.2] 64 :: Sh 5 1 (by8 bs) a c :: L) w := hS
  refine WL.call rfl rfl (unzigzag (u := R1.1) (hu := (by rw [← hR1]; exact rU_b hb)) (hS := hS)) rfl ?_
  clear hS; rintro _ w ⟨rfl, hS⟩
  replace hS : St g (cel r #[.slice a (List.length (by8 bs)) c, .int .i64 (R1.2.1 : Int), .int .i64 R1.2.2] 64 :: Sh 5 1 (by8 bs) a c :: L) w := hS
  refine WL.r 1 rfl ?_
  refine WL.nil ?_
  refine WC.ret ?_
  refine ⟨[.int .i64 (uz R1.1)], rfl, ?_⟩
  unfold rZ; rw [hR1]; exact ⟨rfl, hS⟩
set_option maxRecDepth 8192 in
theorem bool_spec {g w : World} {L : List HP} (r c : Nat) (a : Option Addr) (bs : List Int) (p : Nat) (e : Int) (hp : p ≤ bs.length) (hl : bs.length ≤ 1000000000) (hb : B8 bs) (hS : St g (cel r #[.slice a (List.length (by8 bs)) c, .int .i64 (p : Int), .int .i64 e] 64 :: Sh 5 1 (by8 bs) a c :: L) w) :
    Sp Tryz.prog 34 [.pointer (some ⟨r, 0, none⟩)] w (fun v w' => v = .bool (rBool bs p e).1 ∧ St g (cel r #[.slice a (List.length (by8 bs)) c, .int .i64 ((rBool bs p e).2.1 : Int), .int .i64 (rBool bs p e).2.2] 64 :: Sh 5 1 (by8 bs) a c :: L) w') := by
  refine Sp.enter Tryz.func34 rfl (by kernel_rfl) (by kernel_rfl) ?_
  have _ := hb
  have _ := hl
  have _ := hp
  refine WC.seq ?_
  refine WC.region ?_
  refine WL.r 1 rfl ?_
  refine WL.nil ?_
  refine WC.seq ?_
  refine WC.region ?_
  refine WL.r 1 rfl ?_
  refine WL.call rfl rfl (byte_spec (r := r) (c := c) (a := a) (bs := bs) (p := p) (e := e) (hp := (by assumption)) (hl := (by assumption)) (hb := (by assumption)) (hS := hS)) rfl ?_
  generalize hR1 : rB bs p e = R1
  clear hS; rintro _ w ⟨rfl, hS⟩
  have hR1f0 : R1.2.1 ≤ (List.length bs) := by rw [← hR1]; exact rB_le (by assumption)
  have hR1f1 : (0 ≤ R1.1) ∧ (R1.1 ≤ 255) := by rw [← hR1]; exact rB_b (by assumption)
  replace hS : St g (cel r #[.slice a (List.length (by8 bs)) c, .int .i64 (R1.2.1 : Int), .int .i64 R1.2.2] 64 :: Sh 5 1 (by8 bs) a c :: L) w := hS
  refine WL.r 1 rfl ?_
  refine WL.nil ?_
  refine WC.seq ?_
  refine WC.seq ?_
  refine WC.region ?_
  refine WL.r 2 rfl ?_
  refine WL.nil ?_
  refine WC.ifP rfl (fun cd1 => ?_) (fun cd1 => ?_)
  · refine WC.region ?_
    refine WL.r 1 rfl ?_
    refine WL.call rfl rfl (fail_spec (r := r) (n := List.length (by8 bs)) (c := c) (a := a) (p := (R1.2.1 : Int)) (e := R1.2.2) (e2 := 13)  (hS := hS)) rfl ?_
    clear hS; rintro _ w ⟨rfl, hS⟩
    replace hS : St g (cel r #[.slice a (List.length (by8 bs)) c, .int .i64 (R1.2.1 : Int), .int .i64 (fl R1.2.2 13)] 64 :: Sh 5 1 (by8 bs) a c :: L) w := hS
    refine WL.nil ?_
    as_aux_lemma =>
      refine WC.seq ?_
      refine WC.region ?_
      refine WL.r 3 rfl ?_
      refine WL.nil ?_
      refine WC.ret ?_
      refine ⟨[.bool (decide (R1.1 = 1))], rfl, ?_⟩
      subst hR1; unfold rBool; rw [if_pos cd1]; exact ⟨rfl, hS⟩
  · refine WC.skip ?_
    refine WC.seq ?_
    refine WC.region ?_
    refine WL.r 3 rfl ?_
    refine WL.nil ?_
    as_aux_lemma =>
      refine WC.ret ?_
      refine ⟨[.bool (decide (R1.1 = 1))], rfl, ?_⟩
      subst hR1; unfold rBool; rw [if_neg cd1]; exact ⟨rfl, hS⟩
set_option maxRecDepth 8192 in
theorem limited_spec {g w : World} {L : List HP} (r c : Nat) (a : Option Addr) (bs : List Int) (p : Nat) (e : Int) (lim : Int) (hp : p ≤ bs.length) (hl : bs.length ≤ 1000000000) (hb : B8 bs) (hlim : 0 ≤ lim ∧ lim ≤ 9223372036854775807) (hS : St g (cel r #[.slice a (List.length (by8 bs)) c, .int .i64 (p : Int), .int .i64 e] 64 :: Sh 5 1 (by8 bs) a c :: L) w) :
    Sp Tryz.prog 33 [.pointer (some ⟨r, 0, none⟩), .int .i64 lim] w (fun v w' => v = .int .i64 (rLim bs lim p e).1 ∧ St g (cel r #[.slice a (List.length (by8 bs)) c, .int .i64 ((rLim bs lim p e).2.1 : Int), .int .i64 (rLim bs lim p e).2.2] 64 :: Sh 5 1 (by8 bs) a c :: L) w') := by
  refine Sp.enter Tryz.func33 rfl (by kernel_rfl) (by kernel_rfl) ?_
  have _ := hlim
  have _ := hl
  have _ := hp
  refine WC.seq ?_
  refine WC.region ?_
  refine WL.r 1 rfl ?_
  refine WL.nil ?_
  refine WC.seq ?_
  refine WC.region ?_
  refine WL.r 1 rfl ?_
  refine WL.call rfl rfl (varint_spec (r := r) (c := c) (a := a) (bs := bs) (p := p) (e := e) (hp := (by assumption)) (hl := (by assumption)) (hb := (by assumption)) (hS := hS)) rfl ?_
  generalize hR1 : rU bs p e = R1
  clear hS; rintro _ w ⟨rfl, hS⟩
  have hR1f0 : R1.2.1 ≤ (List.length bs) := by rw [← hR1]; exact rU_le (by assumption)
  replace hS : St g (cel r #[.slice a (List.length (by8 bs)) c, .int .i64 (R1.2.1 : Int), .int .i64 R1.2.2] 64 :: Sh 5 1 (by8 bs) a c :: L) w := hS
  refine WL.r 1 rfl ?_
  refine WL.nil ?_
  refine WC.seq ?_
  refine WC.seq ?_
  refine WC.region ?_
  have hr := rU_b (p := p) (e := e) hb; rw [hR1] at hr
  refine WL.r 3 rfl ?_
  refine WL.nw 10 rfl (wu64 (by omega)) ?_
  refine WL.r 1 rfl ?_
  refine WL.nil ?_
  refine WC.ifP rfl (fun cd1 => ?_) (fun cd1 => ?_)
  · refine WC.seq ?_
    refine WC.region ?_
    refine WL.r 1 rfl ?_
    refine WL.call rfl rfl (fail_spec (r := r) (n := List.length (by8 bs)) (c := c) (a := a) (p := (R1.2.1 : Int)) (e := R1.2.2) (e2 := 13)  (hS := hS)) rfl ?_
    clear hS; rintro _ w ⟨rfl, hS⟩
    replace hS : St g (cel r #[.slice a (List.length (by8 bs)) c, .int .i64 (R1.2.1 : Int), .int .i64 (fl R1.2.2 13)] 64 :: Sh 5 1 (by8 bs) a c :: L) w := hS
    refine WL.nil ?_
    as_aux_lemma =>
      refine WC.seq ?_
      refine WC.region ?_
      refine WL.r 1 rfl ?_
      refine WL.nil ?_
      refine WC.ret ?_
      refine ⟨[.int .i64 0], rfl, ?_⟩
      subst hR1; unfold rLim; rw [if_pos cd1]; exact ⟨rfl, hS⟩
  · refine WC.skip ?_
    as_aux_lemma =>
      refine WC.seq ?_
      refine WC.region ?_
      refine WL.r 2 rfl ?_
      refine WL.nw 15 rfl (w64 (by omega)) ?_
      refine WL.r 1 rfl ?_
      refine WL.nil ?_
      refine WC.ret ?_
      refine ⟨[.int .i64 R1.1], rfl, ?_⟩
      subst hR1; unfold rLim; rw [if_neg cd1]; exact ⟨rfl, hS⟩
set_option maxRecDepth 8192 in
theorem counted_spec {g w : World} {L : List HP} (r c : Nat) (a : Option Addr) (bs : List Int) (p : Nat) (e : Int) (hp : p ≤ bs.length) (hl : bs.length ≤ 1000000000) (hb : B8 bs) (hS : St g (cel r #[.slice a (List.length (by8 bs)) c, .int .i64 (p : Int), .int .i64 e] 64 :: Sh 5 1 (by8 bs) a c :: L) w) :
    Sp Tryz.prog 56 [.pointer (some ⟨r, 0, none⟩)] w (fun v w' => v = .int .i64 (rCnt bs p e).1 ∧ St g (cel r #[.slice a (List.length (by8 bs)) c, .int .i64 ((rCnt bs p e).2.1 : Int), .int .i64 (rCnt bs p e).2.2] 64 :: Sh 5 1 (by8 bs) a c :: L) w') := by
  refine Sp.enter Tryz.func56 rfl (by kernel_rfl) (by kernel_rfl) ?_
  have _ := hl
  have _ := hp
  refine WC.seq ?_
  refine WC.region ?_
  refine WL.r 1 rfl ?_
  refine WL.nil ?_
  refine WC.seq ?_
  refine WC.region ?_
  refine WL.r 1 rfl ?_
  refine WL.call rfl rfl (varint_spec (r := r) (c := c) (a := a) (bs := bs) (p := p) (e := e) (hp := (by assumption)) (hl := (by assumption)) (hb := (by assumption)) (hS := hS)) rfl ?_
  generalize hR1 : rU bs p e = R1
  clear hS; rintro _ w ⟨rfl, hS⟩
  have hR1f0 : R1.2.1 ≤ (List.length bs) := by rw [← hR1]; exact rU_le (by assumption)
  replace hS : St g (cel r #[.slice a (List.length (by8 bs)) c, .int .i64 (R1.2.1 : Int), .int .i64 R1.2.2] 64 :: Sh 5 1 (by8 bs) a c :: L) w := hS
  refine WL.r 1 rfl ?_
  refine WL.nil ?_
  refine WC.seq ?_
  refine WC.seq ?_
  refine WC.region ?_
  have hr := rU_b (p := p) (e := e) hb; rw [hR1] at hr; have hl8 := by8_len bs
  refine WL.r 2 rfl ?_
  refine WL.call rfl rfl (left_spec (r := r) (n := List.length (by8 bs)) (c := c) (a := a) (p := R1.2.1) (e := R1.2.2) (h1 := (by simp only [by8_len]; assumption)) (h2 := (by simp only [by8_len]; assumption)) (hS := hS)) rfl ?_
  clear hS; rintro _ w ⟨rfl, hS⟩
  replace hS : St g (cel r #[.slice a (List.length (by8 bs)) c, .int .i64 (R1.2.1 : Int), .int .i64 R1.2.2] 64 :: Sh 5 1 (by8 bs) a c :: L) w := hS
  refine WL.r 1 rfl ?_
  refine WL.nw 9 rfl (wu64 (by omega)) ?_
  refine WL.r 1 rfl ?_
  refine WL.nil ?_
  as_aux_lemma =>
    refine WC.ifP rfl (fun cd1 => ?_) (fun cd1 => ?_)
    · refine WC.seq ?_
      refine WC.region ?_
      refine WL.r 1 rfl ?_
      refine WL.call rfl rfl (fail_spec (r := r) (n := List.length (by8 bs)) (c := c) (a := a) (p := (R1.2.1 : Int)) (e := R1.2.2) (e2 := 12)  (hS := hS)) rfl ?_
      clear hS; rintro _ w ⟨rfl, hS⟩
      replace hS : St g (cel r #[.slice a (List.length (by8 bs)) c, .int .i64 (R1.2.1 : Int), .int .i64 (fl R1.2.2 12)] 64 :: Sh 5 1 (by8 bs) a c :: L) w := hS
      refine WL.nil ?_
      refine WC.seq ?_
      refine WC.region ?_
      refine WL.r 1 rfl ?_
      refine WL.nil ?_
      refine WC.ret ?_
      refine ⟨[.int .i64 0], rfl, ?_⟩
      subst hR1; rw [by8_len] at cd1; unfold rCnt rLeft; rw [if_pos cd1]; exact ⟨rfl, hS⟩
    · refine WC.skip ?_
      refine WC.seq ?_
      refine WC.region ?_
      refine WL.r 2 rfl ?_
      refine WL.nw 14 rfl (w64 (by omega)) ?_
      refine WL.r 1 rfl ?_
      refine WL.nil ?_
      refine WC.ret ?_
      refine ⟨[.int .i64 R1.1], rfl, ?_⟩
      subst hR1; rw [by8_len] at cd1; unfold rCnt rLeft; rw [if_neg cd1]; exact ⟨rfl, hS⟩
end Go.Proofs.YthcmigbamkohpaaGreatDoor
