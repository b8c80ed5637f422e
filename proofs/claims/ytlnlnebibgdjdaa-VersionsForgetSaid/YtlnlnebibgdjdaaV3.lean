/-
  Stores of versions: Commit, Create, Snapshot, where they succeed.
  Conditions: the store is one; the parents are open and there is room.
-/
import Derived.Test.YtlnlnebibgdjdaaV2
import Derived.Test.YtlnlnebibgdjdaaVra
namespace Go.Proofs.Ytlnlnebibgdjdaa
open Go Go.V Go.RowKit

/-- what a version added does to the store -/
structure Com (V : VM) (root : Int) (ps : List Int) (V2 : VM) : Prop where
  ex : ∃ xs2 q, V2 = V.add xs2 q root ∧ AddP V.xs V.cap V.last ps xs2 (V.last + 1)
  e0 : addE V.xs V.cap ps = 0
theorem vs_commit {g w : World} {L : List HP} (s a : Nat) (V : VM) (A : AM) (R : List Int) (root : Int) (hs : List Int) (pa : Option Addr) (pc : Nat) (hV : VI V A R) (hr : root = 0 ∨ (1 ≤ root ∧ A.s.ok root = true)) (hps : okPs hs) (hop : ∀ x ∈ hs, (0 ≤ x ∧ x ≤ 18446744073709551615) ∧ V.T.s.opn x = true) (hrm : 0 < V.room) (hla : V.last < 1000000000) (hlen : R.length ≤ 900000000) (hS : St g (Vst s a V :: Arn a A :: Sh 37 1 (u64s hs) pa pc :: L) w) :
    Sp Try.prog 20 [.pointer (some ⟨s, 0, none⟩), .int .u32 root, .slice pa (List.length (u64s hs)) pc] w (fun v w' => ∃ (V2 : VM), v = .tuple #[.int .u64 V.T.newH, .int .i64 0] ∧ St g (Vst s a V2 :: Arn a (A.ret root) :: Sh 37 1 (u64s hs) pa pc :: L) w' ∧ (VI V2 (A.ret root) R) ∧ (Com V root (hs.map V.T.val) V2)) := by
  refine Sp.enter Try.func20 rfl (by kernel_rfl) (by kernel_rfl) ?_
  refine WC.seq ?_
  refine WC.region ?_
  have hpl := u64s_len hs
  have hp2 := hps.1
  refine WL.r 2 rfl ?_
  refine WL.nil ?_
  refine WC.seq ?_
  refine WC.seq ?_
  refine WC.cut [0, 1, 2, 6, 7, 31] (fun vs w => ∃ (t31 : Bool), vs = [.pointer (some ⟨s, 0, none⟩), .int .u32 root, .slice pa (List.length (u64s hs)) pc, .int .u64 0, .int .i64 0, .bool t31] ∧ St g (Vst s a V :: Arn a A :: Sh 37 1 (u64s hs) pa pc :: L) w ∧ (t31 = false)) ?_ ?_
  · refine WC.plan [([0, 1, 2, 3, 4, 5, 6, 7, 8, 11, 9, 12, 10, 13, 14, 15, 16], none)] (by kernel_rfl) (by kernel_rfl) ?_
    refine WQ.r 4 rfl ?_
    refine WQ.reb 18 (.bool false) (congrArg Value.bool (decide_eq_false ((by omega)))) ?_
    refine WQ.ung rfl rfl rfl ?_
    refine WQ.r 1 rfl ?_
    refine WQ.ung rfl rfl rfl ?_
    refine WQ.r 1 rfl ?_
    refine WQ.ung rfl rfl rfl ?_
    refine WQ.r 1 rfl ?_
    refine WQ.ung rfl rfl rfl ?_
    refine WQ.r 1 rfl ?_
    by_cases cg1 : (List.length (u64s hs) : Int) = 2
    · refine WQ.reb 22 (.bool true) (congrArg Value.bool (decide_eq_true cg1)) ?_
      refine WQ.ung rfl rfl rfl ?_
      refine WQ.r 1 rfl ?_
      refine WQ.ung rfl rfl rfl ?_
      refine WQ.r 1 rfl ?_
      refine WQ.ung rfl rfl rfl ?_
      obtain ⟨p0, h0⟩ : ∃ u, hs[0]? = some u := ⟨_, List.getElem?_eq_getElem (by omega)⟩; obtain ⟨p1, h1⟩ : ∃ u, hs[1]? = some u := ⟨_, List.getElem?_eq_getElem (by omega)⟩
      refine WQ.ix rfl rfl (i := 0) (0) el_31 rfl rfl (by omega) (by omega) (hS.rdS 2 rfl (u64s_at h0)).1 ?_
      refine WQ.ung rfl rfl rfl ?_
      refine WQ.ix rfl rfl (i := 1) (1) el_31 rfl rfl (by omega) (by omega) (hS.rdS 2 rfl (u64s_at h1)).1 ?_
      refine WQ.ung rfl rfl rfl ?_
      refine WQ.run 1 [.int .u64 p0] rfl (by exact (hS.rdS 2 rfl (u64s_at h0)).2 0 _ rfl) ?_
      refine WQ.ung rfl rfl rfl ?_
      refine WQ.run 1 [.int .u64 p1] rfl (by exact (hS.rdS 2 rfl (u64s_at h1)).2 0 _ rfl) ?_
      refine WQ.ung rfl rfl rfl ?_
      refine WQ.r 1 rfl ?_
      refine WQ.ung rfl rfl rfl ?_
      refine WQ.r 2 rfl ?_
      refine WQ.nil ?_
      intro m1
      replace hS := hS.drewN m1; generalize hwm1 : World.drewN _ _ = w at *; clear hwm1
      exact ⟨decide (p0 = p1), rfl, hS, (decide_eq_false (okPs_ne hps h0 h1))⟩
    · refine WQ.reb 22 (.bool false) (congrArg Value.bool (decide_eq_false cg1)) ?_
      refine WQ.skp rfl rfl rfl rfl ?_
      refine WQ.skp rfl rfl rfl rfl ?_
      refine WQ.skp rfl rfl rfl rfl ?_
      refine WQ.skp rfl rfl rfl rfl ?_
      refine WQ.skp rfl rfl rfl rfl ?_
      refine WQ.skp rfl rfl rfl rfl ?_
      refine WQ.skp rfl rfl rfl rfl ?_
      refine WQ.ung rfl rfl rfl ?_
      refine WQ.r 2 rfl ?_
      refine WQ.nil ?_
      intro m1
      replace hS := hS.drewN m1; generalize hwm1 : World.drewN _ _ = w at *; clear hwm1
      exact ⟨false, rfl, hS, (rfl)⟩
  clear hS; rintro _ w j ⟨t31, rfl, hS, h31⟩
  refine WC.ifF rfl h31 ?_
  refine WC.skip ?_
  refine WC.seq ?_
  refine WC.region ?_
  refine WL.r 1 rfl ?_
  refine WL.nil ?_
  refine WC.seq ?_
  refine WC.seq ?_
  refine WC.region ?_
  refine WL.r 3 rfl ?_
  refine WL.nil ?_
  refine WC.block ?_
  replace hS := hS.nil_ 3 1
  refine WC.loop [0, 1, 8, 32, 33, 34] (fun kM vs w => ∃ (k : Nat) (acc : List Int) (u : Option Addr) (d : Nat), vs = [.pointer (some ⟨s, 0, none⟩), .int .u32 root, .slice u (List.length (i64s acc)) d, .slice pa (List.length (u64s hs)) pc, .int .i64 (List.length (u64s hs) : Int), .int .i64 (k : Int)] ∧ St g (Own 3 1 (i64s acc) u d :: Vst s a V :: Arn a A :: Sh 37 1 (u64s hs) pa pc :: L) w ∧ (k ≤ hs.length) ∧ (acc = (List.take k hs).map V.T.val) ∧ (hs.length - k) = kM) ((List.length hs) - 0) ⟨0, [], none, 0, rfl, hS, (Nat.zero_le _), (rfl), rfl⟩ ?_
  clear hS; rintro _ _ w j ⟨k, acc, u, d, rfl, hS, hk, ha, rfl⟩
  refine WC.seq ?_
  refine WC.region ?_
  refine WL.r 1 rfl ?_
  refine WL.nil ?_
  as_aux_lemma =>
    refine WC.seq ?_
    refine WC.ifP rfl (fun cd1 => ?_) (fun cd1 => ?_)
    · refine WC.skip ?_
      refine WC.seq ?_
      refine WC.block ?_
      refine WC.seq ?_
      refine WC.region ?_
      obtain ⟨z, hz⟩ : ∃ u, hs[k]? = some u := ⟨_, List.getElem?_eq_getElem (by omega)⟩; have hzo := hop z (List.mem_of_getElem? hz); have hacl := i64s_len acc; have hacl2 : acc.length = k := (by rw [ha, List.length_map, List.length_take]; omega)
      refine WL.ix rfl rfl (i := (k : Int)) (k) el_31 rfl rfl (by omega) (by omega) (hS.rdS 3 rfl (u64s_at hz)).1 ?_
      refine WL.run 2 [.int .u64 z] rfl (by exact (hS.rdS 3 rfl (u64s_at hz)).2 0 _ rfl) ?_
      refine WL.nil ?_
      refine WC.seq ?_
      refine WC.region ?_
      refine WL.r 2 rfl ?_
      refine WL.call rfl rfl (vs_num_ok (s := s) (a := a) (V := V) (h := z) (hT := hV.t) (hh := hzo.1) (hn := hzo.2) (hS := (hS.sel 2 [1, 0] rfl))) rfl ?_
      clear hS; rintro _ w ⟨rfl, hS⟩
      replace hS : St g (Vst s a V :: Own 3 1 (i64s acc) u d :: Arn a A :: Sh 37 1 (u64s hs) pa pc :: L) w := hS
      refine WL.r 5 rfl ?_
      refine WL.nil ?_
      refine WC.seq ?_
      refine WC.seq ?_
      refine WC.region ?_
      refine WL.r 2 rfl ?_
      refine WL.nil ?_
      refine WC.ifF rfl (decide_eq_false ((by decide))) ?_
      refine WC.skip ?_
      as_aux_lemma =>
        refine WC.region ?_
        refine WL.r 2 rfl ?_
        refine WL.lit rfl rfl (i64s [V.T.val z]) el_33 hS (by exact ⟨rfl, rfl⟩) (i64s_ok _) rfl (by decide) (fun b1 w hS => ?_)
        refine WL.app rfl rfl 2 (i64s (acc ++ [V.T.val z])) el_33 hS rfl (hS.srcO 0 rfl) (i64s_app _ _).symm (Rm.of (by first | omega | (simp <;> omega)) (by decide)) rfl rfl (fun a1 c1 w hS => ?_)
        replace hS : St g (Own 3 1 (i64s [V.T.val z]) (some ⟨b1, 0, none⟩) (List.length (i64s [V.T.val z])) :: Vst s a V :: Own 3 1 (i64s (acc ++ [V.T.val z])) a1 c1 :: Arn a A :: Sh 37 1 (u64s hs) pa pc :: L) w := hS
        refine WL.r 1 rfl ?_
        refine WL.nil ?_
        refine WC.region ?_
        refine WL.r 1 rfl ?_
        refine WL.nw 51 rfl (w64 (by omega)) ?_
        refine WL.r 1 rfl ?_
        refine WL.nil ?_
        exact ⟨_, by omega, k + 1, acc ++ [V.T.val z], a1, c1, rfl, (hS.sel 3 [2, 1] rfl), (by omega), (by rw [ha, List.take_add_one, hz]; simp), rfl⟩
    · refine WC.exit ?_
      refine WC.seq ?_
      refine WC.seq ?_
      refine WC.region ?_
      have hke : acc = hs.map V.T.val := (by rw [ha, List.take_of_length_le (by omega)]); obtain ⟨ss, hK⟩ := keys_ex hV.g.ok.uniq
      refine WL.r 1 rfl ?_
      refine WL.call rfl rfl (vs_room (s := s) (a := a) (V := V) (ss := ss) (hT := hV.t) (hG := hV.g) (hp := hK.perm) (hs := hK.le) (hS := (hS.sel 2 [1, 0] rfl))) rfl ?_
      clear hS; rintro _ w ⟨rfl, hS⟩
      replace hS : St g (Vst s a V :: Own 3 1 (i64s acc) u d :: Arn a A :: Sh 37 1 (u64s hs) pa pc :: L) w := hS
      refine WL.r 1 rfl ?_
      refine WL.nil ?_
      refine WC.ifF rfl (decide_eq_false ((by omega))) ?_
      refine WC.skip ?_
      refine WC.seq ?_
      refine WC.region ?_
      obtain ⟨⟨vt, vp, vm, vr⟩, hS⟩ := St.exOpen (f := vstF s a V) hS
      replace hS : St g (cel s #[.pointer (some ⟨a, 0, none⟩), .pointer (some ⟨vt, 0, none⟩), .pointer (some ⟨vp, 0, none⟩), .map (some vr), .int .i64 V.cap] 100 :: Tbl vt V.T :: cel vp #[.int .i64 V.cap, .int .i64 V.last, .map (some vm)] 161 :: blk vm (.map (mE (List.map vK V.xs)) V.q) :: Shs vF V.xs :: blk vr (.map (mE (List.map rK V.rs)) V.q2) :: Own 3 1 (i64s acc) u d :: Arn a A :: Sh 37 1 (u64s hs) pa pc :: L) w := hS
      refine WL.run 6 [.pointer (some ⟨vp, 0, none⟩)] rfl (by exact hS.ld 0 rfl rfl) ?_
      replace hS := (hS.at_ 6 rfl).share
      replace hS : St g (Sh 3 1 (i64s acc) u d :: cel s #[.pointer (some ⟨a, 0, none⟩), .pointer (some ⟨vt, 0, none⟩), .pointer (some ⟨vp, 0, none⟩), .map (some vr), .int .i64 V.cap] 100 :: Tbl vt V.T :: cel vp #[.int .i64 V.cap, .int .i64 V.last, .map (some vm)] 161 :: blk vm (.map (mE (List.map vK V.xs)) V.q) :: Shs vF V.xs :: blk vr (.map (mE (List.map rK V.rs)) V.q2) :: Arn a A :: Sh 37 1 (u64s hs) pa pc :: L) w := hS
      refine WL.call rfl rfl (add_spec (p := vp) (m := vm) (cap := V.cap) (last := V.last) (xs := V.xs) (q := V.q) (ps := acc) (a := u) (c := d) (hI := hV.g) (hla := hla) (hS := (hS.sel 6 [0, 2, 2, 2, 0, 0] rfl))) rfl ?_
      clear hS; rintro _ w ⟨xs1, q1, last1, rfl, hS, f1, f2⟩
      replace hS : St g (Sh 3 1 (i64s acc) u d :: cel vp #[.int .i64 V.cap, .int .i64 last1, .map (some vm)] 161 :: blk vm (.map (mE (List.map vK xs1)) q1) :: Shs vF xs1 :: cel s #[.pointer (some ⟨a, 0, none⟩), .pointer (some ⟨vt, 0, none⟩), .pointer (some ⟨vp, 0, none⟩), .map (some vr), .int .i64 V.cap] 100 :: Tbl vt V.T :: blk vr (.map (mE (List.map rK V.rs)) V.q2) :: Arn a A :: Sh 37 1 (u64s hs) pa pc :: L) w := hS
      refine WL.r 5 rfl ?_
      refine WL.nil ?_
      as_aux_lemma =>
        refine WC.seq ?_
        refine WC.seq ?_
        refine WC.region ?_
        have he0 := addE_room hV hps (fun x hx => (hop x hx).2) hrm; rw [← hke] at he0
        refine WL.r 2 rfl ?_
        refine WL.nil ?_
        refine WC.ifF rfl (decide_eq_false ((by rw [he0]; decide))) ?_
        refine WC.skip ?_
        refine WC.seq ?_
        refine WC.region ?_
        rw [hke] at he0 f2; obtain ⟨_, rfl, _⟩ := (AddP.facts hV.g.le f2).resolve_left (fun e => e.1 he0); have hv0 : addV V.xs V.cap V.last acc = V.last + 1 := (by unfold addV; rw [hke, if_pos he0]); have hfr := (room_pos hV hrm).2; have hla0 := hV.g.la; have hV2 := hV.add hr he0 f2 f1 hfr hla hlen
        refine WL.reb 13 (.int .i64 (V.last + 1)) (congrArg (Value.int .i64) hv0) ?_
        refine WL.run 5 [.pointer (some ⟨a, 0, none⟩)] rfl (by exact hS.ld 4 rfl rfl) ?_
        refine WL.call rfl rfl (ar_retain (a := a) (A := A) (i := root) (hA := hV.ref.toAWf) (hi := (by have := okrng0 hV.ref.toAWf hr; omega)) (hS := (hS.sel 8 [7, 0, 0, 0, 0, 0, 0, 0] rfl))) rfl ?_
        clear hS; rintro _ w ⟨rfl, hS⟩
        replace hS : St g (Arn a (A.ret root) :: Sh 3 1 (i64s acc) u d :: cel vp #[.int .i64 V.cap, .int .i64 (V.last + 1), .map (some vm)] 161 :: blk vm (.map (mE (List.map vK xs1)) q1) :: Shs vF xs1 :: cel s #[.pointer (some ⟨a, 0, none⟩), .pointer (some ⟨vt, 0, none⟩), .pointer (some ⟨vp, 0, none⟩), .map (some vr), .int .i64 V.cap] 100 :: Tbl vt V.T :: blk vr (.map (mE (List.map rK V.rs)) V.q2) :: Sh 37 1 (u64s hs) pa pc :: L) w := hS
        refine WL.nil ?_
        refine WC.seq ?_
        refine WC.region ?_
        refine WL.run 7 [.map (some vr)] rfl (by exact hS.ld 5 rfl rfl) ?_
        refine WL.muN rfl rfl rfl mt_96 7 hS rfl rfl rfl rfl (by first | trivial | rfl) (ki_out (f := rK) hV.k.key (fun x hx e => by have h9 := (AddP.facts hV.g.le f2).resolve_left (fun e => e.1 he0); have h8 := (hV.pre x.n).1 ⟨x, hx, rfl⟩; rw [e, h9.2.2.1] at h8; cases h8)) (fun w hS => ?_)
        replace hS : St g (Arn a (A.ret root) :: Sh 3 1 (i64s acc) u d :: cel vp #[.int .i64 V.cap, .int .i64 (V.last + 1), .map (some vm)] 161 :: blk vm (.map (mE (List.map vK xs1)) q1) :: Shs vF xs1 :: cel s #[.pointer (some ⟨a, 0, none⟩), .pointer (some ⟨vt, 0, none⟩), .pointer (some ⟨vp, 0, none⟩), .map (some vr), .int .i64 V.cap] 100 :: Tbl vt V.T :: blk vr (.map (mE ((List.map rK V.rs) ++ [⟨.int .i64 (V.last + 1), .int .u32 root, V.q2⟩])) (V.q2 + 1)) :: Sh 37 1 (u64s hs) pa pc :: L) w := hS
        refine WL.nil ?_
        refine WC.seq ?_
        refine WC.region ?_
        refine WL.run 6 [.pointer (some ⟨vt, 0, none⟩)] rfl (by exact hS.ld 5 rfl rfl) ?_
        refine WL.nw 86 rfl (wu32 (by omega)) ?_
        refine WL.call rfl rfl (tb_open_ok (t := vt) (T := V.T) (y := V.last + 1) (hT := hV.t) (hf := hfr) (hS := (hS.sel 7 [6, 0, 0, 0, 0, 0, 0] rfl))) rfl ?_
        clear hS; rintro _ w ⟨rfl, hS⟩
        replace hS : St g (Tbl vt (V.T.open (V.last + 1)) :: Arn a (A.ret root) :: Sh 3 1 (i64s acc) u d :: cel vp #[.int .i64 V.cap, .int .i64 (V.last + 1), .map (some vm)] 161 :: blk vm (.map (mE (List.map vK xs1)) q1) :: Shs vF xs1 :: cel s #[.pointer (some ⟨a, 0, none⟩), .pointer (some ⟨vt, 0, none⟩), .pointer (some ⟨vp, 0, none⟩), .map (some vr), .int .i64 V.cap] 100 :: blk vr (.map (mE ((List.map rK V.rs) ++ [⟨.int .i64 (V.last + 1), .int .u32 root, V.q2⟩])) (V.q2 + 1)) :: Sh 37 1 (u64s hs) pa pc :: L) w := hS
        refine WL.r 4 rfl ?_
        refine WL.nil ?_
        as_aux_lemma =>
          refine WC.ret ?_
          replace hS := St.exClose (f := vstF s a (V.add xs1 q1 root)) (L := Arn a (A.ret root) :: Sh 3 1 (i64s acc) u d :: Sh 37 1 (u64s hs) pa pc :: L) ⟨vt, vp, vm, vr⟩ (by
            have hm : List.map rK V.rs ++ [(.int .i64 (V.last + 1), .int .u32 root, V.q2)] = List.map rK (V.add xs1 q1 root).rs := by simp [rK, VM.add]
            rw [hm] at hS
            exact (hS.sel 8 [6, 0, 2, 2, 2, 2, 0, 0] rfl))
          replace hS : St g (Vst s a (V.add xs1 q1 root) :: Arn a (A.ret root) :: Sh 3 1 (i64s acc) u d :: Sh 37 1 (u64s hs) pa pc :: L) w := hS
          refine ⟨[.int .u64 V.T.newH, .int .i64 0], ⟨rfl, rfl⟩, ?_⟩
          replace hS := (hS.sel 3 [0, 0] rfl)
          exact ⟨_, rfl, hS, hV2, ⟨xs1, q1, rfl, f2⟩, he0⟩
theorem okPs_nil : okPs [] := ⟨by simp, fun _ _ h => by cases h⟩
theorem okPs_one (x : Int) : okPs [x] := ⟨by simp, fun _ _ h => by cases h⟩
theorem vs_create {g w : World} {L : List HP} (s a : Nat) (V : VM) (A : AM) (R : List Int) (hV : VI V A R) (hrm : 0 < V.room) (hla : V.last < 1000000000) (hlen : R.length ≤ 900000000) (hS : St g (Vst s a V :: Arn a A :: L) w) :
    Sp Try.prog 17 [.pointer (some ⟨s, 0, none⟩)] w (fun v w' => ∃ (V2 : VM), v = .tuple #[.int .u64 V.T.newH, .int .i64 0] ∧ St g (Vst s a V2 :: Arn a A :: L) w' ∧ (VI V2 A R) ∧ (Com V 0 [] V2)) := by
  refine Sp.enter Try.func17 rfl (by kernel_rfl) (by kernel_rfl) ?_
  refine WC.seq ?_
  refine WC.region ?_
  refine WL.r 2 rfl ?_
  refine WL.nil ?_
  refine WC.seq ?_
  refine WC.region ?_
  refine WL.r 1 rfl ?_
  replace hS := hS.nilS 37 1
  replace hS : St g (Sh 37 1 (u64s []) none 0 :: Vst s a V :: Arn a A :: L) w := hS
  refine WL.call rfl rfl (vs_commit (s := s) (a := a) (V := V) (A := A) (R := R) (root := 0) (hs := []) (pa := none) (pc := 0) (hV := hV) (hr := (.inl rfl)) (hps := okPs_nil) (hop := (fun _ h => by cases h)) (hrm := hrm) (hla := hla) (hlen := hlen) (hS := (hS.sel 3 [1, 1, 0] rfl))) rfl ?_
  clear hS; rintro _ w ⟨V1, rfl, hS, f1, f2⟩
  replace hS : St g (Vst s a V1 :: Arn a (A.ret 0) :: Sh 37 1 (u64s []) none 0 :: L) w := hS
  refine WL.r 4 rfl ?_
  refine WL.nil ?_
  refine WC.ret ?_
  refine ⟨[.int .u64 V.T.newH, .int .i64 0], ⟨rfl, rfl⟩, ?_⟩
  replace hS := (hS.sel 3 [0, 0] rfl)
  exact ⟨_, rfl, hS, f1, f2⟩
theorem vs_snap {g w : World} {L : List HP} (s a : Nat) (V : VM) (A : AM) (R : List Int) (h : Int) (hV : VI V A R) (hh : 0 ≤ h ∧ h ≤ 18446744073709551615) (hn : V.T.s.opn h = true) (hrm : 0 < V.room) (hla : V.last < 1000000000) (hlen : R.length ≤ 900000000) (hS : St g (Vst s a V :: Arn a A :: L) w) :
    Sp Try.prog 45 [.pointer (some ⟨s, 0, none⟩), .int .u64 h] w (fun v w' => ∃ (V2 : VM), v = .tuple #[.int .u64 V.T.newH, .int .i64 0] ∧ St g (Vst s a V2 :: Arn a (A.ret (V.rootOf (V.T.val h))) :: L) w' ∧ (VI V2 (A.ret (V.rootOf (V.T.val h))) R) ∧ (Com V (V.rootOf (V.T.val h)) [V.T.val h] V2)) := by
  refine Sp.enter Try.func45 rfl (by kernel_rfl) (by kernel_rfl) ?_
  refine WC.seq ?_
  refine WC.region ?_
  refine WL.r 2 rfl ?_
  refine WL.nil ?_
  refine WC.seq ?_
  refine WC.region ?_
  refine WL.r 2 rfl ?_
  refine WL.call rfl rfl (vs_root_ok (s := s) (a := a) (V := V) (A := A) (R := R) (h := h) (hV := hV) (hh := hh) (hn := hn) (hS := hS)) rfl ?_
  clear hS; rintro _ w ⟨rfl, hS⟩
  replace hS : St g (Vst s a V :: Arn a A :: L) w := hS
  refine WL.r 5 rfl ?_
  refine WL.nil ?_
  refine WC.seq ?_
  refine WC.seq ?_
  refine WC.region ?_
  refine WL.r 2 rfl ?_
  refine WL.nil ?_
  refine WC.ifF rfl (decide_eq_false ((by decide))) ?_
  refine WC.skip ?_
  refine WC.seq ?_
  refine WC.region ?_
  refine WL.r 3 rfl ?_
  refine WL.lit rfl rfl (u64s [h]) el_31 hS (by exact ⟨rfl, rfl⟩) (u64s_ok _) rfl (by decide) (fun b1 w hS => ?_)
  replace hS := (hS.at_ 0 rfl).share
  replace hS : St g (Sh 37 1 (u64s [h]) (some ⟨b1, 0, none⟩) (List.length (u64s [h])) :: Vst s a V :: Arn a A :: L) w := hS
  refine WL.call rfl rfl (vs_commit (s := s) (a := a) (V := V) (A := A) (R := R) (root := V.rootOf (V.T.val h)) (hs := [h]) (pa := some ⟨b1, 0, none⟩) (pc := List.length (u64s [h])) (hV := hV) (hr := (root_ok hV hn)) (hps := okPs_one h) (hop := (fun x hx => by rw [List.mem_singleton.1 hx]; exact ⟨hh, hn⟩)) (hrm := hrm) (hla := hla) (hlen := hlen) (hS := (hS.sel 3 [1, 1, 0] rfl))) rfl ?_
  clear hS; rintro _ w ⟨V1, rfl, hS, f1, f2⟩
  replace hS : St g (Vst s a V1 :: Arn a (A.ret (V.rootOf (V.T.val h))) :: Sh 37 1 (u64s [h]) (some ⟨b1, 0, none⟩) (List.length (u64s [h])) :: L) w := hS
  refine WL.r 4 rfl ?_
  refine WL.nil ?_
  as_aux_lemma =>
    refine WC.ret ?_
    refine ⟨[.int .u64 V.T.newH, .int .i64 0], ⟨rfl, rfl⟩, ?_⟩
    replace hS := (hS.sel 3 [0, 0] rfl)
    exact ⟨_, rfl, hS, f1, f2⟩
end Go.Proofs.Ytlnlnebibgdjdaa
