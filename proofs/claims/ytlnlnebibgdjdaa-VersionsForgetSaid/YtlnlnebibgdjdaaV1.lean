/-
  Stores of versions: New, Number, Root, Room, Retained, Handles.
  Conditions: the store is one.
-/
import Derived.Test.YtlnlnebibgdjdaaA6
import Derived.Test.YtlnlnebibgdjdaaT1
import Derived.Test.YtlnlnebibgdjdaaR3
import Derived.Test.YtlnlnebibgdjdaaVra
namespace Go.Proofs.Ytlnlnebibgdjdaa
open Go Go.V Go.RowKit Go.Maps Go.Sort Go.Shelf

theorem vs_new_bad1 {g w : World} {L : List HP} (sl cap : Int) (hc : ¬ (1 ≤ cap ∧ cap ≤ 4096)) (hS : St g (L) w) :
    Sp Try.prog 9 [.int .i64 sl, .int .i64 cap] w (fun v w' => v = .tuple #[.pointer none, .int .i64 1] ∧ St g (L) w') := by
  refine Sp.enter Try.func9 rfl (by kernel_rfl) (by kernel_rfl) ?_
  have _ := hc
  refine WC.seq ?_
  refine WC.region ?_
  refine WL.r 2 rfl ?_
  refine WL.nil ?_
  refine WC.seq ?_
  refine WC.seq ?_
  refine WC.region ?_
  refine WL.r 2 rfl ?_
  refine WL.rG 4 rfl (fun j => ?_)
  refine WL.prop 15 rfl (bor (dd _) (dd _)) ?_
  refine WL.nil ?_
  refine WC.ifT rfl (decide_eq_true ((by omega))) ?_
  refine WC.seq ?_
  refine WC.region ?_
  refine WL.r 2 rfl ?_
  refine WL.nil ?_
  refine WC.ret ?_
  refine ⟨[.pointer none, .int .i64 1], ⟨rfl, rfl⟩, ?_⟩
  exact ⟨rfl, hS⟩
theorem vs_new_bad2 {g w : World} {L : List HP} (sl cap : Int) (hc : 1 ≤ cap ∧ cap ≤ 4096) (hs : ¬ (1 ≤ sl ∧ sl ≤ 65536)) (hS : St g (L) w) :
    Sp Try.prog 9 [.int .i64 sl, .int .i64 cap] w (fun v w' => v = .tuple #[.pointer none, .int .i64 1] ∧ St g (L) w') := by
  refine Sp.enter Try.func9 rfl (by kernel_rfl) (by kernel_rfl) ?_
  have _ := hc
  refine WC.seq ?_
  refine WC.region ?_
  refine WL.r 2 rfl ?_
  refine WL.nil ?_
  refine WC.seq ?_
  refine WC.seq ?_
  refine WC.region ?_
  refine WL.r 2 rfl ?_
  refine WL.rG 4 rfl (fun j => ?_)
  refine WL.prop 15 rfl (bor (dd _) (dd _)) ?_
  refine WL.nil ?_
  refine WC.ifF rfl (decide_eq_false ((by omega))) ?_
  refine WC.skip ?_
  refine WC.seq ?_
  refine WC.region ?_
  refine WL.r 1 rfl ?_
  refine WL.call rfl rfl (ar_new_bad (cap := sl) (hc := hs) (hS := hS)) rfl ?_
  clear hS; rintro _ w ⟨rfl, hS⟩
  replace hS : St g (L) w := hS
  refine WL.r 5 rfl ?_
  refine WL.nil ?_
  refine WC.seq ?_
  refine WC.seq ?_
  refine WC.region ?_
  refine WL.r 2 rfl ?_
  refine WL.nil ?_
  as_aux_lemma =>
    refine WC.ifT rfl (decide_eq_true ((by decide))) ?_
    refine WC.seq ?_
    refine WC.region ?_
    refine WL.r 3 rfl ?_
    refine WL.nil ?_
    refine WC.ret ?_
    refine ⟨[.pointer none, .int .i64 1], ⟨rfl, rfl⟩, ?_⟩
    exact ⟨rfl, hS⟩
theorem vs_new_ok {g w : World} {L : List HP} (sl cap : Int) (hc : 1 ≤ cap ∧ cap ≤ 4096) (hs : 1 ≤ sl ∧ sl ≤ 65536) (hS : St g (L) w) :
    Sp Try.prog 9 [.int .i64 sl, .int .i64 cap] w (fun v w' => ∃ (s a : Nat), v = .tuple #[.pointer (some ⟨s, 0, none⟩), .int .i64 0] ∧ St g (Vst s a (VM.new cap.toNat) :: Arn a (AM.new sl.toNat) :: L) w') := by
  refine Sp.enter Try.func9 rfl (by kernel_rfl) (by kernel_rfl) ?_
  refine WC.seq ?_
  refine WC.region ?_
  refine WL.r 2 rfl ?_
  refine WL.nil ?_
  refine WC.seq ?_
  refine WC.seq ?_
  refine WC.region ?_
  refine WL.r 2 rfl ?_
  refine WL.rG 4 rfl (fun j => ?_)
  refine WL.prop 15 rfl (bor (dd _) (dd _)) ?_
  refine WL.nil ?_
  refine WC.ifF rfl (decide_eq_false ((by omega))) ?_
  refine WC.skip ?_
  refine WC.seq ?_
  refine WC.region ?_
  refine WL.r 1 rfl ?_
  refine WL.call rfl rfl (ar_new_ok (cap := sl) (hc := hs) (hS := hS)) rfl ?_
  clear hS; rintro _ w ⟨a1, rfl, hS⟩
  replace hS : St g (Arn a1 (AM.new sl.toNat) :: L) w := hS
  refine WL.r 5 rfl ?_
  refine WL.nil ?_
  refine WC.seq ?_
  refine WC.seq ?_
  refine WC.region ?_
  refine WL.r 2 rfl ?_
  refine WL.nil ?_
  as_aux_lemma =>
    refine WC.ifF rfl (decide_eq_false ((by decide))) ?_
    refine WC.skip ?_
    refine WC.seq ?_
    refine WC.region ?_
    refine WL.r 1 rfl ?_
    refine WL.call rfl rfl (tb_new_ok (cap := cap) (hc := hc) (hS := hS)) rfl ?_
    clear hS; rintro _ w ⟨t1, rfl, hS⟩
    replace hS : St g (Tbl t1 (TM.new cap.toNat) :: Arn a1 (AM.new sl.toNat) :: L) w := hS
    refine WL.r 5 rfl ?_
    refine WL.nil ?_
    refine WC.seq ?_
    refine WC.seq ?_
    refine WC.region ?_
    refine WL.r 2 rfl ?_
    refine WL.nil ?_
    refine WC.ifF rfl (decide_eq_false ((by decide))) ?_
    refine WC.skip ?_
    refine WC.seq ?_
    refine WC.region ?_
    refine WL.r 1 rfl ?_
    refine WL.call rfl rfl (new_ok (cap := cap) (hc := hc) (hS := hS)) rfl ?_
    clear hS; rintro _ w ⟨p1, m1, rfl, hS⟩
    replace hS : St g (cel p1 #[.int .i64 cap, .int .i64 0, .map (some m1)] 161 :: blk m1 (.map (mE (List.map vK [])) 0) :: Shs vF [] :: Tbl t1 (TM.new cap.toNat) :: Arn a1 (AM.new sl.toNat) :: L) w := hS
    refine WL.r 5 rfl ?_
    refine WL.nil ?_
    as_aux_lemma =>
      refine WC.seq ?_
      refine WC.seq ?_
      refine WC.region ?_
      refine WL.r 2 rfl ?_
      refine WL.nil ?_
      refine WC.ifF rfl (decide_eq_false ((by decide))) ?_
      refine WC.skip ?_
      refine WC.seq ?_
      refine WC.region ?_
      refine WL.r 3 rfl ?_
      refine WL.mkM rfl rfl hS (fun b1 w hS => ?_)
      refine WL.build rfl rfl (cs := [.pointer (some ⟨p1, 0, none⟩), .map (some b1)]) zv_98 rfl rfl ?_
      refine WL.r 1 rfl ?_
      refine WL.build rfl rfl (cs := [.pointer (some ⟨a1, 0, none⟩), .pointer (some ⟨t1, 0, none⟩), .pointer (some ⟨p1, 0, none⟩), .map (some b1), .int .i64 cap]) zv_100 rfl rfl ?_
      refine WL.box rfl rfl #[.pointer (some ⟨a1, 0, none⟩), .pointer (some ⟨t1, 0, none⟩), .pointer (some ⟨p1, 0, none⟩), .map (some b1), .int .i64 cap] hS rfl rfl (fun b2 w hS => ?_)
      refine WL.r 2 rfl ?_
      refine WL.nil ?_
      refine WC.ret ?_
      replace hS := St.exClose (f := vstF b2 a1 (VM.new cap.toNat)) (L := Arn a1 (AM.new sl.toNat) :: L) ⟨t1, p1, m1, b1⟩ (by
        have hc2 : (VM.new cap.toNat).cap = cap := (by show ((cap.toNat : Nat) : Int) = cap; omega)
        unfold vstF
        rw [hc2]
        exact (hS.sel 6 [0, 4, 1, 1, 1, 0] rfl))
      replace hS : St g (Vst b2 a1 (VM.new cap.toNat) :: Arn a1 (AM.new sl.toNat) :: L) w := hS
      refine ⟨[.pointer (some ⟨b2, 0, none⟩), .int .i64 0], ⟨rfl, rfl⟩, ?_⟩
      exact ⟨_, _, rfl, hS⟩
theorem vs_num_bad {g w : World} {L : List HP} (s a : Nat) (V : VM) (h : Int) (hT : TOk V.T) (hh : 0 ≤ h ∧ h ≤ 18446744073709551615) (hn : V.T.s.opn h = false) (hS : St g (Vst s a V :: L) w) :
    Sp Try.prog 46 [.pointer (some ⟨s, 0, none⟩), .int .u64 h] w (fun v w' => v = .tuple #[.int .i64 0, .int .i64 5] ∧ St g (Vst s a V :: L) w') := by
  refine Sp.enter Try.func46 rfl (by kernel_rfl) (by kernel_rfl) ?_
  refine WC.seq ?_
  refine WC.region ?_
  refine WL.r 2 rfl ?_
  refine WL.nil ?_
  refine WC.seq ?_
  refine WC.region ?_
  obtain ⟨⟨vt, vp, vm, vr⟩, hS⟩ := St.exOpen (f := vstF s a V) hS
  replace hS : St g (cel s #[.pointer (some ⟨a, 0, none⟩), .pointer (some ⟨vt, 0, none⟩), .pointer (some ⟨vp, 0, none⟩), .map (some vr), .int .i64 V.cap] 100 :: Tbl vt V.T :: cel vp #[.int .i64 V.cap, .int .i64 V.last, .map (some vm)] 161 :: blk vm (.map (mE (List.map vK V.xs)) V.q) :: Shs vF V.xs :: blk vr (.map (mE (List.map rK V.rs)) V.q2) :: L) w := hS
  refine WL.run 5 [.pointer (some ⟨vt, 0, none⟩)] rfl (by exact hS.ld 0 rfl rfl) ?_
  refine WL.call rfl rfl (tb_lookup_bad (t := vt) (T := V.T) (h := h) (hT := hT) (hh := hh) (hn := hn) (hS := (hS.sel 2 [1, 0] rfl))) rfl ?_
  clear hS; rintro _ w ⟨rfl, hS⟩
  replace hS : St g (Tbl vt V.T :: cel s #[.pointer (some ⟨a, 0, none⟩), .pointer (some ⟨vt, 0, none⟩), .pointer (some ⟨vp, 0, none⟩), .map (some vr), .int .i64 V.cap] 100 :: cel vp #[.int .i64 V.cap, .int .i64 V.last, .map (some vm)] 161 :: blk vm (.map (mE (List.map vK V.xs)) V.q) :: Shs vF V.xs :: blk vr (.map (mE (List.map rK V.rs)) V.q2) :: L) w := hS
  refine WL.r 5 rfl ?_
  refine WL.nil ?_
  refine WC.seq ?_
  refine WC.region ?_
  refine WL.r 2 rfl ?_
  refine WL.nw 18 rfl (w64 (by omega)) ?_
  refine WL.r 3 rfl ?_
  refine WL.nil ?_
  refine WC.ret ?_
  replace hS := St.exClose (f := vstF s a V) (L := L) ⟨vt, vp, vm, vr⟩ ((hS.sel 2 [1, 0] rfl))
  replace hS : St g (Vst s a V :: L) w := hS
  refine ⟨[.int .i64 0, .int .i64 5], ⟨rfl, rfl⟩, ?_⟩
  exact ⟨rfl, hS⟩
theorem vs_num_ok {g w : World} {L : List HP} (s a : Nat) (V : VM) (h : Int) (hT : TOk V.T) (hh : 0 ≤ h ∧ h ≤ 18446744073709551615) (hn : V.T.s.opn h = true) (hS : St g (Vst s a V :: L) w) :
    Sp Try.prog 46 [.pointer (some ⟨s, 0, none⟩), .int .u64 h] w (fun v w' => v = .tuple #[.int .i64 (V.T.val h), .int .i64 0] ∧ St g (Vst s a V :: L) w') := by
  refine Sp.enter Try.func46 rfl (by kernel_rfl) (by kernel_rfl) ?_
  refine WC.seq ?_
  refine WC.region ?_
  refine WL.r 2 rfl ?_
  refine WL.nil ?_
  refine WC.seq ?_
  refine WC.region ?_
  obtain ⟨⟨vt, vp, vm, vr⟩, hS⟩ := St.exOpen (f := vstF s a V) hS
  replace hS : St g (cel s #[.pointer (some ⟨a, 0, none⟩), .pointer (some ⟨vt, 0, none⟩), .pointer (some ⟨vp, 0, none⟩), .map (some vr), .int .i64 V.cap] 100 :: Tbl vt V.T :: cel vp #[.int .i64 V.cap, .int .i64 V.last, .map (some vm)] 161 :: blk vm (.map (mE (List.map vK V.xs)) V.q) :: Shs vF V.xs :: blk vr (.map (mE (List.map rK V.rs)) V.q2) :: L) w := hS
  refine WL.run 5 [.pointer (some ⟨vt, 0, none⟩)] rfl (by exact hS.ld 0 rfl rfl) ?_
  refine WL.call rfl rfl (tb_lookup_ok (t := vt) (T := V.T) (h := h) (hT := hT) (hh := hh) (hn := hn) (hS := (hS.sel 2 [1, 0] rfl))) rfl ?_
  clear hS; rintro _ w ⟨rfl, hS⟩
  replace hS : St g (Tbl vt V.T :: cel s #[.pointer (some ⟨a, 0, none⟩), .pointer (some ⟨vt, 0, none⟩), .pointer (some ⟨vp, 0, none⟩), .map (some vr), .int .i64 V.cap] 100 :: cel vp #[.int .i64 V.cap, .int .i64 V.last, .map (some vm)] 161 :: blk vm (.map (mE (List.map vK V.xs)) V.q) :: Shs vF V.xs :: blk vr (.map (mE (List.map rK V.rs)) V.q2) :: L) w := hS
  refine WL.r 5 rfl ?_
  refine WL.nil ?_
  refine WC.seq ?_
  refine WC.region ?_
  have hv := hT.val_rng h
  refine WL.r 2 rfl ?_
  refine WL.nw 18 rfl (w64 (by omega)) ?_
  refine WL.r 3 rfl ?_
  refine WL.nil ?_
  refine WC.ret ?_
  replace hS := St.exClose (f := vstF s a V) (L := L) ⟨vt, vp, vm, vr⟩ ((hS.sel 2 [1, 0] rfl))
  replace hS : St g (Vst s a V :: L) w := hS
  refine ⟨[.int .i64 (V.T.val h), .int .i64 0], ⟨rfl, rfl⟩, ?_⟩
  exact ⟨rfl, hS⟩
theorem vs_root_bad {g w : World} {L : List HP} (s a : Nat) (V : VM) (h : Int) (hT : TOk V.T) (hh : 0 ≤ h ∧ h ≤ 18446744073709551615) (hn : V.T.s.opn h = false) (hS : St g (Vst s a V :: L) w) :
    Sp Try.prog 18 [.pointer (some ⟨s, 0, none⟩), .int .u64 h] w (fun v w' => v = .tuple #[.int .u32 0, .int .i64 5] ∧ St g (Vst s a V :: L) w') := by
  refine Sp.enter Try.func18 rfl (by kernel_rfl) (by kernel_rfl) ?_
  refine WC.seq ?_
  refine WC.region ?_
  refine WL.r 2 rfl ?_
  refine WL.nil ?_
  refine WC.seq ?_
  refine WC.region ?_
  refine WL.r 2 rfl ?_
  refine WL.call rfl rfl (vs_num_bad (s := s) (a := a) (V := V) (h := h) (hT := hT) (hh := hh) (hn := hn) (hS := hS)) rfl ?_
  clear hS; rintro _ w ⟨rfl, hS⟩
  replace hS : St g (Vst s a V :: L) w := hS
  refine WL.r 5 rfl ?_
  refine WL.nil ?_
  refine WC.seq ?_
  refine WC.seq ?_
  refine WC.region ?_
  refine WL.r 2 rfl ?_
  refine WL.nil ?_
  refine WC.ifT rfl (decide_eq_true ((by decide))) ?_
  refine WC.seq ?_
  refine WC.region ?_
  refine WL.r 3 rfl ?_
  refine WL.nil ?_
  refine WC.ret ?_
  refine ⟨[.int .u32 0, .int .i64 5], ⟨rfl, rfl⟩, ?_⟩
  exact ⟨rfl, hS⟩
theorem vs_root_ok {g w : World} {L : List HP} (s a : Nat) (V : VM) (A : AM) (R : List Int) (h : Int) (hV : VI V A R) (hh : 0 ≤ h ∧ h ≤ 18446744073709551615) (hn : V.T.s.opn h = true) (hS : St g (Vst s a V :: L) w) :
    Sp Try.prog 18 [.pointer (some ⟨s, 0, none⟩), .int .u64 h] w (fun v w' => v = .tuple #[.int .u32 (V.rootOf (V.T.val h)), .int .i64 0] ∧ St g (Vst s a V :: L) w') := by
  refine Sp.enter Try.func18 rfl (by kernel_rfl) (by kernel_rfl) ?_
  refine WC.seq ?_
  refine WC.region ?_
  refine WL.r 2 rfl ?_
  refine WL.nil ?_
  refine WC.seq ?_
  refine WC.region ?_
  refine WL.r 2 rfl ?_
  refine WL.call rfl rfl (vs_num_ok (s := s) (a := a) (V := V) (h := h) (hT := hV.t) (hh := hh) (hn := hn) (hS := hS)) rfl ?_
  clear hS; rintro _ w ⟨rfl, hS⟩
  replace hS : St g (Vst s a V :: L) w := hS
  refine WL.r 5 rfl ?_
  refine WL.nil ?_
  refine WC.seq ?_
  refine WC.seq ?_
  refine WC.region ?_
  refine WL.r 2 rfl ?_
  refine WL.nil ?_
  refine WC.ifF rfl (decide_eq_false ((by decide))) ?_
  refine WC.skip ?_
  refine WC.seq ?_
  refine WC.region ?_
  obtain ⟨⟨vt, vp, vm, vr⟩, hS⟩ := St.exOpen (f := vstF s a V) hS
  replace hS : St g (cel s #[.pointer (some ⟨a, 0, none⟩), .pointer (some ⟨vt, 0, none⟩), .pointer (some ⟨vp, 0, none⟩), .map (some vr), .int .i64 V.cap] 100 :: Tbl vt V.T :: cel vp #[.int .i64 V.cap, .int .i64 V.last, .map (some vm)] 161 :: blk vm (.map (mE (List.map vK V.xs)) V.q) :: Shs vF V.xs :: blk vr (.map (mE (List.map rK V.rs)) V.q2) :: L) w := hS
  obtain ⟨_, k, r, hr, hrn⟩ := VM.open_val hV hn
  refine WL.run 6 [.map (some vr)] rfl (by exact hS.ld 0 rfl rfl) ?_
  refine WL.lk rfl rfl mt_96 5 hS rfl rfl rfl (by first | trivial | rfl) (r := some (k, .int .u32 r.root)) (hrn ▸ ki_in hV.k.key hV.k.uniq hr) rfl ?_
  refine WL.r 2 rfl ?_
  refine WL.nil ?_
  as_aux_lemma =>
    refine WC.ret ?_
    replace hS := St.exClose (f := vstF s a V) (L := L) ⟨vt, vp, vm, vr⟩ (hS)
    replace hS : St g (Vst s a V :: L) w := hS
    refine ⟨[.int .u32 r.root, .int .i64 0], ⟨rfl, rfl⟩, ?_⟩
    exact ⟨by rw [← hrn, VM.rootOf_at hV.k.uniq hr]; rfl, hS⟩
end Go.Proofs.Ytlnlnebibgdjdaa
