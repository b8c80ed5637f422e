/-
  The table of names: Set.
  Conditions: the arguments lie in their kinds.
-/
import Derived.Test.YtenkmjbghbegfaaDoorNm2
import Derived.Test.YtenkmjbghbegfaaDoorVal
namespace Go.Proofs.YtenkmjbghbegfaaDoor
open Go Go.V


theorem bad_or {p q : Prop} (h : ¬ (p ∧ ¬ q)) : ¬ p ∨ q := by
  by_cases h1 : p
  · exact .inr (Classical.not_not.1 fun h2 => h ⟨h1, h2⟩)
  · exact .inl h1
theorem set_bad {g w : World} {L : List HP} (t m : Nat) (xs : List NB) (q : Nat) (s : ByteArray) (x y : Int) (hb : ¬ (okName (sb s) ∧ ¬ (x = 0 ∧ y = 0))) (hS : St g (cel t #[.map (some m)] 62 :: blk m (.map (mE (List.map nbK xs)) q) :: Buns nbF xs :: L) w) :
    Sp Tryd.prog 12 [.pointer (some ⟨t, 0, none⟩), .string s, .int .u64 x, .int .u64 y] w (fun v w' => v = .int .i64 1 ∧ St g (cel t #[.map (some m)] 62 :: blk m (.map (mE (List.map nbK xs)) q) :: Buns nbF xs :: L) w') := by
  refine Sp.enter Tryd.func12 rfl (by kernel_rfl) (by kernel_rfl) ?_
  refine WC.seq ?_
  refine WC.region ?_
  refine WL.r 1 rfl ?_
  refine WL.nil ?_
  refine WC.seq ?_
  refine WC.seq ?_
  refine WC.region ?_
  refine WL.r 1 rfl ?_
  refine WL.call rfl rfl (validName_spec (s := s)  (hS := hS)) rfl ?_
  clear hS; rintro _ w ⟨rfl, hS⟩
  replace hS : St g (cel t #[.map (some m)] 62 :: blk m (.map (mE (List.map nbK xs)) q) :: Buns nbF xs :: L) w := hS
  refine WL.r 1 rfl ?_
  refine WL.prop 15 rfl (bnot (dd _)) ?_
  refine WL.rG 8 rfl (fun j => ?_)
  refine WL.prop 23 rfl (bor (dd _) (band (dd _) (dd _))) ?_
  refine WL.nil ?_
  refine WC.ifT rfl (decide_eq_true ((bad_or hb))) ?_
  refine WC.seq ?_
  refine WC.region ?_
  refine WL.r 1 rfl ?_
  refine WL.nil ?_
  refine WC.ret ?_
  refine ⟨[.int .i64 1], rfl, ?_⟩
  exact ⟨rfl, hS⟩
theorem set_add {g w : World} {L : List HP} (t m : Nat) (xs : List NB) (q : Nat) (s : ByteArray) (y : Int) (hv : okName (sb s)) (h0 : y ≠ 0) (hn : ∀ x : NB, x ∈ xs → x.name ≠ s) (hl : xs.length ≠ 256) (hS : St g (cel t #[.map (some m)] 62 :: blk m (.map (mE (List.map nbK xs)) q) :: Buns nbF xs :: L) w) :
    Sp Tryd.prog 12 [.pointer (some ⟨t, 0, none⟩), .string s, .int .u64 0, .int .u64 y] w (fun v w' => ∃ (b : Nat), v = .int .i64 0 ∧ St g (cel t #[.map (some m)] 62 :: blk m (.map (mE (List.map nbK (xs ++ [NB.mk s y [] b none 0 q]))) (q + 1)) :: Buns nbF (xs ++ [NB.mk s y [] b none 0 q]) :: L) w') := by
  refine Sp.enter Tryd.func12 rfl (by kernel_rfl) (by kernel_rfl) ?_
  refine WC.seq ?_
  refine WC.region ?_
  refine WL.r 1 rfl ?_
  refine WL.nil ?_
  refine WC.seq ?_
  refine WC.seq ?_
  refine WC.region ?_
  refine WL.r 1 rfl ?_
  refine WL.call rfl rfl (validName_spec (s := s)  (hS := hS)) rfl ?_
  clear hS; rintro _ w ⟨rfl, hS⟩
  replace hS : St g (cel t #[.map (some m)] 62 :: blk m (.map (mE (List.map nbK xs)) q) :: Buns nbF xs :: L) w := hS
  refine WL.r 1 rfl ?_
  refine WL.prop 15 rfl (bnot (dd _)) ?_
  refine WL.rG 8 rfl (fun j => ?_)
  refine WL.prop 23 rfl (bor (dd _) (band (dd _) (dd _))) ?_
  refine WL.nil ?_
  refine WC.ifF rfl (decide_eq_false ((fun h => h.elim (fun k => k hv) (fun k => h0 k.2)))) ?_
  refine WC.skip ?_
  refine WC.seq ?_
  refine WC.region ?_
  refine WL.r 2 rfl ?_
  refine WL.call rfl rfl (get_out (t := t) (m := m) (xs := xs) (q := q) (s := s) (hn := hn) (hS := hS)) rfl ?_
  clear hS; rintro _ w ⟨rfl, hS⟩
  replace hS : St g (cel t #[.map (some m)] 62 :: blk m (.map (mE (List.map nbK xs)) q) :: Buns nbF xs :: L) w := hS
  refine WL.r 5 rfl ?_
  refine WL.nil ?_
  as_aux_lemma =>
    refine WC.seq ?_
    refine WC.block ?_
    refine WC.seq ?_
    refine WC.region ?_
    refine WL.r 4 rfl ?_
    refine WL.nil ?_
    refine WC.ifF rfl (decide_eq_false ((fun h => h rfl))) ?_
    refine WC.seq ?_
    refine WC.region ?_
    refine WL.r 3 rfl ?_
    refine WL.reb 75 (.bool true) (congrArg Value.bool (decide_eq_true (by decide))) ?_
    refine WL.ung rfl rfl rfl ?_
    refine WL.r 1 rfl ?_
    refine WL.ung rfl rfl rfl ?_
    refine WL.r 1 rfl ?_
    refine WL.ung rfl rfl rfl ?_
    refine WL.r 1 rfl ?_
    refine WL.ung rfl rfl rfl ?_
    refine WL.run 1 [.map (some m)] rfl (by exact hS.ld 0 rfl rfl) ?_
    refine WL.ung rfl rfl rfl ?_
    refine WL.lenM rfl rfl mt_60 1 hS rfl rfl ?_
    refine WL.ung rfl rfl rfl ?_
    refine WL.r 3 rfl ?_
    refine WL.nil ?_
    refine WC.ifF rfl (decide_eq_false ((fun h => hl (by have h9 : ((Array.size (mE (List.map nbK xs)) : Nat) : Int) = 256 := h; rw [mE_size, List.length_map] at h9; omega)))) ?_
    refine WC.seq ?_
    refine WC.region ?_
    refine WL.r 3 rfl ?_
    refine WL.nil ?_
    as_aux_lemma =>
      refine WC.ifT rfl (by decide) ?_
      refine WC.region ?_
      refine WL.run 6 [.map (some m)] rfl (by exact hS.ld 0 rfl rfl) ?_
      refine WL.build rfl rfl (cs := [.int .u64 y, .slice none 0 0]) zv_65 rfl rfl ?_
      refine WL.box rfl rfl #[.int .u64 y, .slice none 0 0] hS rfl rfl (fun b1 w hS => ?_)
      refine WL.muN rfl rfl rfl mt_60 2 hS rfl rfl rfl rfl (by first | trivial | rfl) (nb_out hn) (fun w hS => ?_)
      replace hS : St g (cel b1 #[.int .u64 y, .slice none 0 0] 65 :: cel t #[.map (some m)] 62 :: blk m (.map (mE ((List.map nbK xs) ++ [⟨.string s, .pointer (some ⟨b1, 0, none⟩), q⟩])) (q + 1)) :: Buns nbF xs :: L) w := hS
      refine WL.nil ?_
      refine WC.seq ?_
      refine WC.region ?_
      refine WL.r 1 rfl ?_
      refine WL.nil ?_
      refine WC.ret ?_
      have hm : List.map nbK xs ++ [(.string s, .pointer (some ⟨b1, 0, none⟩), q)] = List.map nbK (xs ++ [(NB.mk s y [] b1 none 0 q)]) := by simp [nbK]
      rw [hm] at hS
      replace hS := St.bunSnoc (f := nbF) (z := (NB.mk s y [] b1 none 0 q)) ((hS.nil_ 31 1).sel 5 [1, 0, 2, 0, 0] rfl)
      replace hS : St g (Buns nbF (xs ++ [NB.mk s y [] b1 none 0 q]) :: cel t #[.map (some m)] 62 :: blk m (.map (mE (List.map nbK (xs ++ [NB.mk s y [] b1 none 0 q]))) (q + 1)) :: L) w := hS
      refine ⟨[.int .i64 0], rfl, ?_⟩
      replace hS := (hS.sel 3 [1, 1, 0] rfl)
      exact ⟨_, rfl, hS⟩
theorem set_staleO {g w : World} {L : List HP} (t m : Nat) (xs : List NB) (q : Nat) (s : ByteArray) (x y : Int) (hv : okName (sb s)) (h0 : x ≠ 0) (hn : ∀ x : NB, x ∈ xs → x.name ≠ s) (hS : St g (cel t #[.map (some m)] 62 :: blk m (.map (mE (List.map nbK xs)) q) :: Buns nbF xs :: L) w) :
    Sp Tryd.prog 12 [.pointer (some ⟨t, 0, none⟩), .string s, .int .u64 x, .int .u64 y] w (fun v w' => v = .int .i64 11 ∧ St g (cel t #[.map (some m)] 62 :: blk m (.map (mE (List.map nbK xs)) q) :: Buns nbF xs :: L) w') := by
  refine Sp.enter Tryd.func12 rfl (by kernel_rfl) (by kernel_rfl) ?_
  refine WC.seq ?_
  refine WC.region ?_
  refine WL.r 1 rfl ?_
  refine WL.nil ?_
  refine WC.seq ?_
  refine WC.seq ?_
  refine WC.region ?_
  refine WL.r 1 rfl ?_
  refine WL.call rfl rfl (validName_spec (s := s)  (hS := hS)) rfl ?_
  clear hS; rintro _ w ⟨rfl, hS⟩
  replace hS : St g (cel t #[.map (some m)] 62 :: blk m (.map (mE (List.map nbK xs)) q) :: Buns nbF xs :: L) w := hS
  refine WL.r 1 rfl ?_
  refine WL.prop 15 rfl (bnot (dd _)) ?_
  refine WL.rG 8 rfl (fun j => ?_)
  refine WL.prop 23 rfl (bor (dd _) (band (dd _) (dd _))) ?_
  refine WL.nil ?_
  refine WC.ifF rfl (decide_eq_false ((fun h => h.elim (fun k => k hv) (fun k => h0 k.1)))) ?_
  refine WC.skip ?_
  refine WC.seq ?_
  refine WC.region ?_
  refine WL.r 2 rfl ?_
  refine WL.call rfl rfl (get_out (t := t) (m := m) (xs := xs) (q := q) (s := s) (hn := hn) (hS := hS)) rfl ?_
  clear hS; rintro _ w ⟨rfl, hS⟩
  replace hS : St g (cel t #[.map (some m)] 62 :: blk m (.map (mE (List.map nbK xs)) q) :: Buns nbF xs :: L) w := hS
  refine WL.r 5 rfl ?_
  refine WL.nil ?_
  as_aux_lemma =>
    refine WC.seq ?_
    refine WC.block ?_
    refine WC.seq ?_
    refine WC.region ?_
    refine WL.r 4 rfl ?_
    refine WL.nil ?_
    refine WC.ifT rfl (decide_eq_true ((fun h => h0 h.symm))) ?_
    refine WC.seq ?_
    refine WC.region ?_
    refine WL.r 1 rfl ?_
    refine WL.nil ?_
    refine WC.ret ?_
    refine ⟨[.int .i64 11], rfl, ?_⟩
    exact ⟨rfl, hS⟩
theorem set_staleI {g w : World} {L : List HP} (t m : Nat) (xs : List NB) (q : Nat) (s : ByteArray) (x y : Int) (k : Nat) (z : NB) (hv : okName (sb s)) (h0 : ¬ (x = 0 ∧ y = 0)) (hz : xs[k]? = some z) (hn : z.name = s) (hu : Uniq xs) (hh : z.h ≠ x) (hS : St g (cel t #[.map (some m)] 62 :: blk m (.map (mE (List.map nbK xs)) q) :: Buns nbF xs :: L) w) :
    Sp Tryd.prog 12 [.pointer (some ⟨t, 0, none⟩), .string s, .int .u64 x, .int .u64 y] w (fun v w' => v = .int .i64 11 ∧ St g (cel t #[.map (some m)] 62 :: blk m (.map (mE (List.map nbK xs)) q) :: Buns nbF xs :: L) w') := by
  refine Sp.enter Tryd.func12 rfl (by kernel_rfl) (by kernel_rfl) ?_
  refine WC.seq ?_
  refine WC.region ?_
  refine WL.r 1 rfl ?_
  refine WL.nil ?_
  refine WC.seq ?_
  refine WC.seq ?_
  refine WC.region ?_
  refine WL.r 1 rfl ?_
  refine WL.call rfl rfl (validName_spec (s := s)  (hS := hS)) rfl ?_
  clear hS; rintro _ w ⟨rfl, hS⟩
  replace hS : St g (cel t #[.map (some m)] 62 :: blk m (.map (mE (List.map nbK xs)) q) :: Buns nbF xs :: L) w := hS
  refine WL.r 1 rfl ?_
  refine WL.prop 15 rfl (bnot (dd _)) ?_
  refine WL.rG 8 rfl (fun j => ?_)
  refine WL.prop 23 rfl (bor (dd _) (band (dd _) (dd _))) ?_
  refine WL.nil ?_
  refine WC.ifF rfl (decide_eq_false ((fun h => h.elim (fun k => k hv) h0))) ?_
  refine WC.skip ?_
  refine WC.seq ?_
  refine WC.region ?_
  refine WL.r 2 rfl ?_
  refine WL.call rfl rfl (get_in (t := t) (m := m) (xs := xs) (q := q) (s := s) (k := k) (x := z) (hx := hz) (hn := hn) (hu := hu) (hS := hS)) rfl ?_
  clear hS; rintro _ w ⟨rfl, hS⟩
  replace hS : St g (cel t #[.map (some m)] 62 :: blk m (.map (mE (List.map nbK xs)) q) :: Buns nbF xs :: L) w := hS
  refine WL.r 5 rfl ?_
  refine WL.nil ?_
  as_aux_lemma =>
    refine WC.seq ?_
    refine WC.block ?_
    refine WC.seq ?_
    refine WC.region ?_
    refine WL.r 4 rfl ?_
    refine WL.nil ?_
    refine WC.ifT rfl (decide_eq_true (hh)) ?_
    refine WC.seq ?_
    refine WC.region ?_
    refine WL.r 1 rfl ?_
    refine WL.nil ?_
    refine WC.ret ?_
    refine ⟨[.int .i64 11], rfl, ?_⟩
    exact ⟨rfl, hS⟩
theorem set_full {g w : World} {L : List HP} (t m : Nat) (xs : List NB) (q : Nat) (s : ByteArray) (y : Int) (hv : okName (sb s)) (h0 : y ≠ 0) (hn : ∀ x : NB, x ∈ xs → x.name ≠ s) (hl : xs.length = 256) (hS : St g (cel t #[.map (some m)] 62 :: blk m (.map (mE (List.map nbK xs)) q) :: Buns nbF xs :: L) w) :
    Sp Tryd.prog 12 [.pointer (some ⟨t, 0, none⟩), .string s, .int .u64 0, .int .u64 y] w (fun v w' => v = .int .i64 2 ∧ St g (cel t #[.map (some m)] 62 :: blk m (.map (mE (List.map nbK xs)) q) :: Buns nbF xs :: L) w') := by
  refine Sp.enter Tryd.func12 rfl (by kernel_rfl) (by kernel_rfl) ?_
  have _ := hl
  refine WC.seq ?_
  refine WC.region ?_
  refine WL.r 1 rfl ?_
  refine WL.nil ?_
  refine WC.seq ?_
  refine WC.seq ?_
  refine WC.region ?_
  refine WL.r 1 rfl ?_
  refine WL.call rfl rfl (validName_spec (s := s)  (hS := hS)) rfl ?_
  clear hS; rintro _ w ⟨rfl, hS⟩
  replace hS : St g (cel t #[.map (some m)] 62 :: blk m (.map (mE (List.map nbK xs)) q) :: Buns nbF xs :: L) w := hS
  refine WL.r 1 rfl ?_
  refine WL.prop 15 rfl (bnot (dd _)) ?_
  refine WL.rG 8 rfl (fun j => ?_)
  refine WL.prop 23 rfl (bor (dd _) (band (dd _) (dd _))) ?_
  refine WL.nil ?_
  refine WC.ifF rfl (decide_eq_false ((fun h => h.elim (fun k => k hv) (fun k => h0 k.2)))) ?_
  refine WC.skip ?_
  refine WC.seq ?_
  refine WC.region ?_
  refine WL.r 2 rfl ?_
  refine WL.call rfl rfl (get_out (t := t) (m := m) (xs := xs) (q := q) (s := s) (hn := hn) (hS := hS)) rfl ?_
  clear hS; rintro _ w ⟨rfl, hS⟩
  replace hS : St g (cel t #[.map (some m)] 62 :: blk m (.map (mE (List.map nbK xs)) q) :: Buns nbF xs :: L) w := hS
  refine WL.r 5 rfl ?_
  refine WL.nil ?_
  as_aux_lemma =>
    refine WC.seq ?_
    refine WC.block ?_
    refine WC.seq ?_
    refine WC.region ?_
    refine WL.r 4 rfl ?_
    refine WL.nil ?_
    refine WC.ifF rfl (decide_eq_false ((fun h => h rfl))) ?_
    refine WC.seq ?_
    refine WC.region ?_
    refine WL.r 3 rfl ?_
    refine WL.reb 75 (.bool true) (congrArg Value.bool (decide_eq_true (by decide))) ?_
    refine WL.ung rfl rfl rfl ?_
    refine WL.r 1 rfl ?_
    refine WL.ung rfl rfl rfl ?_
    refine WL.r 1 rfl ?_
    refine WL.ung rfl rfl rfl ?_
    refine WL.r 1 rfl ?_
    refine WL.ung rfl rfl rfl ?_
    refine WL.run 1 [.map (some m)] rfl (by exact hS.ld 0 rfl rfl) ?_
    refine WL.ung rfl rfl rfl ?_
    refine WL.lenM rfl rfl mt_60 1 hS rfl rfl ?_
    refine WL.ung rfl rfl rfl ?_
    refine WL.r 3 rfl ?_
    refine WL.nil ?_
    refine WC.ifT rfl (decide_eq_true ((show ((Array.size (mE (List.map nbK xs)) : Nat) : Int) = 256 by rw [mE_size, List.length_map]; omega))) ?_
    refine WC.seq ?_
    refine WC.region ?_
    refine WL.r 1 rfl ?_
    refine WL.nil ?_
    as_aux_lemma =>
      refine WC.ret ?_
      refine ⟨[.int .i64 2], rfl, ?_⟩
      exact ⟨rfl, hS⟩
theorem set_del {g w : World} {L : List HP} (t m : Nat) (xs : List NB) (q : Nat) (s : ByteArray) (x : Int) (k : Nat) (z : NB) (hv : okName (sb s)) (h0 : x ≠ 0) (hz : xs[k]? = some z) (hn : z.name = s) (hu : Uniq xs) (hh : z.h = x) (hS : St g (cel t #[.map (some m)] 62 :: blk m (.map (mE (List.map nbK xs)) q) :: Buns nbF xs :: L) w) :
    Sp Tryd.prog 12 [.pointer (some ⟨t, 0, none⟩), .string s, .int .u64 x, .int .u64 0] w (fun v w' => v = .int .i64 0 ∧ St g (cel t #[.map (some m)] 62 :: blk m (.map (mE (List.map nbK (xs.eraseIdx k))) q) :: Buns nbF (xs.eraseIdx k) :: L) w') := by
  refine Sp.enter Tryd.func12 rfl (by kernel_rfl) (by kernel_rfl) ?_
  refine WC.seq ?_
  refine WC.region ?_
  refine WL.r 1 rfl ?_
  refine WL.nil ?_
  refine WC.seq ?_
  refine WC.seq ?_
  refine WC.region ?_
  refine WL.r 1 rfl ?_
  refine WL.call rfl rfl (validName_spec (s := s)  (hS := hS)) rfl ?_
  clear hS; rintro _ w ⟨rfl, hS⟩
  replace hS : St g (cel t #[.map (some m)] 62 :: blk m (.map (mE (List.map nbK xs)) q) :: Buns nbF xs :: L) w := hS
  refine WL.r 1 rfl ?_
  refine WL.prop 15 rfl (bnot (dd _)) ?_
  refine WL.rG 8 rfl (fun j => ?_)
  refine WL.prop 23 rfl (bor (dd _) (band (dd _) (dd _))) ?_
  refine WL.nil ?_
  refine WC.ifF rfl (decide_eq_false ((fun h => h.elim (fun k => k hv) (fun k => h0 k.1)))) ?_
  refine WC.skip ?_
  refine WC.seq ?_
  refine WC.region ?_
  refine WL.r 2 rfl ?_
  refine WL.call rfl rfl (get_in (t := t) (m := m) (xs := xs) (q := q) (s := s) (k := k) (x := z) (hx := hz) (hn := hn) (hu := hu) (hS := hS)) rfl ?_
  clear hS; rintro _ w ⟨rfl, hS⟩
  replace hS : St g (cel t #[.map (some m)] 62 :: blk m (.map (mE (List.map nbK xs)) q) :: Buns nbF xs :: L) w := hS
  refine WL.r 5 rfl ?_
  refine WL.nil ?_
  as_aux_lemma =>
    refine WC.seq ?_
    refine WC.block ?_
    refine WC.seq ?_
    refine WC.region ?_
    refine WL.r 4 rfl ?_
    refine WL.nil ?_
    refine WC.ifF rfl (decide_eq_false ((fun h => h hh))) ?_
    refine WC.seq ?_
    refine WC.region ?_
    refine WL.r 3 rfl ?_
    refine WL.reb 75 (.bool false) (congrArg Value.bool (decide_eq_false (h0))) ?_
    refine WL.skp rfl rfl rfl rfl ?_
    refine WL.skp rfl rfl rfl rfl ?_
    refine WL.skp rfl rfl rfl rfl ?_
    refine WL.skp rfl rfl rfl rfl ?_
    refine WL.skp rfl rfl rfl rfl ?_
    refine WL.skp rfl rfl rfl rfl ?_
    refine WL.r 2 rfl ?_
    refine WL.nil ?_
    refine WC.ifF rfl rfl ?_
    refine WC.seq ?_
    refine WC.region ?_
    refine WL.r 3 rfl ?_
    refine WL.nil ?_
    refine WC.ifF rfl (decide_eq_false (h0)) ?_
    refine WC.seq ?_
    refine WC.region ?_
    refine WL.r 3 rfl ?_
    refine WL.nil ?_
    as_aux_lemma =>
      refine WC.ifT rfl (by decide) ?_
      refine WC.region ?_
      refine WL.run 5 [.map (some m)] rfl (by exact hS.ld 0 rfl rfl) ?_
      refine WL.del rfl rfl mt_60 1 hS rfl rfl rfl (by first | trivial | rfl) (j := k) (v := .pointer (some ⟨z.b, 0, none⟩)) (hn ▸ nb_in hz hu) (by rw [List.length_map]; exact (List.getElem?_eq_some_iff.1 hz).1) (fun w hS => ?_)
      replace hS : St g (cel t #[.map (some m)] 62 :: blk m (.map (mE (List.eraseIdx (List.map nbK xs) k)) q) :: Buns nbF xs :: L) w := hS
      refine WL.nil ?_
      refine WC.seq ?_
      refine WC.region ?_
      refine WL.r 1 rfl ?_
      refine WL.nil ?_
      refine WC.ret ?_
      rw [show (List.map nbK xs).eraseIdx k = List.map nbK (xs.eraseIdx k) by simp [List.eraseIdx_eq_take_drop_succ]] at hS
      replace hS := (St.bunGet (f := nbF) (hS.at_ 2 rfl) hz).sel 5 [3, 3, 2] rfl
      replace hS : St g (cel t #[.map (some m)] 62 :: blk m (.map (mE (List.map nbK (List.eraseIdx xs k))) q) :: Buns nbF (List.eraseIdx xs k) :: L) w := hS
      refine ⟨[.int .i64 0], rfl, ?_⟩
      exact ⟨rfl, hS⟩
theorem set_chg {g w : World} {L : List HP} (t m : Nat) (xs : List NB) (q : Nat) (s : ByteArray) (x y : Int) (k : Nat) (z : NB) (hv : okName (sb s)) (h0 : x ≠ 0) (hy : y ≠ 0) (hz : xs[k]? = some z) (hn : z.name = s) (hu : Uniq xs) (hh : z.h = x) (hlg : z.lg.length ≤ 16) (hS : St g (cel t #[.map (some m)] 62 :: blk m (.map (mE (List.map nbK xs)) q) :: Buns nbF xs :: L) w) :
    Sp Tryd.prog 12 [.pointer (some ⟨t, 0, none⟩), .string s, .int .u64 x, .int .u64 y] w (fun v w' => ∃ (a2 : Option Addr) (c2 : Nat), v = .int .i64 0 ∧ St g (cel t #[.map (some m)] 62 :: blk m (.map (mE (List.map nbK (List.set xs k (NB.mk z.name y (lgn z.lg x) z.b a2 c2 z.born)))) q) :: Buns nbF (List.set xs k (NB.mk z.name y (lgn z.lg x) z.b a2 c2 z.born)) :: L) w') := by
  refine Sp.enter Tryd.func12 rfl (by kernel_rfl) (by kernel_rfl) ?_
  have _ := hlg
  refine WC.seq ?_
  refine WC.region ?_
  refine WL.r 1 rfl ?_
  refine WL.nil ?_
  refine WC.seq ?_
  refine WC.seq ?_
  refine WC.region ?_
  refine WL.r 1 rfl ?_
  refine WL.call rfl rfl (validName_spec (s := s)  (hS := hS)) rfl ?_
  clear hS; rintro _ w ⟨rfl, hS⟩
  replace hS : St g (cel t #[.map (some m)] 62 :: blk m (.map (mE (List.map nbK xs)) q) :: Buns nbF xs :: L) w := hS
  refine WL.r 1 rfl ?_
  refine WL.prop 15 rfl (bnot (dd _)) ?_
  refine WL.rG 8 rfl (fun j => ?_)
  refine WL.prop 23 rfl (bor (dd _) (band (dd _) (dd _))) ?_
  refine WL.nil ?_
  refine WC.ifF rfl (decide_eq_false ((fun h => h.elim (fun k => k hv) (fun k => h0 k.1)))) ?_
  refine WC.skip ?_
  refine WC.seq ?_
  refine WC.region ?_
  refine WL.r 2 rfl ?_
  refine WL.call rfl rfl (get_in (t := t) (m := m) (xs := xs) (q := q) (s := s) (k := k) (x := z) (hx := hz) (hn := hn) (hu := hu) (hS := hS)) rfl ?_
  clear hS; rintro _ w ⟨rfl, hS⟩
  replace hS : St g (cel t #[.map (some m)] 62 :: blk m (.map (mE (List.map nbK xs)) q) :: Buns nbF xs :: L) w := hS
  refine WL.r 5 rfl ?_
  refine WL.nil ?_
  as_aux_lemma =>
    refine WC.seq ?_
    refine WC.block ?_
    refine WC.seq ?_
    refine WC.region ?_
    refine WL.r 4 rfl ?_
    refine WL.nil ?_
    refine WC.ifF rfl (decide_eq_false ((fun h => h hh))) ?_
    refine WC.seq ?_
    refine WC.region ?_
    refine WL.r 3 rfl ?_
    refine WL.reb 75 (.bool false) (congrArg Value.bool (decide_eq_false (h0))) ?_
    refine WL.skp rfl rfl rfl rfl ?_
    refine WL.skp rfl rfl rfl rfl ?_
    refine WL.skp rfl rfl rfl rfl ?_
    refine WL.skp rfl rfl rfl rfl ?_
    refine WL.skp rfl rfl rfl rfl ?_
    refine WL.skp rfl rfl rfl rfl ?_
    refine WL.r 2 rfl ?_
    refine WL.nil ?_
    refine WC.ifF rfl rfl ?_
    refine WC.seq ?_
    refine WC.region ?_
    refine WL.r 3 rfl ?_
    refine WL.nil ?_
    refine WC.ifF rfl (decide_eq_false (h0)) ?_
    refine WC.seq ?_
    refine WC.region ?_
    refine WL.r 3 rfl ?_
    refine WL.nil ?_
    as_aux_lemma =>
      refine WC.ifF rfl (decide_eq_false (hy)) ?_
      refine WC.seq ?_
      refine WC.region ?_
      refine WL.run 5 [.map (some m)] rfl (by exact hS.ld 0 rfl rfl) ?_
      refine WL.lk rfl rfl mt_60 1 hS rfl rfl rfl (by first | trivial | rfl) (r := some (k, .pointer (some ⟨z.b, 0, none⟩))) (hn ▸ nb_in hz hu) rfl ?_
      refine WL.r 1 rfl ?_
      refine WL.nil ?_
      refine WC.seq ?_
      refine WC.region ?_
      have hul := u64s_len z.lg; have hul2 := u64s_len (z.lg ++ [x]); have hul3 : (z.lg ++ [x]).length = z.lg.length + 1 := by simp
      replace hS := St.bunGet (hS.at_ 2 rfl) hz
      replace hS : St g (cel z.b #[.int .u64 z.h, .slice z.a (List.length (u64s z.lg)) z.c] 65 :: Own 31 1 (u64s z.lg) z.a z.c :: Buns nbF (List.eraseIdx xs k) :: cel t #[.map (some m)] 62 :: blk m (.map (mE (List.map nbK xs)) q) :: L) w := hS
      refine WL.run 6 [.slice z.a (List.length (u64s z.lg)) z.c] rfl (by exact hS.ld 0 rfl rfl) ?_
      refine WL.lit rfl rfl (u64s [x]) el_26 hS (by exact ⟨rfl, rfl⟩) (u64s_ok _) rfl (by decide) (fun b1 w hS => ?_)
      refine WL.app rfl rfl 2 (u64s (z.lg ++ [x])) el_26 hS rfl (hS.srcO 0 rfl) (u64s_app _ _).symm (Rm.of (by first | omega | (simp <;> omega)) (by decide)) rfl rfl (fun a1 c1 w hS => ?_)
      replace hS : St g (Own 31 1 (u64s [x]) (some ⟨b1, 0, none⟩) (List.length (u64s [x])) :: cel z.b #[.int .u64 z.h, .slice z.a (List.length (u64s z.lg)) z.c] 65 :: Own 31 1 (u64s (z.lg ++ [x])) a1 c1 :: Buns nbF (List.eraseIdx xs k) :: cel t #[.map (some m)] 62 :: blk m (.map (mE (List.map nbK xs)) q) :: L) w := hS
      refine WL.r 2 rfl ?_
      refine WL.st rfl rfl rfl 1 hS rfl rfl rfl rfl rfl rfl (fun w hS => ?_)
      replace hS : St g (Own 31 1 (u64s [x]) (some ⟨b1, 0, none⟩) (List.length (u64s [x])) :: cel z.b #[.int .u64 z.h, .slice a1 (List.length (u64s (z.lg ++ [x]))) c1] 65 :: Own 31 1 (u64s (z.lg ++ [x])) a1 c1 :: Buns nbF (List.eraseIdx xs k) :: cel t #[.map (some m)] 62 :: blk m (.map (mE (List.map nbK xs)) q) :: L) w := hS
      refine WL.nil ?_
      refine WC.seq ?_
      refine WC.seq ?_
      refine WC.region ?_
      refine WL.run 6 [.slice a1 (List.length (u64s (z.lg ++ [x]))) c1] rfl (by exact hS.ld 1 rfl rfl) ?_
      refine WL.nw 51 rfl (w64 (by omega)) ?_
      refine WL.r 1 rfl ?_
      refine WL.nil ?_
      as_aux_lemma =>
        refine WC.seq ?_
        refine WC.region ?_
        refine WL.r 2 rfl ?_
        refine WL.nil ?_
        refine WC.ifP rfl (fun cd1 => ?_) (fun cd1 => ?_)
        · refine WC.region ?_
          replace hS := (hS.at_ 2 rfl).share
          replace hS : St g (Sh 31 1 (u64s (z.lg ++ [x])) a1 c1 :: Own 31 1 (u64s [x]) (some ⟨b1, 0, none⟩) (List.length (u64s [x])) :: cel z.b #[.int .u64 z.h, .slice a1 (List.length (u64s (z.lg ++ [x]))) c1] 65 :: Buns nbF (List.eraseIdx xs k) :: cel t #[.map (some m)] 62 :: blk m (.map (mE (List.map nbK xs)) q) :: L) w := hS
          refine WL.run 6 [.slice a1 (List.length (u64s (z.lg ++ [x]))) c1] rfl (by exact hS.ld 2 rfl rfl) ?_
          refine WL.slLo rfl rfl (v := (List.length (u64s (z.lg ++ [x])) : Int) - 16) 0 (z.lg.length + 1 - 16) (u64s ((z.lg ++ [x]).drop (z.lg.length + 1 - 16))) el_26 hS rfl rfl rfl (by omega) (by omega) (u64s_drop _ _) (fun a2 hS => ?_)
          replace hS : St g (Sh 31 1 (u64s ((z.lg ++ [x]).drop ((List.length z.lg) + 1 - 16))) a2 (c1 - ((List.length z.lg) + 1 - 16)) :: Sh 31 1 (u64s (z.lg ++ [x])) a1 c1 :: Own 31 1 (u64s [x]) (some ⟨b1, 0, none⟩) (List.length (u64s [x])) :: cel z.b #[.int .u64 z.h, .slice a1 (List.length (u64s (z.lg ++ [x]))) c1] 65 :: Buns nbF (List.eraseIdx xs k) :: cel t #[.map (some m)] 62 :: blk m (.map (mE (List.map nbK xs)) q) :: L) w := hS
          refine WL.call rfl rfl (clone_sh (ls := (z.lg ++ [x]).drop ((List.length z.lg) + 1 - 16)) (a := a2) (c := c1 - ((List.length z.lg) + 1 - 16)) (hl := (by simp; omega)) (hS := hS)) rfl ?_
          clear hS; rintro _ w ⟨a3, c2, rfl, hS⟩
          replace hS : St g (Own 31 1 (u64s ((z.lg ++ [x]).drop ((List.length z.lg) + 1 - 16))) a3 c2 :: Sh 31 1 (u64s ((z.lg ++ [x]).drop ((List.length z.lg) + 1 - 16))) a2 (c1 - ((List.length z.lg) + 1 - 16)) :: Sh 31 1 (u64s (z.lg ++ [x])) a1 c1 :: Own 31 1 (u64s [x]) (some ⟨b1, 0, none⟩) (List.length (u64s [x])) :: cel z.b #[.int .u64 z.h, .slice a1 (List.length (u64s (z.lg ++ [x]))) c1] 65 :: Buns nbF (List.eraseIdx xs k) :: cel t #[.map (some m)] 62 :: blk m (.map (mE (List.map nbK xs)) q) :: L) w := hS
          refine WL.r 2 rfl ?_
          refine WL.st rfl rfl rfl 4 hS rfl rfl rfl rfl rfl rfl (fun w hS => ?_)
          replace hS : St g (Own 31 1 (u64s ((z.lg ++ [x]).drop ((List.length z.lg) + 1 - 16))) a3 c2 :: Sh 31 1 (u64s ((z.lg ++ [x]).drop ((List.length z.lg) + 1 - 16))) a2 (c1 - ((List.length z.lg) + 1 - 16)) :: Sh 31 1 (u64s (z.lg ++ [x])) a1 c1 :: Own 31 1 (u64s [x]) (some ⟨b1, 0, none⟩) (List.length (u64s [x])) :: cel z.b #[.int .u64 z.h, .slice a3 (List.length (u64s ((z.lg ++ [x]).drop ((List.length z.lg) + 1 - 16)))) c2] 65 :: Buns nbF (List.eraseIdx xs k) :: cel t #[.map (some m)] 62 :: blk m (.map (mE (List.map nbK xs)) q) :: L) w := hS
          refine WL.nil ?_
          refine WC.region ?_
          refine WL.r 4 rfl ?_
          refine WL.st rfl rfl rfl 4 hS rfl rfl rfl rfl rfl rfl (fun w hS => ?_)
          replace hS : St g (Own 31 1 (u64s ((z.lg ++ [x]).drop ((List.length z.lg) + 1 - 16))) a3 c2 :: Sh 31 1 (u64s ((z.lg ++ [x]).drop ((List.length z.lg) + 1 - 16))) a2 (c1 - ((List.length z.lg) + 1 - 16)) :: Sh 31 1 (u64s (z.lg ++ [x])) a1 c1 :: Own 31 1 (u64s [x]) (some ⟨b1, 0, none⟩) (List.length (u64s [x])) :: cel z.b #[.int .u64 y, .slice a3 (List.length (u64s ((z.lg ++ [x]).drop ((List.length z.lg) + 1 - 16)))) c2] 65 :: Buns nbF (List.eraseIdx xs k) :: cel t #[.map (some m)] 62 :: blk m (.map (mE (List.map nbK xs)) q) :: L) w := hS
          refine WL.nil ?_
          refine WC.seq ?_
          refine WC.region ?_
          refine WL.r 1 rfl ?_
          refine WL.nil ?_
          as_aux_lemma =>
            refine WC.ret ?_
            replace hS := St.bunPut (f := nbF) (k := k) (z := (NB.mk z.name y (lgn z.lg x) z.b a3 c2 z.born)) (hS.sel 8 [4, 0, 3, 3, 3] rfl) (List.getElem?_eq_some_iff.1 hz).1
            rw [← nb_same hz (z' := (NB.mk z.name y (lgn z.lg x) z.b a3 c2 z.born)) rfl] at hS
            replace hS : St g (Buns nbF (List.set xs k (NB.mk z.name y (lgn z.lg x) z.b a3 c2 z.born)) :: cel t #[.map (some m)] 62 :: blk m (.map (mE (List.map nbK (List.set xs k (NB.mk z.name y (lgn z.lg x) z.b a3 c2 z.born)))) q) :: L) w := hS
            refine ⟨[.int .i64 0], rfl, ?_⟩
            replace hS := (hS.sel 3 [1, 1, 0] rfl)
            exact ⟨_, _, rfl, hS⟩
        · refine WC.skip ?_
          refine WC.region ?_
          refine WL.r 4 rfl ?_
          refine WL.st rfl rfl rfl 1 hS rfl rfl rfl rfl rfl rfl (fun w hS => ?_)
          replace hS : St g (Own 31 1 (u64s [x]) (some ⟨b1, 0, none⟩) (List.length (u64s [x])) :: cel z.b #[.int .u64 y, .slice a1 (List.length (u64s (z.lg ++ [x]))) c1] 65 :: Own 31 1 (u64s (z.lg ++ [x])) a1 c1 :: Buns nbF (List.eraseIdx xs k) :: cel t #[.map (some m)] 62 :: blk m (.map (mE (List.map nbK xs)) q) :: L) w := hS
          refine WL.nil ?_
          refine WC.seq ?_
          refine WC.region ?_
          refine WL.r 1 rfl ?_
          refine WL.nil ?_
          refine WC.ret ?_
          rw [← lgn_few (l := z.lg) (x := x) (by omega)] at hS
          replace hS := St.bunPut (f := nbF) (k := k) (z := (NB.mk z.name y (lgn z.lg x) z.b a1 c1 z.born)) (hS.sel 6 [1, 1, 1, 1, 1] rfl) (List.getElem?_eq_some_iff.1 hz).1
          rw [← nb_same hz (z' := (NB.mk z.name y (lgn z.lg x) z.b a1 c1 z.born)) rfl] at hS
          replace hS : St g (Buns nbF (List.set xs k (NB.mk z.name y (lgn z.lg x) z.b a1 c1 z.born)) :: cel t #[.map (some m)] 62 :: blk m (.map (mE (List.map nbK (List.set xs k (NB.mk z.name y (lgn z.lg x) z.b a1 c1 z.born)))) q) :: L) w := hS
          refine ⟨[.int .i64 0], rfl, ?_⟩
          replace hS := (hS.sel 3 [1, 1, 0] rfl)
          exact ⟨_, _, rfl, hS⟩
end Go.Proofs.YtenkmjbghbegfaaDoor
