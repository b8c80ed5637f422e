/-
  Lists of words: clones, reversed; the log of a name.
  Conditions: lengths below a bound.
-/
import Derived.Test.YtenkmjbghbegfaaDoorNm1
namespace Go.Proofs.YtenkmjbghbegfaaDoor
open Go Go.V

theorem clone_own {g w : World} {L : List HP} (ls : List Int) (a : Option Addr) (c : Nat) (hl : ls.length ≤ 1000000) (hS : St g (Own 31 1 (u64s ls) a c :: L) w) :
    Sp Tryd.prog 30 [.slice a (List.length (u64s ls)) c] w (fun v w' => ∃ (a2 : Option Addr) (c2 : Nat), v = .slice a2 (List.length (u64s ls)) c2 ∧ St g (Own 31 1 (u64s ls) a2 c2 :: Own 31 1 (u64s ls) a c :: L) w') := by
  refine Sp.enter Tryd.func30 rfl (by kernel_rfl) (by kernel_rfl) ?_
  have _ := hl
  refine WC.seq ?_
  refine WC.region ?_
  refine WL.r 1 rfl ?_
  refine WL.nil ?_
  refine WC.seq ?_
  refine WC.seq ?_
  refine WC.region ?_
  refine WL.r 1 rfl ?_
  refine WL.eqN rfl rfl el_26 rfl rfl ?_
  refine WL.nil ?_
  refine WC.if_ rfl (fun cd1 => ?_) (fun cd1 => ?_)
  · refine WC.seq ?_
    refine WC.region ?_
    refine WL.r 1 rfl ?_
    refine WL.nil ?_
    refine WC.ret ?_
    refine ⟨[.slice none 0 0], rfl, ?_⟩
    replace hS := hS.nil_ 31 1
    cases a with
    | some _ => cases cd1
    | none =>
      have h0 : ls = [] := by simpa [u64s] using hS.nilLO 1 rfl
      subst h0; exact ⟨_, _, rfl, hS⟩
  · refine WC.skip ?_
    refine WC.seq ?_
    refine WC.region ?_
    refine WL.lit rfl rfl ([]) el_26 hS (by exact trivial) (by simp [OkE, Value.oneCell']) rfl (by decide) (fun b1 w hS => ?_)
    refine WL.r 1 rfl ?_
    refine WL.app rfl rfl 0 (u64s ls) el_26 hS rfl (hS.srcO 1 rfl) (List.nil_append _) (Rm.of (by first | omega | (simp <;> omega)) (by decide)) rfl rfl (fun a1 c1 w hS => ?_)
    replace hS : St g (Own 31 1 (u64s ls) a1 c1 :: Own 31 1 (u64s ls) a c :: L) w := hS
    refine WL.r 1 rfl ?_
    refine WL.nil ?_
    refine WC.ret ?_
    refine ⟨[.slice a1 (List.length (u64s ls)) c1], rfl, ?_⟩
    exact ⟨_, _, rfl, hS⟩
theorem clone_sh {g w : World} {L : List HP} (ls : List Int) (a : Option Addr) (c : Nat) (hl : ls.length ≤ 1000000) (hS : St g (Sh 31 1 (u64s ls) a c :: L) w) :
    Sp Tryd.prog 30 [.slice a (List.length (u64s ls)) c] w (fun v w' => ∃ (a2 : Option Addr) (c2 : Nat), v = .slice a2 (List.length (u64s ls)) c2 ∧ St g (Own 31 1 (u64s ls) a2 c2 :: Sh 31 1 (u64s ls) a c :: L) w') := by
  refine Sp.enter Tryd.func30 rfl (by kernel_rfl) (by kernel_rfl) ?_
  have _ := hl
  refine WC.seq ?_
  refine WC.region ?_
  refine WL.r 1 rfl ?_
  refine WL.nil ?_
  refine WC.seq ?_
  refine WC.seq ?_
  refine WC.region ?_
  refine WL.r 1 rfl ?_
  refine WL.eqN rfl rfl el_26 rfl rfl ?_
  refine WL.nil ?_
  refine WC.if_ rfl (fun cd1 => ?_) (fun cd1 => ?_)
  · refine WC.seq ?_
    refine WC.region ?_
    refine WL.r 1 rfl ?_
    refine WL.nil ?_
    refine WC.ret ?_
    refine ⟨[.slice none 0 0], rfl, ?_⟩
    replace hS := hS.nil_ 31 1
    cases a with
    | some _ => cases cd1
    | none =>
      have h0 : ls = [] := by simpa [u64s] using hS.nilLS 1 rfl
      subst h0; exact ⟨_, _, rfl, hS⟩
  · refine WC.skip ?_
    refine WC.seq ?_
    refine WC.region ?_
    refine WL.lit rfl rfl ([]) el_26 hS (by exact trivial) (by simp [OkE, Value.oneCell']) rfl (by decide) (fun b1 w hS => ?_)
    refine WL.r 1 rfl ?_
    refine WL.app rfl rfl 0 (u64s ls) el_26 hS rfl (hS.srcS 1 rfl) (List.nil_append _) (Rm.of (by first | omega | (simp <;> omega)) (by decide)) rfl rfl (fun a1 c1 w hS => ?_)
    replace hS : St g (Own 31 1 (u64s ls) a1 c1 :: Sh 31 1 (u64s ls) a c :: L) w := hS
    refine WL.r 1 rfl ?_
    refine WL.nil ?_
    refine WC.ret ?_
    refine ⟨[.slice a1 (List.length (u64s ls)) c1], rfl, ?_⟩
    exact ⟨_, _, rfl, hS⟩
theorem reverse_spec {g w : World} {L : List HP} (ls : List Int) (a : Option Addr) (c : Nat) (hl : ls.length ≤ 1000000) (hS : St g (Own 31 1 (u64s ls) a c :: L) w) :
    Sp Tryd.prog 31 [.slice a (List.length (u64s ls)) c] w (fun v w' => v = .tuple #[] ∧ St g (Own 31 1 (u64s ls.reverse) a c :: L) w') := by
  refine Sp.enter Tryd.func31 rfl (by kernel_rfl) (by kernel_rfl) ?_
  have _ := hl
  refine WC.seq ?_
  refine WC.region ?_
  have hul := u64s_len ls
  refine WL.r 3 rfl ?_
  refine WL.nw 6 rfl (w64 (by omega)) ?_
  refine WL.r 2 rfl ?_
  refine WL.nil ?_
  refine WC.block ?_
  refine WC.loop [0, 2, 3] (fun kM vs w => ∃ (k : Nat) (ms : List Int) (jj : Int), vs = [.slice a (List.length (u64s ls)) c, .int .i64 (k : Int), .int .i64 jj] ∧ St g (Own 31 1 (u64s ms) a c :: L) w ∧ (2 * k ≤ ls.length) ∧ (jj = (ls.length : Int) - 1 - k) ∧ (ms.length = ls.length) ∧ (∀ q, q < ls.length → ms[q]? = if q < k ∨ ls.length ≤ q + k then ls.reverse[q]? else ls[q]?) ∧ (ls.length - k) = kM) ((List.length ls) - 0) ⟨0, ls, ((u64s ls).length : Int) - 1, rfl, hS, (Nat.zero_le _), (by omega), (rfl), (fun q hq => by rw [if_neg (by omega)]), rfl⟩ ?_
  clear hS; rintro _ _ w j ⟨k, ms, jj, rfl, hS, hk, hj, hm, hr, rfl⟩
  refine WC.seq ?_
  refine WC.seq ?_
  refine WC.region ?_
  have hul := u64s_len ls
  refine WL.r 3 rfl ?_
  refine WL.nil ?_
  refine WC.ifP rfl (fun cd1 => ?_) (fun cd1 => ?_)
  · refine WC.skip ?_
    refine WC.seq ?_
    refine WC.block ?_
    refine WC.plan [([0, 1, 2, 3, 4, 5, 8, 9, 6, 10, 7, 11, 12], some (13, [2, 3])), ([14], some (15, []))] (by kernel_rfl) (by kernel_rfl) ?_
    refine WQ.r 8 rfl ?_
    obtain ⟨x, hx⟩ : ∃ x, ms[k]? = some x := ⟨_, List.getElem?_eq_getElem (by omega)⟩; obtain ⟨y, hy⟩ : ∃ y, ms[ls.length - 1 - k]? = some y := ⟨_, List.getElem?_eq_getElem (by omega)⟩; have hy2 : (ms.set k y)[ls.length - 1 - k]? = some y := by rw [List.getElem?_set_ne (by omega)]; exact hy
    refine WQ.ix rfl rfl (i := jj) (ls.length - 1 - k) el_26 rfl rfl (by omega) (by omega) (hS.rdO 0 rfl (u64s_at hy)).1 ?_
    refine WQ.ix rfl rfl (i := (k : Int)) (k) el_26 rfl rfl (by omega) (by omega) (hS.rdO 0 rfl (u64s_at hx)).1 ?_
    refine WQ.run 2 [.int .u64 y, .int .u64 x] rfl (by exact ⟨(hS.rdO 0 rfl (u64s_at hy)).2 0 _ rfl, (hS.rdO 0 rfl (u64s_at hx)).2 0 _ rfl⟩) ?_
    refine WQ.ix rfl rfl (i := (k : Int)) (k) el_26 rfl rfl (by omega) (by omega) (hS.rdO 0 rfl (u64s_at hx)).1 ?_
    refine WQ.nil ?_
    intro m1
    replace hS := hS.drewN m1; generalize hwm1 : World.drewN _ _ = w at *; clear hwm1
    refine WL.stE rfl rfl rfl 0 (k) 0 [.int .u64 x] (u64s (ms.set k y)) hS rfl (u64s_at hx) rfl rfl rfl rfl rfl (u64s_set _ _ _) (fun w hS => ?_)
    replace hS : St g (Own 31 1 (u64s (ms.set k y)) a c :: L) w := hS
    refine WL.nil ?_
    refine ⟨by exact ⟨RQ.pure rfl rfl rfl rfl, RQ.pure rfl rfl rfl rfl⟩, ?_⟩
    refine WQ.ix rfl rfl (i := jj) (ls.length - 1 - k) el_26 rfl rfl (by omega) (by omega) (hS.rdO 0 rfl (u64s_at hy2)).1 ?_
    refine WQ.nil ?_
    intro m2
    replace hS := hS.drewN m2; generalize hwm2 : World.drewN _ _ = w at *; clear hwm2
    refine WL.stE rfl rfl rfl 0 ((List.length ls) - 1 - k) 0 [.int .u64 y] (u64s ((ms.set k y).set (ls.length - 1 - k) x)) hS rfl (u64s_at hy2) rfl rfl rfl rfl rfl (u64s_set _ _ _) (fun w hS => ?_)
    replace hS : St g (Own 31 1 (u64s ((ms.set k y).set ((List.length ls) - 1 - k) x)) a c :: L) w := hS
    refine WL.nil ?_
    refine ⟨by exact trivial, ?_⟩
    intro m3
    replace hS := hS.drewN m3; generalize hwm3 : World.drewN _ _ = w at *; clear hwm3
    as_aux_lemma =>
      refine WC.region ?_
      refine WL.r 2 rfl ?_
      refine WL.nw 11 rfl (w64 (by omega)) ?_
      refine WL.r 2 rfl ?_
      refine WL.nw 13 rfl (w64 (by omega)) ?_
      refine WL.r 2 rfl ?_
      refine WL.nil ?_
      exact ⟨_, by omega, k + 1, (ms.set k y).set (ls.length - 1 - k) x, jj - 1, rfl, hS, (by omega), (by omega), (by simp [hm]), (rev_step (by omega) hm hr hx hy), rfl⟩
  · refine WC.exit ?_
    refine ⟨[], trivial, ?_⟩
    obtain rfl : ms = ls.reverse := rev_end (by omega) (by omega) hm hr
    exact ⟨rfl, hS⟩
theorem log_in {g w : World} {L : List HP} (t m : Nat) (xs : List NB) (q : Nat) (s : ByteArray) (k : Nat) (x : NB) (hx : xs[k]? = some x) (hn : x.name = s) (hu : Uniq xs) (hl : x.lg.length ≤ 1000000) (hS : St g (cel t #[.map (some m)] 62 :: blk m (.map (mE (List.map nbK xs)) q) :: Buns nbF xs :: L) w) :
    Sp Tryd.prog 14 [.pointer (some ⟨t, 0, none⟩), .string s] w (fun v w' => ∃ (a2 : Option Addr) (c2 : Nat), v = .slice a2 (List.length (u64s x.lg.reverse)) c2 ∧ St g (Own 31 1 (u64s x.lg.reverse) a2 c2 :: cel t #[.map (some m)] 62 :: blk m (.map (mE (List.map nbK xs)) q) :: Buns nbF xs :: L) w') := by
  refine Sp.enter Tryd.func14 rfl (by kernel_rfl) (by kernel_rfl) ?_
  refine WC.seq ?_
  refine WC.region ?_
  refine WL.r 1 rfl ?_
  refine WL.nil ?_
  refine WC.seq ?_
  refine WC.region ?_
  refine WL.run 5 [.map (some m)] rfl (by exact hS.ld 0 rfl rfl) ?_
  refine WL.lk rfl rfl mt_60 1 hS rfl rfl rfl (by first | trivial | rfl) (r := some (k, .pointer (some ⟨x.b, 0, none⟩))) (hn ▸ nb_in hx hu) rfl ?_
  refine WL.r 5 rfl ?_
  refine WL.nil ?_
  refine WC.seq ?_
  refine WC.seq ?_
  refine WC.region ?_
  refine WL.r 2 rfl ?_
  refine WL.nil ?_
  refine WC.ifF rfl rfl ?_
  refine WC.skip ?_
  refine WC.seq ?_
  refine WC.region ?_
  replace hS := St.bunGet (hS.at_ 2 rfl) hx
  replace hS : St g (cel x.b #[.int .u64 x.h, .slice x.a (List.length (u64s x.lg)) x.c] 65 :: Own 31 1 (u64s x.lg) x.a x.c :: Buns nbF (List.eraseIdx xs k) :: cel t #[.map (some m)] 62 :: blk m (.map (mE (List.map nbK xs)) q) :: L) w := hS
  refine WL.run 4 [.slice x.a (List.length (u64s x.lg)) x.c] rfl (by exact hS.ld 0 rfl rfl) ?_
  refine WL.call rfl rfl (clone_own (ls := x.lg) (a := x.a) (c := x.c) (hl := hl) (hS := (hS.sel 2 [1, 0] rfl))) rfl ?_
  clear hS; rintro _ w ⟨a1, c1, rfl, hS⟩
  replace hS : St g (Own 31 1 (u64s x.lg) a1 c1 :: Own 31 1 (u64s x.lg) x.a x.c :: cel x.b #[.int .u64 x.h, .slice x.a (List.length (u64s x.lg)) x.c] 65 :: Buns nbF (List.eraseIdx xs k) :: cel t #[.map (some m)] 62 :: blk m (.map (mE (List.map nbK xs)) q) :: L) w := hS
  refine WL.r 1 rfl ?_
  refine WL.nil ?_
  as_aux_lemma =>
    refine WC.seq ?_
    refine WC.region ?_
    refine WL.r 1 rfl ?_
    refine WL.call rfl rfl (reverse_spec (ls := x.lg) (a := a1) (c := c1) (hl := hl) (hS := hS)) rfl ?_
    clear hS; rintro _ w ⟨rfl, hS⟩
    replace hS : St g (Own 31 1 (u64s x.lg.reverse) a1 c1 :: Own 31 1 (u64s x.lg) x.a x.c :: cel x.b #[.int .u64 x.h, .slice x.a (List.length (u64s x.lg)) x.c] 65 :: Buns nbF (List.eraseIdx xs k) :: cel t #[.map (some m)] 62 :: blk m (.map (mE (List.map nbK xs)) q) :: L) w := hS
    refine WL.nil ?_
    refine WC.seq ?_
    refine WC.region ?_
    refine WL.reb 7 (.slice a1 (u64s x.lg.reverse).length c1) (congrArg (fun m => Value.slice a1 m c1) (by simp)) ?_
    refine WL.r 2 rfl ?_
    refine WL.nil ?_
    refine WC.ret ?_
    replace hS := St.bunBack (f := nbF) (z := x) (hS.sel 6 [2, 1, 1, 0, 0, 0] rfl) hx
    replace hS : St g (Buns nbF xs :: Own 31 1 (u64s x.lg.reverse) a1 c1 :: cel t #[.map (some m)] 62 :: blk m (.map (mE (List.map nbK xs)) q) :: L) w := hS
    refine ⟨[.slice a1 (List.length (u64s x.lg.reverse)) c1], rfl, ?_⟩
    replace hS := (hS.sel 4 [1, 1, 1, 0] rfl)
    exact ⟨_, _, rfl, hS⟩

theorem log_out {g w : World} {L : List HP} (t m : Nat) (xs : List NB) (q : Nat) (s : ByteArray) (hn : ∀ x : NB, x ∈ xs → x.name ≠ s) (hS : St g (cel t #[.map (some m)] 62 :: blk m (.map (mE (List.map nbK xs)) q) :: Buns nbF xs :: L) w) :
    Sp Tryd.prog 14 [.pointer (some ⟨t, 0, none⟩), .string s] w (fun v w' => v = .slice none 0 0 ∧ St g (cel t #[.map (some m)] 62 :: blk m (.map (mE (List.map nbK xs)) q) :: Buns nbF xs :: L) w') := by
  refine Sp.enter Tryd.func14 rfl (by kernel_rfl) (by kernel_rfl) ?_
  refine WC.seq ?_
  refine WC.region ?_
  refine WL.r 1 rfl ?_
  refine WL.nil ?_
  refine WC.seq ?_
  refine WC.region ?_
  refine WL.run 5 [.map (some m)] rfl (by exact hS.ld 0 rfl rfl) ?_
  refine WL.lk rfl rfl mt_60 1 hS rfl rfl rfl (by first | trivial | rfl) (r := none) (nb_out hn) rfl ?_
  refine WL.r 5 rfl ?_
  refine WL.nil ?_
  refine WC.seq ?_
  refine WC.seq ?_
  refine WC.region ?_
  refine WL.r 2 rfl ?_
  refine WL.nil ?_
  refine WC.ifT rfl rfl ?_
  refine WC.seq ?_
  refine WC.region ?_
  refine WL.r 1 rfl ?_
  refine WL.nil ?_
  refine WC.ret ?_
  refine ⟨[.slice none 0 0], rfl, ?_⟩
  exact ⟨rfl, hS⟩
end Go.Proofs.YtenkmjbghbegfaaDoor
