/-
  The table of names: Set, Get and Log of any name.
  Conditions: the table is one.
-/
import Derived.Test.YtenkmjbghbegfaaDoorSet
import Derived.Test.YtenkmjbghbegfaaDoorFi
namespace Go.Proofs.YtenkmjbghbegfaaDoor
open Go Go.V

theorem get_of_in {xs : List NB} {k : Nat} {z : NB} {s : ByteArray} (hz : xs[k]? = some z) (hn : z.name = s) (hu : Uniq xs) : getH (List.map ab xs) s = z.h ∧ getB (List.map ab xs) s = true ∧ logM (List.map ab xs) s = z.lg.reverse := by
  subst hn
  simp [getH, getB, logM, fnd_in hz hu, ab]
theorem get_of_out {xs : List NB} {s : ByteArray} (hn : ∀ x : NB, x ∈ xs → x.name ≠ s) : getH (List.map ab xs) s = 0 ∧ getB (List.map ab xs) s = false ∧ logM (List.map ab xs) s = [] := by
  simp [getH, getB, logM, fnd_out hn]
theorem get_any {g w : World} {L : List HP} (t m : Nat) (xs : List NB) (q : Nat) (s : ByteArray) (ht : TOk xs q) (hS : St g (cel t #[.map (some m)] 62 :: blk m (.map (mE (List.map nbK xs)) q) :: Buns nbF xs :: L) w) :
    Sp Tryd.prog 18 [.pointer (some ⟨t, 0, none⟩), .string s] w (fun v w' => v = .tuple #[.int .u64 (getH (List.map ab xs) s), .bool (getB (List.map ab xs) s)] ∧ St g (cel t #[.map (some m)] 62 :: blk m (.map (mE (List.map nbK xs)) q) :: Buns nbF xs :: L) w') := by
  rcases nb_cases xs s with ⟨k, z, hz, hn⟩ | hn
  · obtain ⟨h1, h2, _⟩ := get_of_in hz hn ht.uniq
    rw [h1, h2]
    exact get_in t m xs q s k z hz hn ht.uniq hS
  · obtain ⟨h1, h2, _⟩ := get_of_out hn
    rw [h1, h2]
    exact get_out t m xs q s hn hS
theorem log_any {g w : World} {L : List HP} (t m : Nat) (xs : List NB) (q : Nat) (s : ByteArray) (ht : TOk xs q) (hS : St g (cel t #[.map (some m)] 62 :: blk m (.map (mE (List.map nbK xs)) q) :: Buns nbF xs :: L) w) :
    Sp Tryd.prog 14 [.pointer (some ⟨t, 0, none⟩), .string s] w (fun v w' => ∃ (a2 : Option Addr) (c2 : Nat), v = .slice a2 (List.length (u64s (logM (List.map ab xs) s))) c2 ∧ St g (Own 31 1 (u64s (logM (List.map ab xs) s)) a2 c2 :: cel t #[.map (some m)] 62 :: blk m (.map (mE (List.map nbK xs)) q) :: Buns nbF xs :: L) w') := by
  rcases nb_cases xs s with ⟨k, z, hz, hn⟩ | hn
  · obtain ⟨_, _, h3⟩ := get_of_in hz hn ht.uniq
    rw [h3]
    exact log_in t m xs q s k z hz hn ht.uniq (Nat.le_trans (ht.lgs z (List.mem_of_getElem? hz)) (by decide)) hS
  · obtain ⟨_, _, h3⟩ := get_of_out hn
    rw [h3]
    refine (log_out t m xs q s hn hS).mono fun v w' ⟨hv, hS'⟩ => ⟨none, 0, hv, ?_⟩
    exact hS'.nil_ _ _
theorem set_any {g w : World} {L : List HP} (t m : Nat) (xs : List NB) (q : Nat) (s : ByteArray) (x y : Int) (ht : TOk xs q) (hS : St g (cel t #[.map (some m)] 62 :: blk m (.map (mE (List.map nbK xs)) q) :: Buns nbF xs :: L) w) :
    Sp Tryd.prog 12 [.pointer (some ⟨t, 0, none⟩), .string s, .int .u64 x, .int .u64 y] w (fun v w' => ∃ (xs2 : List NB) (q2 : Nat), v = .int .i64 (setM (List.map ab xs) s x y).1 ∧ St g (cel t #[.map (some m)] 62 :: blk m (.map (mE (List.map nbK xs2)) q2) :: Buns nbF xs2 :: L) w' ∧ (TOk xs2 q2) ∧ (List.map ab xs2 = (setM (List.map ab xs) s x y).2)) := by
  by_cases hb : okName (sb s) ∧ ¬ (x = 0 ∧ y = 0)
  · rcases nb_cases xs s with ⟨k, z, hz, hn⟩ | hn
    · obtain ⟨h1, h2, _⟩ := get_of_in hz hn ht.uniq
      by_cases hh : z.h = x
      · have h0 : x ≠ 0 := hh ▸ ht.nz z (List.mem_of_getElem? hz)
        have he : setM (List.map ab xs) s x y = (0, if y = 0 then remM (List.map ab xs) s else chgM (List.map ab xs) s x y) := by
          unfold setM
          rw [if_neg (fun h => h hb), h1, if_neg (fun h => h hh), h2, if_pos rfl]
        rw [he]
        by_cases hy : y = 0
        · subst hy
          rw [if_pos rfl]
          exact (set_del t m xs q s x k z hb.1 h0 hz hn ht.uniq hh hS).mono fun v w' ⟨hv, hS'⟩ => ⟨_, _, hv, hS', ht.rem k, by subst hn; exact rem_ab hz ht.uniq⟩
        · rw [if_neg hy]
          have hl := ht.lgs z (List.mem_of_getElem? hz)
          exact (set_chg t m xs q s x y k z hb.1 h0 hy hz hn ht.uniq hh hl hS).mono fun v w' ⟨a2, c2, hv, hS'⟩ => ⟨_, _, hv, hS', ht.chg hz rfl rfl (lgn_len hl) hy, by subst hn; exact chg_ab hz ht.uniq rfl⟩
      · have he : setM (List.map ab xs) s x y = (11, List.map ab xs) := by
          unfold setM
          rw [if_neg (fun h => h hb), h1, if_pos hh]
        rw [he]
        exact (set_staleI t m xs q s x y k z hb.1 hb.2 hz hn ht.uniq hh hS).mono fun v w' ⟨hv, hS'⟩ => ⟨_, _, hv, hS', ht, rfl⟩
    · obtain ⟨h1, h2, _⟩ := get_of_out hn
      by_cases hx : x = 0
      · subst hx
        have hy : y ≠ 0 := fun h => hb.2 ⟨rfl, h⟩
        by_cases hl : xs.length = 256
        · have he : setM (List.map ab xs) s 0 y = (2, List.map ab xs) := by
            unfold setM
            rw [if_neg (fun h => h hb), h1, if_neg (fun h => h rfl), h2, if_neg (by decide), List.length_map, if_pos hl]
          rw [he]
          exact (set_full t m xs q s y hb.1 hy hn hl hS).mono fun v w' ⟨hv, hS'⟩ => ⟨_, _, hv, hS', ht, rfl⟩
        · have he : setM (List.map ab xs) s 0 y = (0, List.map ab xs ++ [(s, y, [])]) := by
            unfold setM
            rw [if_neg (fun h => h hb), h1, if_neg (fun h => h rfl), h2, if_neg (by decide), List.length_map, if_neg hl]
          rw [he]
          exact (set_add t m xs q s y hb.1 hy hn hl hS).mono fun v w' ⟨b, hv, hS'⟩ => ⟨_, _, hv, hS', ht.add hb.1 hy hn hl, by simp [ab]⟩
      · have he : setM (List.map ab xs) s x y = (11, List.map ab xs) := by
          unfold setM
          rw [if_neg (fun h => h hb), h1, if_pos (fun h => hx h.symm)]
        rw [he]
        exact (set_staleO t m xs q s x y hb.1 hx hn hS).mono fun v w' ⟨hv, hS'⟩ => ⟨_, _, hv, hS', ht, rfl⟩
  · have he : setM (List.map ab xs) s x y = (1, List.map ab xs) := by
      unfold setM
      rw [if_pos hb]
    rw [he]
    exact (set_bad t m xs q s x y hb hS).mono fun v w' ⟨hv, hS'⟩ => ⟨_, _, hv, hS', ht, rfl⟩
theorem sameN {g w : World} {L : List HP} (xs ys : List (ByteArray × Int)) (a b : Option Addr) (c d : Nat) (hl : xs.length ≤ 1000000000) (hS : St g (Sh 48 2 (nhs xs) a c :: Sh 48 2 (nhs ys) b d :: L) w) :
    Sp Tryd.prog 20 [.slice a (List.length (nhs xs)) c, .slice b (List.length (nhs ys)) d] w (fun v w' => ∃ (ok : Bool), v = .bool ok ∧ St g (Sh 48 2 (nhs xs) a c :: Sh 48 2 (nhs ys) b d :: L) w' ∧ (ok = true ↔ xs = ys)) := by
  refine Sp.enter Tryd.func20 rfl (by kernel_rfl) (by kernel_rfl) ?_
  have _ := hl
  refine WC.seq ?_
  refine WC.region ?_
  refine WL.r 1 rfl ?_
  refine WL.nil ?_
  refine WC.seq ?_
  refine WC.seq ?_
  refine WC.region ?_
  have h1 := nhs_len xs; have h2 := nhs_len ys
  refine WL.r 5 rfl ?_
  refine WL.nil ?_
  refine WC.ifP rfl (fun cd1 => ?_) (fun cd1 => ?_)
  · refine WC.seq ?_
    refine WC.region ?_
    refine WL.r 1 rfl ?_
    refine WL.nil ?_
    refine WC.ret ?_
    refine ⟨[.bool false], rfl, ?_⟩
    exact ⟨_, rfl, hS, ⟨fun h => (by cases h), fun h => by rw [h1, h2, h] at cd1; exact absurd rfl cd1⟩⟩
  · refine WC.skip ?_
    refine WC.seq ?_
    refine WC.seq ?_
    refine WC.region ?_
    refine WL.r 1 rfl ?_
    refine WL.nil ?_
    refine WC.block ?_
    refine WC.loop [0, 1, 5] (fun kM vs w => ∃ (k : Nat), vs = [.slice a (List.length (nhs xs)) c, .slice b (List.length (nhs ys)) d, .int .i64 (k : Int)] ∧ St g (Sh 48 2 (nhs xs) a c :: Sh 48 2 (nhs ys) b d :: L) w ∧ (k ≤ xs.length) ∧ (xs.take k = ys.take k) ∧ (xs.length - k) = kM) ((List.length xs) - 0) ⟨0, rfl, hS, (Nat.zero_le _), (rfl), rfl⟩ ?_
    clear hS; rintro _ _ w j ⟨k, rfl, hS, hk, he, rfl⟩
    refine WC.seq ?_
    refine WC.seq ?_
    refine WC.region ?_
    refine WL.r 4 rfl ?_
    refine WL.nil ?_
    as_aux_lemma =>
      refine WC.ifP rfl (fun cd2 => ?_) (fun cd2 => ?_)
      · refine WC.skip ?_
        refine WC.seq ?_
        refine WC.block ?_
        refine WC.seq ?_
        refine WC.plan [([0, 1, 4, 5, 2, 6, 3, 7, 8], none)] (by kernel_rfl) (by kernel_rfl) ?_
        refine WQ.r 4 rfl ?_
        obtain ⟨x, hx⟩ : ∃ x, xs[k]? = some x := ⟨_, List.getElem?_eq_getElem (by omega)⟩
        refine WQ.ix rfl rfl (i := (k : Int)) (k) el_49 rfl rfl (by omega) (len_of (nhs_at hx)) (hS.rdS 0 rfl (nhs_at hx)).1 ?_
        obtain ⟨y, hy⟩ : ∃ y, ys[k]? = some y := ⟨_, List.getElem?_eq_getElem (by omega)⟩
        refine WQ.ix rfl rfl (i := (k : Int)) (k) el_49 rfl rfl (by omega) (len_of (nhs_at hy)) (hS.rdS 1 rfl (nhs_at hy)).1 ?_
        refine WQ.ldC rfl rfl [.string x.1, .int .u64 x.2] ag_48 rfl (hS.rdS 0 rfl (nhs_at hx)).2 ?_
        refine WQ.ldC rfl rfl [.string y.1, .int .u64 y.2] ag_48 rfl (hS.rdS 1 rfl (nhs_at hy)).2 ?_
        refine WQ.neS rfl rfl eq_48 (xs := [.string x.1, .int .u64 x.2]) (ys := [.string y.1, .int .u64 y.2]) rfl rfl rfl rfl ?_
        refine WQ.prop 25 rfl (bnot (band (dd _) (dd _))) ?_
        refine WQ.nil ?_
        intro m1
        replace hS := hS.drewN m1; generalize hwm1 : World.drewN _ _ = w at *; clear hwm1
        refine WC.ifP rfl (fun cd3 => ?_) (fun cd3 => ?_)
        · refine WC.seq ?_
          refine WC.region ?_
          refine WL.r 1 rfl ?_
          refine WL.nil ?_
          refine WC.ret ?_
          refine ⟨[.bool false], rfl, ?_⟩
          exact ⟨_, rfl, hS, ⟨fun h => (by cases h), fun h => by subst h; rw [hx] at hy; cases hy; exact absurd ⟨rfl, rfl⟩ cd3⟩⟩
        · refine WC.skip ?_
          refine WC.region ?_
          refine WL.r 2 rfl ?_
          refine WL.nw 16 rfl (w64 (by omega)) ?_
          refine WL.r 1 rfl ?_
          refine WL.nil ?_
          exact ⟨_, by omega, k + 1, rfl, hS, (by omega), (by rw [List.take_add_one, List.take_add_one, he, hx, hy, Prod.ext (Classical.not_not.1 cd3).1 (Classical.not_not.1 cd3).2]), rfl⟩
      · refine WC.exit ?_
        refine WC.seq ?_
        refine WC.region ?_
        refine WL.r 1 rfl ?_
        refine WL.nil ?_
        refine WC.ret ?_
        refine ⟨[.bool true], rfl, ?_⟩
        exact ⟨_, rfl, hS, ⟨fun _ => by rw [← List.take_of_length_le (i := k) (l := xs) (by omega), he, List.take_of_length_le (by omega)], fun _ => rfl⟩⟩
end Go.Proofs.YtenkmjbghbegfaaDoor
