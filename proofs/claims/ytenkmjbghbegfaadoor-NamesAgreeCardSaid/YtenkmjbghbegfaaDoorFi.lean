/-
  The table of names: Find and List.
  Conditions: the table is one.
-/
import Derived.Test.YtenkmjbghbegfaaDoorNm2
import Derived.Test.YtenkmjbghbegfaaDoorSk
import Derived.Test.YtenkmjbghbegfaaDoorFi0
namespace Go.Proofs.YtenkmjbghbegfaaDoor
open Go Go.V

set_option maxHeartbeats 1000000 in
set_option maxRecDepth 8192 in
theorem find_spec {g w : World} {L : List HP} (t m : Nat) (xs : List NB) (q : Nat) (p : ByteArray) (rs out : List (ByteArray × Int)) (ht : TOk xs q) (hp : rs.Perm (xs.map nh)) (hs : Srt rs) (ho : fil p rs = out) (hS : St g (cel t #[.map (some m)] 62 :: blk m (.map (mE (List.map nbK xs)) q) :: Buns nbF xs :: L) w) :
    Sp Tryd.prog 23 [.pointer (some ⟨t, 0, none⟩), .string p] w (fun v w' => ∃ (a2 : Option Addr) (c2 : Nat), v = .slice a2 (List.length (nhs out)) c2 ∧ St g (Own 48 2 (nhs out) a2 c2 :: cel t #[.map (some m)] 62 :: blk m (.map (mE (List.map nbK xs)) q) :: Buns nbF xs :: L) w') := by
  refine Sp.enter Tryd.func23 rfl (by kernel_rfl) (by kernel_rfl) ?_
  refine WC.seq ?_
  refine WC.region ?_
  refine WL.r 1 rfl ?_
  refine WL.nil ?_
  refine WC.seq ?_
  refine WC.region ?_
  refine WL.r 1 rfl ?_
  refine WL.nil ?_
  refine WC.seq ?_
  refine WC.seq ?_
  refine WC.region ?_
  have hnum := ht.num; have hrl : rs.length = xs.length := by simpa using hp.length_eq
  refine WL.run 4 [.map (some m)] rfl (by exact hS.ld 0 rfl rfl) ?_
  refine WL.call rfl rfl (keys_spec (m := m)  (hS := hS)) rfl ?_
  clear hS; rintro _ w ⟨c1, rfl, hS⟩
  replace hS : St g (cel c1 #[.map (some m)] 60 :: cel t #[.map (some m)] 62 :: blk m (.map (mE (List.map nbK xs)) q) :: Buns nbF xs :: L) w := hS
  refine WL.call rfl rfl (sorted_spec (m := m) (c := c1) (q := q) (xs := xs) (ss := List.map Prod.fst rs) (ht := ht) (hp := (by have := hp.map Prod.fst; rwa [List.map_map] at this)) (hs := (List.pairwise_map.2 hs)) (hS := (hS.sel 3 [0, 1, 0] rfl))) rfl ?_
  clear hS; rintro _ w ⟨a1, c2, rfl, hS⟩
  replace hS : St g (Own 9 1 (bas (List.map Prod.fst rs)) a1 c2 :: cel c1 #[.map (some m)] 60 :: blk m (.map (mE (List.map nbK xs)) q) :: cel t #[.map (some m)] 62 :: Buns nbF xs :: L) w := hS
  refine WL.r 2 rfl ?_
  refine WL.nil ?_
  refine WC.block ?_
  replace hS := hS.nil_ 48 2
  refine WC.loop [0, 1, 4, 5, 13, 14, 15] (fun kM vs w => ∃ (k : Nat) (o : List (ByteArray × Int)) (u : Option Addr) (d : Nat), vs = [.pointer (some ⟨t, 0, none⟩), .string p, .slice none 0 0, .slice u (List.length (nhs o)) d, .slice a1 (List.length (bas (List.map Prod.fst rs))) c2, .int .i64 (List.length (bas (List.map Prod.fst rs)) : Int), .int .i64 (k : Int)] ∧ St g (Own 48 2 (nhs o) u d :: Own 9 1 (bas (List.map Prod.fst rs)) a1 c2 :: cel c1 #[.map (some m)] 60 :: blk m (.map (mE (List.map nbK xs)) q) :: cel t #[.map (some m)] 62 :: Buns nbF xs :: L) w ∧ (k ≤ rs.length) ∧ (o = fil p (List.take k rs)) ∧ (rs.length - k) = kM) ((List.length rs) - 0) ⟨0, [], none, 0, rfl, hS, (Nat.zero_le _), (rfl), rfl⟩ ?_
  clear hS; rintro _ _ w j ⟨k, o, u, d, rfl, hS, hk, hf, rfl⟩
  refine WC.seq ?_
  refine WC.region ?_
  have hnum := ht.num; have hrl : rs.length = xs.length := by simpa using hp.length_eq
  refine WL.r 1 rfl ?_
  refine WL.nil ?_
  as_aux_lemma =>
    refine WC.seq ?_
    refine WC.ifP rfl (fun cd1 => ?_) (fun cd1 => ?_)
    · refine WC.skip ?_
      refine WC.seq ?_
      refine WC.block ?_
      refine WC.seq ?_
      refine WC.region ?_
      have hbl := bas_len (List.map Prod.fst rs); have hml : (List.map Prod.fst rs).length = rs.length := List.length_map _; obtain ⟨j, z, hz, hx⟩ := nh_mem hp (show k < rs.length by omega)
      refine WL.ix rfl rfl (i := (k : Int)) (k) el_57 rfl rfl (by omega) (len_of (bas_at (show (List.map Prod.fst rs)[k]? = some z.name by rw [List.getElem?_map, hx]; rfl))) (hS.rdO 1 rfl (bas_at (show (List.map Prod.fst rs)[k]? = some z.name by rw [List.getElem?_map, hx]; rfl))).1 ?_
      refine WL.run 2 [.string z.name] rfl (by exact (hS.rdO 1 rfl (bas_at (show (List.map Prod.fst rs)[k]? = some z.name by rw [List.getElem?_map, hx]; rfl))).2 0 _ rfl) ?_
      refine WL.nil ?_
      refine WC.seq ?_
      refine WC.region ?_
      refine WL.r 2 rfl ?_
      refine WL.call rfl rfl (hasPrefix (s := z.name) (p := p)  (hS := hS)) rfl ?_
      clear hS; rintro _ w ⟨rfl, hS⟩
      replace hS : St g (Own 48 2 (nhs o) u d :: Own 9 1 (bas (List.map Prod.fst rs)) a1 c2 :: cel c1 #[.map (some m)] 60 :: blk m (.map (mE (List.map nbK xs)) q) :: cel t #[.map (some m)] 62 :: Buns nbF xs :: L) w := hS
      refine WL.nil ?_
      refine WC.ifP rfl (fun cd2 => ?_) (fun cd2 => ?_)
      · refine WC.region ?_
        have hfl : o.length ≤ k := by rw [hf]; exact Nat.le_trans fil_len (by rw [List.length_take]; omega)
        have hnl := nhs_len o
        replace hS := St.bunGet (hS.at_ 5 rfl) hz
        replace hS : St g (cel z.b #[.int .u64 z.h, .slice z.a (List.length (u64s z.lg)) z.c] 65 :: Own 31 1 (u64s z.lg) z.a z.c :: Buns nbF (List.eraseIdx xs j) :: Own 48 2 (nhs o) u d :: Own 9 1 (bas (List.map Prod.fst rs)) a1 c2 :: cel c1 #[.map (some m)] 60 :: blk m (.map (mE (List.map nbK xs)) q) :: cel t #[.map (some m)] 62 :: L) w := hS
        refine WL.run 7 [.map (some m)] rfl (by exact hS.ld 7 rfl rfl) ?_
        refine WL.lk rfl rfl mt_60 6 hS rfl rfl rfl (by first | trivial | rfl) (r := some (j, .pointer (some ⟨z.b, 0, none⟩))) (nb_in hz ht.uniq) rfl ?_
        refine WL.run 3 [.int .u64 z.h] rfl (by exact hS.ld 0 rfl rfl) ?_
        refine WL.build rfl rfl (cs := [.string z.name, .int .u64 z.h]) zv_48 rfl rfl ?_
        refine WL.lit rfl rfl (nhs [(z.name, z.h)]) el_49 hS (by exact ⟨rfl, rfl⟩) (nhs_ok _) rfl (by decide) (fun b1 w hS => ?_)
        refine WL.app rfl rfl 4 (nhs (o ++ [(z.name, z.h)])) el_49 hS rfl (hS.srcO 0 rfl) (nhs_app _ _).symm (Rm.of (by first | omega | (simp <;> omega)) (by decide)) rfl rfl (fun a2 c3 w hS => ?_)
        replace hS : St g (Own 48 2 (nhs [(z.name, z.h)]) (some ⟨b1, 0, none⟩) (List.length (nhs [(z.name, z.h)])) :: cel z.b #[.int .u64 z.h, .slice z.a (List.length (u64s z.lg)) z.c] 65 :: Own 31 1 (u64s z.lg) z.a z.c :: Buns nbF (List.eraseIdx xs j) :: Own 48 2 (nhs (o ++ [(z.name, z.h)])) a2 c3 :: Own 9 1 (bas (List.map Prod.fst rs)) a1 c2 :: cel c1 #[.map (some m)] 60 :: blk m (.map (mE (List.map nbK xs)) q) :: cel t #[.map (some m)] 62 :: L) w := hS
        refine WL.r 1 rfl ?_
        refine WL.nil ?_
        as_aux_lemma =>
          refine WC.region ?_
          refine WL.r 1 rfl ?_
          refine WL.nw 36 rfl (w64 (by omega)) ?_
          refine WL.r 1 rfl ?_
          refine WL.nil ?_
          replace hS := St.bunBack (f := nbF) (z := z) hS.tail hz
          replace hS : St g (Buns nbF xs :: Own 48 2 (nhs (o ++ [(z.name, z.h)])) a2 c3 :: Own 9 1 (bas (List.map Prod.fst rs)) a1 c2 :: cel c1 #[.map (some m)] 60 :: blk m (.map (mE (List.map nbK xs)) q) :: cel t #[.map (some m)] 62 :: L) w := hS
          exact ⟨_, by omega, k + 1, o ++ [(z.name, z.h)], a2, c3, rfl, (hS.sel 6 [1, 1, 1, 1, 1, 0] rfl), (by omega), (by rw [hf]; exact fil_take hx cd2), rfl⟩
      · refine WC.skip ?_
        refine WC.region ?_
        refine WL.r 1 rfl ?_
        refine WL.nw 36 rfl (w64 (by omega)) ?_
        refine WL.r 1 rfl ?_
        refine WL.nil ?_
        exact ⟨_, by omega, k + 1, o, u, d, rfl, hS, (by omega), (by rw [hf]; exact fil_skip hx cd2), rfl⟩
    · refine WC.exit ?_
      refine WC.seq ?_
      refine WC.region ?_
      have hbl := bas_len (List.map Prod.fst rs); have hml : (List.map Prod.fst rs).length = rs.length := List.length_map _; obtain rfl : o = out := by rw [hf, List.take_of_length_le (show rs.length ≤ k by omega), ho]
      skip
      refine WL.r 2 rfl ?_
      refine WL.nil ?_
      refine WC.ret ?_
      refine ⟨[.slice u (List.length (nhs o)) d], rfl, ?_⟩
      replace hS := (hS.sel 5 [0, 3, 2] rfl)
      exact ⟨_, _, rfl, hS⟩
theorem list_spec {g w : World} {L : List HP} (t m : Nat) (xs : List NB) (q : Nat) (rs : List (ByteArray × Int)) (ht : TOk xs q) (hp : rs.Perm (xs.map nh)) (hs : Srt rs) (hS : St g (cel t #[.map (some m)] 62 :: blk m (.map (mE (List.map nbK xs)) q) :: Buns nbF xs :: L) w) :
    Sp Tryd.prog 21 [.pointer (some ⟨t, 0, none⟩)] w (fun v w' => ∃ (a2 : Option Addr) (c2 : Nat), v = .slice a2 (List.length (nhs rs)) c2 ∧ St g (Own 48 2 (nhs rs) a2 c2 :: cel t #[.map (some m)] 62 :: blk m (.map (mE (List.map nbK xs)) q) :: Buns nbF xs :: L) w') := by
  refine Sp.enter Tryd.func21 rfl (by kernel_rfl) (by kernel_rfl) ?_
  refine WC.seq ?_
  refine WC.region ?_
  refine WL.r 1 rfl ?_
  refine WL.nil ?_
  refine WC.seq ?_
  refine WC.region ?_
  refine WL.r 1 rfl ?_
  refine WL.call rfl rfl (find_spec (t := t) (m := m) (xs := xs) (q := q) (p := ⟨#[]⟩) (rs := rs) (out := rs) (ht := ht) (hp := hp) (hs := hs) (ho := (fil_all rs)) (hS := hS)) rfl ?_
  clear hS; rintro _ w ⟨a1, c1, rfl, hS⟩
  replace hS : St g (Own 48 2 (nhs rs) a1 c1 :: cel t #[.map (some m)] 62 :: blk m (.map (mE (List.map nbK xs)) q) :: Buns nbF xs :: L) w := hS
  refine WL.r 1 rfl ?_
  refine WL.nil ?_
  refine WC.ret ?_
  refine ⟨[.slice a1 (List.length (nhs rs)) c1], rfl, ?_⟩
  exact ⟨_, _, rfl, hS⟩
end Go.Proofs.YtenkmjbghbegfaaDoor
