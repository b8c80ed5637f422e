/-
  The table of names: New, Get, and clones of lists.
  Conditions: none beyond the arguments' form.
-/
import Derived.Test.YtenkmjbghbegfaaDoorTypes
import Derived.Test.YtenkmjbghbegfaaDoorNmm
namespace Go.Proofs.YtenkmjbghbegfaaDoor
open Go Go.V


theorem new_spec {g w : World} {L : List HP} (hS : St g (L) w) :
    Sp Tryd.prog 11 [] w (fun v w' => ∃ (t m : Nat), v = .pointer (some ⟨t, 0, none⟩) ∧ St g (cel t #[.map (some m)] 62 :: blk m (.map (mE (List.map nbK [])) 0) :: Buns nbF [] :: L) w') := by
  refine Sp.enter Tryd.func11 rfl (by kernel_rfl) (by kernel_rfl) ?_
  refine WC.seq ?_
  refine WC.region ?_
  refine WL.r 1 rfl ?_
  refine WL.nil ?_
  refine WC.seq ?_
  refine WC.region ?_
  refine WL.mkM rfl rfl hS (fun b1 w hS => ?_)
  refine WL.build rfl rfl (cs := [.map (some b1)]) zv_62 rfl rfl ?_
  refine WL.box rfl rfl #[.map (some b1)] hS rfl rfl (fun b2 w hS => ?_)
  refine WL.r 1 rfl ?_
  refine WL.nil ?_
  refine WC.ret ?_
  refine ⟨[.pointer (some ⟨b2, 0, none⟩)], rfl, ?_⟩
  exact ⟨_, _, rfl, (hS.bunNil nbF).sel 3 [1, 1, 0] rfl⟩

theorem get_in {g w : World} {L : List HP} (t m : Nat) (xs : List NB) (q : Nat) (s : ByteArray) (k : Nat) (x : NB) (hx : xs[k]? = some x) (hn : x.name = s) (hu : Uniq xs) (hS : St g (cel t #[.map (some m)] 62 :: blk m (.map (mE (List.map nbK xs)) q) :: Buns nbF xs :: L) w) :
    Sp Tryd.prog 18 [.pointer (some ⟨t, 0, none⟩), .string s] w (fun v w' => v = .tuple #[.int .u64 x.h, .bool true] ∧ St g (cel t #[.map (some m)] 62 :: blk m (.map (mE (List.map nbK xs)) q) :: Buns nbF xs :: L) w') := by
  refine Sp.enter Tryd.func18 rfl (by kernel_rfl) (by kernel_rfl) ?_
  refine WC.seq ?_
  refine WC.region ?_
  refine WL.r 2 rfl ?_
  refine WL.nil ?_
  refine WC.seq ?_
  refine WC.region ?_
  refine WL.run 5 [.map (some m)] rfl (by exact hS.ld 0 rfl rfl) ?_
  refine WL.lk rfl rfl mt_60 1 hS rfl rfl rfl (by first | trivial | rfl) (r := some (k, .pointer (some ⟨x.b, 0, none⟩))) (hn ▸ nb_in hx hu) rfl ?_
  refine WL.r 5 rfl ?_
  refine WL.nil ?_
  refine WC.seq ?_
  refine WC.seq ?_
  refine WC.region ?_
  refine WL.r 2 rfl ?_
  refine WL.nil ?_
  refine WC.ifF rfl rfl ?_
  refine WC.skip ?_
  refine WC.seq ?_
  refine WC.region ?_
  replace hS := St.bunGet (hS.at_ 2 rfl) hx
  replace hS : St g (cel x.b #[.int .u64 x.h, .slice x.a (List.length (u64s x.lg)) x.c] 65 :: Own 31 1 (u64s x.lg) x.a x.c :: Buns nbF (List.eraseIdx xs k) :: cel t #[.map (some m)] 62 :: blk m (.map (mE (List.map nbK xs)) q) :: L) w := hS
  refine WL.run 6 [.int .u64 x.h] rfl (by exact hS.ld 0 rfl rfl) ?_
  refine WL.nil ?_
  refine WC.ret ?_
  replace hS := St.bunBack (f := nbF) (z := x) hS hx
  replace hS : St g (Buns nbF xs :: cel t #[.map (some m)] 62 :: blk m (.map (mE (List.map nbK xs)) q) :: L) w := hS
  refine ⟨[.int .u64 x.h, .bool true], ⟨rfl, rfl⟩, ?_⟩
  replace hS := (hS.sel 3 [1, 1, 0] rfl)
  exact ⟨rfl, hS⟩

theorem get_out {g w : World} {L : List HP} (t m : Nat) (xs : List NB) (q : Nat) (s : ByteArray) (hn : ∀ x : NB, x ∈ xs → x.name ≠ s) (hS : St g (cel t #[.map (some m)] 62 :: blk m (.map (mE (List.map nbK xs)) q) :: Buns nbF xs :: L) w) :
    Sp Tryd.prog 18 [.pointer (some ⟨t, 0, none⟩), .string s] w (fun v w' => v = .tuple #[.int .u64 0, .bool false] ∧ St g (cel t #[.map (some m)] 62 :: blk m (.map (mE (List.map nbK xs)) q) :: Buns nbF xs :: L) w') := by
  refine Sp.enter Tryd.func18 rfl (by kernel_rfl) (by kernel_rfl) ?_
  refine WC.seq ?_
  refine WC.region ?_
  refine WL.r 2 rfl ?_
  refine WL.nil ?_
  refine WC.seq ?_
  refine WC.region ?_
  refine WL.run 5 [.map (some m)] rfl (by exact hS.ld 0 rfl rfl) ?_
  refine WL.lk rfl rfl mt_60 1 hS rfl rfl rfl (by first | trivial | rfl) (r := none) (nb_out hn) rfl ?_
  refine WL.r 5 rfl ?_
  refine WL.nil ?_
  refine WC.seq ?_
  refine WC.seq ?_
  refine WC.region ?_
  refine WL.r 2 rfl ?_
  refine WL.nil ?_
  refine WC.ifT rfl rfl ?_
  refine WC.seq ?_
  refine WC.region ?_
  refine WL.r 2 rfl ?_
  refine WL.nil ?_
  refine WC.ret ?_
  refine ⟨[.int .u64 0, .bool false], ⟨rfl, rfl⟩, ?_⟩
  exact ⟨rfl, hS⟩
end Go.Proofs.YtenkmjbghbegfaaDoor
