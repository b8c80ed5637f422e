/-
  slices.Sorted(maps.Keys(m)) over the table's map: by the library's contracts.
  Conditions: none beyond the map's form.
-/
import Derived.Test.YtenkmjbghbegfaaDoorTypes
import Derived.Test.YtenkmjbghbegfaaDoorSkb
import Derived.Test.YtenkmjbghbegfaaDoorSkp
namespace Go.Proofs
open Go.RowKit Go.Maps Go.Sort Go.Shelf

theorem Tryd.sortsA (m : Nat) : AnyZ.SortsIn Tryd.prog Tryd.sortedA_ren Fence.wide m :=
  ⟨fun blk off cap ss W hH hblk hsz => callsIn_wide.2 (AnyM.slices_Sort_string Tryd.sortA blk off cap ss W hH hblk hsz),
   fun p cap W => callsIn_wide.2 (AnyM.slices_Sort_string_none Tryd.sortA p cap W)⟩
end Go.Proofs
namespace Go.Proofs.YtenkmjbghbegfaaDoor
open Go Go.V Go.RowKit Go.Maps Go.Sort Go.Shelf

theorem keys_spec {g w : World} {L : List HP} (m : Nat) (hS : St g (L) w) :
    Sp Tryd.prog 34 [.map (some m)] w (fun v w' => ∃ (c : Nat), v = .func (.func 39) #[] #[.pointer (some ⟨c, 0, none⟩)] ∧ St g (cel c #[.map (some m)] 60 :: L) w') := by
  have h := callsIn_wide.1 (AnyZ.keys_in Tryd.keysA Fence.wide 5 trivial rfl (some m) w)
  refine ⟨⟨_, _, Tryd.func34, by kernel_rfl, rfl⟩, h.mono fun e w' ⟨he, hw⟩ => ⟨_, he, ?_⟩⟩
  subst hw
  exact ⟨_, rfl, hS.new _⟩
theorem sorted_spec {g w : World} {L : List HP} (m c q : Nat) (xs : List NB) (ss : List ByteArray) (ht : TOk xs q) (hp : ss.Perm (xs.map NB.name)) (hs : ss.Pairwise bleq) (hS : St g (cel c #[.map (some m)] 60 :: blk m (.map (mE (List.map nbK xs)) q) :: L) w) :
    Sp Tryd.prog 33 [.func (.func 39) #[] #[.pointer (some ⟨c, 0, none⟩)]] w (fun v w' => ∃ (a2 : Option Addr) (c2 : Nat), v = .slice a2 (List.length (bas ss)) c2 ∧ St g (Own 9 1 (bas ss) a2 c2 :: cel c #[.map (some m)] 60 :: blk m (.map (mE (List.map nbK xs)) q) :: L) w') := by
  have hc : w.cell? ⟨c, 0, none⟩ = some (.map (some m)) := hS.ld 0 rfl rfl
  have hcl : c < w.heap.size := by
    have h1 := hS.heap 0 rfl
    exact (Array.getElem?_eq_some_iff.1 h1).1
  have hm := hS.heap 1 rfl
  obtain ⟨D, hD, hsz, hk⟩ := str_keys (P := Tryd.prog) (k := 9) xs q ht Tryd.underlying9 hm
  have hseq := AnyZ.keys_gives (ρ := Tryd.keysA_ren) { Tryd.keysA with } Fence.wide 2 trivial rfl (by omega) c m 256 D w hcl hc hD
  have h := callsIn_wide.1 (AnyZ.sorted_in Tryd.sortedA Fence.wide 5 trivial trivial trivial trivial rfl (by omega) (Tryd.sortsA _) (enters_of Tryd.func38 (by kernel_rfl) rfl) 39 #[.pointer (some ⟨c, 0, none⟩)] trivial (enters_of Tryd.func39 (by kernel_rfl) rfl) _ _ (by rw [hsz]; exact Nat.le_trans ht.num (by decide)) (by rw [hsz]; have := ht.num; omega) w hseq)
  refine ⟨⟨_, _, Tryd.func33, by kernel_rfl, rfl⟩, h.mono fun e w' ⟨v, ys, he, hys, hrow, _, hb⟩ => ⟨v, he, ?_⟩⟩
  have hpp : (ss.map fun x => x.data.toList).Perm ys := by
    refine List.Perm.trans ?_ (hys.trans hk).symm
    have := hp.map fun x : ByteArray => x.data.toList
    rwa [List.map_map] at this
  have hl : ss.length = ys.length := by simpa using hpp.length_eq
  obtain ⟨a, c2, rfl, hS2⟩ := St.of_row (bas ss) hS hb hrow (by rw [← sort_eq hpp hs]) (by simpa using hl) (bas_ok ss)
  exact ⟨a, c2, rfl, hS2⟩
end Go.Proofs.YtenkmjbghbegfaaDoor
