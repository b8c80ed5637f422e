/-
  The graph: Live, Present, Versions, Ancestors; clones, sorted and compacted lists.
  Conditions: the table is one.
-/
import Derived.Test.YtlnlnebibgdjdaaTypes
import Derived.Test.YtlnlnebibgdjdaaFnv
import Derived.Test.YtlnlnebibgdjdaaAga
import Derived.Test.YtlnlnebibgdjdaaSkp
namespace Go.Proofs
open Go.RowKit Go.Maps Go.Sort Go.Shelf
theorem Try.sortsA (m : Nat) : AnyZI.SortsIn Try.prog Try.sortedA_ren Fence.wide m :=
  ⟨fun blk off cap ss W hH hblk hsz => callsIn_wide.2 (AnyM.slices_Sort_int Try.sortA blk off cap ss W hH hblk hsz),
   fun p cap W => callsIn_wide.2 (AnyM.slices_Sort_int_none Try.sortA p cap W)⟩
end Go.Proofs
namespace Go.Proofs.Ytlnlnebibgdjdaa
open Go Go.V Go.RowKit Go.Maps Go.Sort Go.Shelf

theorem live_in {g w : World} {L : List HP} (p m : Nat) (cap last : Int) (xs : List VN) (q : Nat) (k : Nat) (x : VN) (hx : xs[k]? = some x) (hu : VUq xs) (hS : St g (cel p #[.int .i64 cap, .int .i64 last, .map (some m)] 161 :: blk m (.map (mE (List.map vK xs)) q) :: Shs vF xs :: L) w) :
    Sp Try.prog 97 [.pointer (some ⟨p, 0, none⟩), .int .i64 x.n] w (fun v w' => v = .bool x.live ∧ St g (cel p #[.int .i64 cap, .int .i64 last, .map (some m)] 161 :: blk m (.map (mE (List.map vK xs)) q) :: Shs vF xs :: L) w') := by
  refine Sp.enter Try.func97 rfl (by kernel_rfl) (by kernel_rfl) ?_
  refine WC.seq ?_
  refine WC.region ?_
  refine WL.r 1 rfl ?_
  refine WL.nil ?_
  refine WC.seq ?_
  refine WC.region ?_
  refine WL.run 5 [.map (some m)] rfl (by exact hS.ld 0 rfl rfl) ?_
  refine WL.lk rfl rfl mt_159 1 hS rfl rfl rfl (by first | trivial | rfl) (r := some (k, .agg #[.bool x.live, .slice x.a (i64s x.ab).length x.c])) (v_in hx hu) rfl ?_
  refine WL.r 2 rfl ?_
  refine WL.nil ?_
  refine WC.ret ?_
  refine ⟨[.bool x.live], rfl, ?_⟩
  exact ⟨rfl, hS⟩
theorem live_out {g w : World} {L : List HP} (p m : Nat) (cap last : Int) (xs : List VN) (q : Nat) (n : Int) (hn : ∀ x ∈ xs, x.n ≠ n) (hS : St g (cel p #[.int .i64 cap, .int .i64 last, .map (some m)] 161 :: blk m (.map (mE (List.map vK xs)) q) :: Shs vF xs :: L) w) :
    Sp Try.prog 97 [.pointer (some ⟨p, 0, none⟩), .int .i64 n] w (fun v w' => v = .bool false ∧ St g (cel p #[.int .i64 cap, .int .i64 last, .map (some m)] 161 :: blk m (.map (mE (List.map vK xs)) q) :: Shs vF xs :: L) w') := by
  refine Sp.enter Try.func97 rfl (by kernel_rfl) (by kernel_rfl) ?_
  refine WC.seq ?_
  refine WC.region ?_
  refine WL.r 1 rfl ?_
  refine WL.nil ?_
  refine WC.seq ?_
  refine WC.region ?_
  refine WL.run 5 [.map (some m)] rfl (by exact hS.ld 0 rfl rfl) ?_
  refine WL.lk rfl rfl mt_159 1 hS rfl rfl rfl (by first | trivial | rfl) (r := none) (v_out hn) rfl ?_
  refine WL.r 2 rfl ?_
  refine WL.nil ?_
  refine WC.ret ?_
  refine ⟨[.bool false], rfl, ?_⟩
  exact ⟨rfl, hS⟩
theorem live_spec {g w : World} {L : List HP} (p m : Nat) (cap last : Int) (xs : List VN) (q : Nat) (n : Int) (hu : VUq xs) (hS : St g (cel p #[.int .i64 cap, .int .i64 last, .map (some m)] 161 :: blk m (.map (mE (List.map vK xs)) q) :: Shs vF xs :: L) w) :
    Sp Try.prog 97 [.pointer (some ⟨p, 0, none⟩), .int .i64 n] w (fun v w' => v = .bool (liveG xs n) ∧ St g (cel p #[.int .i64 cap, .int .i64 last, .map (some m)] 161 :: blk m (.map (mE (List.map vK xs)) q) :: Shs vF xs :: L) w') := by
  rcases v_cases xs n with ⟨k, x, hx, rfl⟩ | hn
  · rw [(g_in (vfind_in hx hu)).1]; exact live_in p m cap last xs q k x hx hu hS
  · rw [(g_out (vfind_out hn)).1]; exact live_out p m cap last xs q n hn hS
theorem pre_in {g w : World} {L : List HP} (p m : Nat) (cap last : Int) (xs : List VN) (q : Nat) (k : Nat) (x : VN) (hx : xs[k]? = some x) (hu : VUq xs) (hS : St g (cel p #[.int .i64 cap, .int .i64 last, .map (some m)] 161 :: blk m (.map (mE (List.map vK xs)) q) :: Shs vF xs :: L) w) :
    Sp Try.prog 67 [.pointer (some ⟨p, 0, none⟩), .int .i64 x.n] w (fun v w' => v = .bool true ∧ St g (cel p #[.int .i64 cap, .int .i64 last, .map (some m)] 161 :: blk m (.map (mE (List.map vK xs)) q) :: Shs vF xs :: L) w') := by
  refine Sp.enter Try.func67 rfl (by kernel_rfl) (by kernel_rfl) ?_
  refine WC.seq ?_
  refine WC.region ?_
  refine WL.r 1 rfl ?_
  refine WL.nil ?_
  refine WC.seq ?_
  refine WC.region ?_
  refine WL.run 5 [.map (some m)] rfl (by exact hS.ld 0 rfl rfl) ?_
  refine WL.lk rfl rfl mt_159 1 hS rfl rfl rfl (by first | trivial | rfl) (r := some (k, .agg #[.bool x.live, .slice x.a (i64s x.ab).length x.c])) (v_in hx hu) rfl ?_
  refine WL.r 3 rfl ?_
  refine WL.new rfl rfl zv_167 hS (fun b1 w hS => ?_)
  refine WL.stF rfl rfl rfl 0 hS rfl rfl rfl rfl rfl ag_167 (fun w hS => ?_)
  replace hS : St g (cel b1 #[.bool x.live, .slice x.a (List.length (i64s x.ab)) x.c] 167 :: cel p #[.int .i64 cap, .int .i64 last, .map (some m)] 161 :: blk m (.map (mE (List.map vK xs)) q) :: Shs vF xs :: L) w := hS
  refine WL.r 1 rfl ?_
  refine WL.nil ?_
  refine WC.seq ?_
  refine WC.region ?_
  refine WL.r 2 rfl ?_
  refine WL.nil ?_
  refine WC.ret ?_
  refine ⟨[.bool true], rfl, ?_⟩
  replace hS := (hS.sel 1 [] rfl)
  exact ⟨rfl, hS⟩
theorem pre_out {g w : World} {L : List HP} (p m : Nat) (cap last : Int) (xs : List VN) (q : Nat) (n : Int) (hn : ∀ x ∈ xs, x.n ≠ n) (hS : St g (cel p #[.int .i64 cap, .int .i64 last, .map (some m)] 161 :: blk m (.map (mE (List.map vK xs)) q) :: Shs vF xs :: L) w) :
    Sp Try.prog 67 [.pointer (some ⟨p, 0, none⟩), .int .i64 n] w (fun v w' => v = .bool false ∧ St g (cel p #[.int .i64 cap, .int .i64 last, .map (some m)] 161 :: blk m (.map (mE (List.map vK xs)) q) :: Shs vF xs :: L) w') := by
  refine Sp.enter Try.func67 rfl (by kernel_rfl) (by kernel_rfl) ?_
  refine WC.seq ?_
  refine WC.region ?_
  refine WL.r 1 rfl ?_
  refine WL.nil ?_
  refine WC.seq ?_
  refine WC.region ?_
  refine WL.run 5 [.map (some m)] rfl (by exact hS.ld 0 rfl rfl) ?_
  refine WL.lk rfl rfl mt_159 1 hS rfl rfl rfl (by first | trivial | rfl) (r := none) (v_out hn) rfl ?_
  refine WL.r 3 rfl ?_
  refine WL.new rfl rfl zv_167 hS (fun b1 w hS => ?_)
  refine WL.stF rfl rfl rfl 0 hS rfl rfl rfl rfl rfl ag_167 (fun w hS => ?_)
  replace hS : St g (cel b1 #[.bool false, .slice none 0 0] 167 :: cel p #[.int .i64 cap, .int .i64 last, .map (some m)] 161 :: blk m (.map (mE (List.map vK xs)) q) :: Shs vF xs :: L) w := hS
  refine WL.r 1 rfl ?_
  refine WL.nil ?_
  refine WC.seq ?_
  refine WC.region ?_
  refine WL.r 2 rfl ?_
  refine WL.nil ?_
  refine WC.ret ?_
  refine ⟨[.bool false], rfl, ?_⟩
  replace hS := (hS.sel 1 [] rfl)
  exact ⟨rfl, hS⟩
theorem pre_spec {g w : World} {L : List HP} (p m : Nat) (cap last : Int) (xs : List VN) (q : Nat) (n : Int) (hu : VUq xs) (hS : St g (cel p #[.int .i64 cap, .int .i64 last, .map (some m)] 161 :: blk m (.map (mE (List.map vK xs)) q) :: Shs vF xs :: L) w) :
    Sp Try.prog 67 [.pointer (some ⟨p, 0, none⟩), .int .i64 n] w (fun v w' => v = .bool (preG xs n) ∧ St g (cel p #[.int .i64 cap, .int .i64 last, .map (some m)] 161 :: blk m (.map (mE (List.map vK xs)) q) :: Shs vF xs :: L) w') := by
  rcases v_cases xs n with ⟨k, x, hx, rfl⟩ | hn
  · rw [(g_in (vfind_in hx hu)).2.1]; exact pre_in p m cap last xs q k x hx hu hS
  · rw [(g_out (vfind_out hn)).2.1]; exact pre_out p m cap last xs q n hn hS
theorem clone_sh {g w : World} {L : List HP} (ls : List Int) (a : Option Addr) (c : Nat) (hl : ls.length ≤ 1000000) (hS : St g (Sh 3 1 (i64s ls) a c :: L) w) :
    Sp Try.prog 104 [.slice a (List.length (i64s ls)) c] w (fun v w' => ∃ (a2 : Option Addr) (c2 : Nat), v = .slice a2 (List.length (i64s ls)) c2 ∧ St g (Own 3 1 (i64s ls) a2 c2 :: Sh 3 1 (i64s ls) a c :: L) w') := by
  refine Sp.enter Try.func104 rfl (by kernel_rfl) (by kernel_rfl) ?_
  have _ := hl
  refine WC.seq ?_
  refine WC.region ?_
  refine WL.r 1 rfl ?_
  refine WL.nil ?_
  refine WC.seq ?_
  refine WC.seq ?_
  refine WC.region ?_
  refine WL.r 1 rfl ?_
  refine WL.eqN rfl rfl el_33 rfl rfl ?_
  refine WL.nil ?_
  refine WC.if_ rfl (fun cd1 => ?_) (fun cd1 => ?_)
  · refine WC.seq ?_
    refine WC.region ?_
    refine WL.r 1 rfl ?_
    refine WL.nil ?_
    refine WC.ret ?_
    refine ⟨[.slice none 0 0], rfl, ?_⟩
    replace hS := hS.nil_ 3 1
    cases a with
    | some _ => cases cd1
    | none =>
      have h0 : ls = [] := by simpa [i64s] using hS.nilLS 1 rfl
      subst h0; exact ⟨_, _, rfl, hS⟩
  · refine WC.skip ?_
    refine WC.seq ?_
    refine WC.region ?_
    refine WL.lit rfl rfl ([]) el_33 hS (by exact trivial) (by simp [OkE, Value.oneCell']) rfl (by decide) (fun b1 w hS => ?_)
    refine WL.r 1 rfl ?_
    refine WL.app rfl rfl 0 (i64s ls) el_33 hS rfl (hS.srcS 1 rfl) (List.nil_append _) (Rm.of (by first | omega | (simp <;> omega)) (by decide)) rfl rfl (fun a1 c1 w hS => ?_)
    replace hS : St g (Own 3 1 (i64s ls) a1 c1 :: Sh 3 1 (i64s ls) a c :: L) w := hS
    refine WL.r 1 rfl ?_
    refine WL.nil ?_
    refine WC.ret ?_
    refine ⟨[.slice a1 (List.length (i64s ls)) c1], rfl, ?_⟩
    exact ⟨_, _, rfl, hS⟩
theorem keys_spec {g w : World} {L : List HP} (m : Nat) (hS : St g (L) w) :
    Sp Try.prog 86 [.map (some m)] w (fun v w' => ∃ (c : Nat), v = .func (.func 116) #[] #[.pointer (some ⟨c, 0, none⟩)] ∧ St g (cel c #[.map (some m)] 159 :: L) w') := by
  have h := callsIn_wide.1 (AnyZI.keys_in Try.keysA Fence.wide 5 trivial rfl (some m) w)
  refine ⟨⟨_, _, Try.func86, by kernel_rfl, rfl⟩, h.mono fun e w' ⟨he, hw⟩ => ⟨_, he, ?_⟩⟩
  subst hw
  exact ⟨_, rfl, hS.new _⟩
theorem sorted_spec {g w : World} {L : List HP} (m c q : Nat) (xs : List VN) (ss : List Int) (ht : VOk xs q) (hp : ss.Perm (xs.map VN.n)) (hs : ss.Pairwise (· ≤ ·)) (hS : St g (cel c #[.map (some m)] 159 :: blk m (.map (mE (List.map vK xs)) q) :: L) w) :
    Sp Try.prog 52 [.func (.func 116) #[] #[.pointer (some ⟨c, 0, none⟩)]] w (fun v w' => ∃ (a2 : Option Addr) (c2 : Nat), v = .slice a2 (List.length (i64s ss)) c2 ∧ St g (Own 3 1 (i64s ss) a2 c2 :: cel c #[.map (some m)] 159 :: blk m (.map (mE (List.map vK xs)) q) :: L) w') := by
  have hc : w.cell? ⟨c, 0, none⟩ = some (.map (some m)) := hS.ld 0 rfl rfl
  have hcl : c < w.heap.size := by
    have h1 := hS.heap 0 rfl
    exact (Array.getElem?_eq_some_iff.1 h1).1
  have hm := hS.heap 1 rfl
  obtain ⟨D, hD, hsz, hk⟩ := int_keys (P := Try.prog) (k := 3) xs q ht Try.underlying3 hm
  have hseq := AnyZI.keys_gives (ρ := Try.keysA_ren) { Try.keysA with } Fence.wide 2 trivial rfl (by omega) c m 4096 D w hcl hc hD
  have h := callsIn_wide.1 (AnyZI.sorted_in Try.sortedA Fence.wide 5 trivial trivial trivial trivial rfl (by omega) (Try.sortsA _) (enters_of Try.func89 (by kernel_rfl) rfl) 116 #[.pointer (some ⟨c, 0, none⟩)] trivial (enters_of Try.func116 (by kernel_rfl) rfl) _ _ (by rw [hsz]; exact Nat.le_trans ht.num (by decide)) (by rw [hsz]; have := ht.num; omega) w hseq)
  refine ⟨⟨_, _, Try.func52, by kernel_rfl, rfl⟩, h.mono fun e w' ⟨v, ys, he, hys, hrow, _, hb⟩ => ⟨v, he, ?_⟩⟩
  have hpp : ss.Perm ys := hp.trans (hys.trans hk).symm
  obtain ⟨a, c2, rfl, hS2⟩ := St.of_row (i64s ss) hS hb hrow (by rw [sort_eqI hpp hs, i64s_flat]) (by simpa using hpp.length_eq) (i64s_ok ss)
  exact ⟨a, c2, rfl, hS2⟩
theorem vers_spec {g w : World} {L : List HP} (p m : Nat) (cap last : Int) (xs : List VN) (q : Nat) (ss : List Int) (ht : VOk xs q) (hp : ss.Perm (xs.map VN.n)) (hs : ss.Pairwise (· ≤ ·)) (hS : St g (cel p #[.int .i64 cap, .int .i64 last, .map (some m)] 161 :: blk m (.map (mE (List.map vK xs)) q) :: Shs vF xs :: L) w) :
    Sp Try.prog 49 [.pointer (some ⟨p, 0, none⟩)] w (fun v w' => ∃ (a2 : Option Addr) (c2 : Nat), v = .slice a2 (List.length (i64s ss)) c2 ∧ St g (Own 3 1 (i64s ss) a2 c2 :: cel p #[.int .i64 cap, .int .i64 last, .map (some m)] 161 :: blk m (.map (mE (List.map vK xs)) q) :: Shs vF xs :: L) w') := by
  refine Sp.enter Try.func49 rfl (by kernel_rfl) (by kernel_rfl) ?_
  refine WC.seq ?_
  refine WC.region ?_
  refine WL.r 1 rfl ?_
  refine WL.nil ?_
  refine WC.seq ?_
  refine WC.region ?_
  refine WL.run 4 [.map (some m)] rfl (by exact hS.ld 0 rfl rfl) ?_
  refine WL.call rfl rfl (keys_spec (m := m)  (hS := hS)) rfl ?_
  clear hS; rintro _ w ⟨c1, rfl, hS⟩
  replace hS : St g (cel c1 #[.map (some m)] 159 :: cel p #[.int .i64 cap, .int .i64 last, .map (some m)] 161 :: blk m (.map (mE (List.map vK xs)) q) :: Shs vF xs :: L) w := hS
  refine WL.call rfl rfl (sorted_spec (m := m) (c := c1) (q := q) (xs := xs) (ss := ss) (ht := ht) (hp := hp) (hs := hs) (hS := (hS.sel 3 [0, 1, 0] rfl))) rfl ?_
  clear hS; rintro _ w ⟨a1, c2, rfl, hS⟩
  replace hS : St g (Own 3 1 (i64s ss) a1 c2 :: cel c1 #[.map (some m)] 159 :: blk m (.map (mE (List.map vK xs)) q) :: cel p #[.int .i64 cap, .int .i64 last, .map (some m)] 161 :: Shs vF xs :: L) w := hS
  refine WL.r 1 rfl ?_
  refine WL.nil ?_
  refine WC.ret ?_
  refine ⟨[.slice a1 (List.length (i64s ss)) c2], rfl, ?_⟩
  replace hS := (hS.sel 4 [0, 2, 1] rfl)
  exact ⟨_, _, rfl, hS⟩
theorem sort_spec {g w : World} {L : List HP} (ls ss : List Int) (a : Option Addr) (c : Nat) (hne : ls ≠ []) (hl : ls.length ≤ 1000000) (hp : ss.Perm ls) (hs : ss.Pairwise (· ≤ ·)) (hS : St g (Own 3 1 (i64s ls) a c :: L) w) :
    Sp Try.prog 89 [.slice a (List.length (i64s ls)) c] w (fun v w' => v = .tuple #[] ∧ St g (Own 3 1 (i64s ss) a c :: L) w') := by
  obtain ⟨b, rfl⟩ := hS.addrI 0 rfl hne
  obtain ⟨hH, hb, hcap⟩ := hS.holdsI 0 rfl
  have h := AnyM.slices_Sort_int Try.sortA b 0 c ls w hH hb (by omega)
  rw [← i64s_len ls] at h
  refine ⟨⟨_, _, Try.func89, by kernel_rfl, rfl⟩, h.mono fun e w' ⟨he, n, os, hw⟩ => ⟨_, he, rfl, ?_⟩⟩
  subst hw
  rw [sort_eqI hp hs]
  exact hS.putI ss hp.length_eq n os
theorem compact_spec {g w : World} {L : List HP} (ls : List Int) (a : Option Addr) (c : Nat) (hne : ls ≠ []) (hl : ls.length ≤ 1000000) (hS : St g (Own 3 1 (i64s ls) a c :: L) w) :
    Sp Try.prog 98 [.slice a (List.length (i64s ls)) c] w (fun v w' => v = .slice a (List.length (i64s (Lib.compact ls))) c ∧ St g (Own 3 1 (i64s (Lib.compact ls)) a c :: L) w') := by
  obtain ⟨b, rfl⟩ := hS.addrI 0 rfl hne
  obtain ⟨hH, hb, hcap⟩ := hS.holdsI 0 rfl
  have h := AnyG.slices_Compact_int Try.compactA b 0 c ls w hH (by omega) hcap
  rw [← i64s_len ls] at h
  refine ⟨⟨_, _, Try.func98, by kernel_rfl, rfl⟩, h.mono fun e w' ⟨he, n, hw⟩ => ⟨_, he, by rw [i64s_len], ?_⟩⟩
  subst hw
  have hcl := compact_len ls
  have h2 := hS.putI (Lib.compact ls ++ List.replicate (ls.length - (Lib.compact ls).length) 0) (by simp; omega) n #[]
  rw [i64s_len]
  have h3 := h2.ownTake (Lib.compact ls).length
  rw [i64s_take, List.take_left] at h3
  simpa using h3
end Go.Proofs.Ytlnlnebibgdjdaa
