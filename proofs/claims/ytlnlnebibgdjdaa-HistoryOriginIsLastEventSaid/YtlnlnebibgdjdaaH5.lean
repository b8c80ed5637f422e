/-
  Histories: Origins.
  Conditions: the chain's trees are ascending.
-/
import Derived.Test.YtlnlnebibgdjdaaH3
import Derived.Test.YtlnlnebibgdjdaaOe
import Derived.Test.YtlnlnebibgdjdaaSky
namespace Go.Proofs
open Go.RowKit Go.Maps Go.Sort Go.Shelf
theorem Try.sortsH (m : Nat) : AnyZI.SortsIn Try.prog Try.sortedL_ren Fence.wide m :=
  ⟨fun blk off cap ss W hH hblk hsz => callsIn_wide.2 (AnyM.slices_Sort_int Try.sortL blk off cap ss W hH hblk hsz),
   fun p cap W => callsIn_wide.2 (AnyM.slices_Sort_int_none Try.sortL p cap W)⟩
end Go.Proofs
namespace Go.Proofs.Ytlnlnebibgdjdaa
open Go Go.V Go.RowKit Go.Maps Go.Sort Go.Shelf

theorem hi_all {g w : World} {L : List HP} (a : Nat) (A : AM) (R : List Int) (Ls : List Kvs) (rs : List Int) (u : Option Addr) (d : Nat) (hA : ARf A R) (hT : RTs A Ls rs) (hL : LOk Ls) (hn : rs.length ≤ 100) (hS : St g (Arn a A :: Sh 40 1 (u32s rs) u d :: L) w) :
    Sp Try.prog 75 [.pointer (some ⟨a, 0, none⟩), .slice u (List.length (u32s rs)) d] w (fun v w' => ∃ (a2 : Option Addr) (c2 : Nat), v = .slice a2 (List.length (ev5 (hev minI maxI Ls (List.length rs)))) c2 ∧ St g (Own 63 5 (ev5 (hev minI maxI Ls (List.length rs))) a2 c2 :: Arn a A :: Sh 40 1 (u32s rs) u d :: L) w') := by
  refine Sp.enter Try.func75 rfl (by kernel_rfl) (by kernel_rfl) ?_
  refine WC.seq ?_
  refine WC.region ?_
  refine WL.r 1 rfl ?_
  refine WL.nil ?_
  refine WC.seq ?_
  refine WC.region ?_
  refine WL.r 2 rfl ?_
  refine WL.call rfl rfl (hi_events (a := a) (A := A) (R := R) (Ls := Ls) (rs := rs) (u := u) (d := d) (lo := -9223372036854775808) (hi := 9223372036854775807) (hA := hA) (hT := hT) (hL := hL) (hn := hn) (hS := hS)) rfl ?_
  clear hS; rintro _ w ⟨a1, c1, rfl, hS⟩
  replace hS : St g (Own 63 5 (ev5 (hev (-9223372036854775808) 9223372036854775807 Ls (List.length rs))) a1 c1 :: Arn a A :: Sh 40 1 (u32s rs) u d :: L) w := hS
  refine WL.r 1 rfl ?_
  refine WL.nil ?_
  refine WC.ret ?_
  refine ⟨[.slice a1 (List.length (ev5 (hev (-9223372036854775808) 9223372036854775807 Ls (List.length rs)))) c1], rfl, ?_⟩
  exact ⟨_, _, rfl, hS⟩
theorem keysO_spec {g w : World} {L : List HP} (m : Nat) (hS : St g (L) w) :
    Sp Try.prog 77 [.map (some m)] w (fun v w' => ∃ (c : Nat), v = .func (.func 113) #[] #[.pointer (some ⟨c, 0, none⟩)] ∧ St g (cel c #[.map (some m)] 135 :: L) w') := by
  have h := callsIn_wide.1 (AnyZI.keys_in Try.keysO Fence.wide 5 trivial rfl (some m) w)
  refine ⟨⟨_, _, Try.func77, by kernel_rfl, rfl⟩, h.mono fun e w' ⟨he, hw⟩ => ⟨_, he, ?_⟩⟩
  subst hw
  exact ⟨_, rfl, hS.new _⟩
theorem sortedO_spec {g w : World} {L : List HP} (m c q : Nat) (rs : List OE) (ss : List Int) (ht : KOk oK OE.k rs q) (hp : ss.Perm (rs.map OE.k)) (hs : ss.Pairwise (· ≤ ·)) (hS : St g (cel c #[.map (some m)] 135 :: blk m (.map (mE (List.map oK rs)) q) :: L) w) :
    Sp Try.prog 76 [.func (.func 113) #[] #[.pointer (some ⟨c, 0, none⟩)]] w (fun v w' => ∃ (a2 : Option Addr) (c2 : Nat), v = .slice a2 (List.length (i64s ss)) c2 ∧ St g (Own 2 1 (i64s ss) a2 c2 :: cel c #[.map (some m)] 135 :: blk m (.map (mE (List.map oK rs)) q) :: L) w') := by
  have hc : w.cell? ⟨c, 0, none⟩ = some (.map (some m)) := hS.ld 0 rfl rfl
  have hcl : c < w.heap.size := by
    have h1 := hS.heap 0 rfl
    exact (Array.getElem?_eq_some_iff.1 h1).1
  have hm := hS.heap 1 rfl
  obtain ⟨D, hD, hsz, hk⟩ := keys_of (P := Try.prog) (k := 2) rs q ht Try.underlying2 hm
  have hseq := AnyZI.keys_gives (ρ := Try.keysO_ren) { Try.keysO with } Fence.wide 2 trivial rfl (by omega) c m 4096 D w hcl hc hD
  have h := callsIn_wide.1 (AnyZI.sorted_in Try.sortedL Fence.wide 5 trivial trivial trivial trivial rfl (by omega) (Try.sortsH _) (enters_of Try.func112 (by kernel_rfl) rfl) 113 #[.pointer (some ⟨c, 0, none⟩)] trivial (enters_of Try.func113 (by kernel_rfl) rfl) _ _ (by rw [hsz]; exact Nat.le_trans ht.num (by decide)) (by rw [hsz]; have := ht.num; omega) w hseq)
  refine ⟨⟨_, _, Try.func76, by kernel_rfl, rfl⟩, h.mono fun e w' ⟨v, ys, he, hys, hrow, _, hb⟩ => ⟨v, he, ?_⟩⟩
  have hpp : ss.Perm ys := hp.trans (hys.trans hk).symm
  obtain ⟨a, c2, rfl, hS2⟩ := St.of_row (i64s ss) hS hb hrow (by rw [sort_eqI hpp hs, i64s_flat]) (by simpa using hpp.length_eq) (i64s_ok ss)
  exact ⟨a, c2, rfl, hS2⟩
theorem er_map {α β : Type} (f : α → β) : ∀ (l : List α) (k : Nat), (l.map f).eraseIdx k = (l.eraseIdx k).map f
  | [], _ => rfl
  | _ :: _, 0 => rfl
  | x :: l, k + 1 => by
    show f x :: (l.map f).eraseIdx k = f x :: (l.eraseIdx k).map f
    rw [er_map f l k]
def oks (M : List (Int × Int × Int)) : List Int := M.map fun x => x.1
theorem oStep_2 {M : List (Int × Int × Int)} {e : Ev} (h : e.2.1 = 2) : oStep M e = pdel e.2.2.1 M := if_pos h
theorem oStep_n {M : List (Int × Int × Int)} {e : Ev} (h : ¬ e.2.1 = 2) : oStep M e = pput e.2.2.1 (e.2.2.2.2, e.1) M := if_neg h
set_option maxHeartbeats 1000000 in
set_option maxRecDepth 8192 in
theorem hi_orig {g w : World} {L : List HP} (a : Nat) (A : AM) (R : List Int) (Ls : List Kvs) (rs : List Int) (u : Option Addr) (d : Nat) (hA : ARf A R) (hT : RTs A Ls rs) (hL : LOk Ls) (hn : rs.length ≤ 20) (hS : St g (Arn a A :: Sh 40 1 (u32s rs) u d :: L) w) :
    Sp Try.prog 30 [.pointer (some ⟨a, 0, none⟩), .slice u (List.length (u32s rs)) d] w (fun v w' => ∃ (a2 : Option Addr) (c2 : Nat), v = .slice a2 (List.length (or3 (oAll (hev minI maxI Ls (List.length rs))))) c2 ∧ St g (Own 71 3 (or3 (oAll (hev minI maxI Ls (List.length rs)))) a2 c2 :: Arn a A :: Sh 40 1 (u32s rs) u d :: L) w') := by
  refine Sp.enter Try.func30 rfl (by kernel_rfl) (by kernel_rfl) ?_
  have _ := hn
  refine WC.seq ?_
  refine WC.region ?_
  refine WL.r 1 rfl ?_
  refine WL.nil ?_
  refine WC.seq ?_
  refine WC.region ?_
  refine WL.mkM rfl rfl hS (fun b1 w hS => ?_)
  refine WL.r 1 rfl ?_
  refine WL.nil ?_
  refine WC.seq ?_
  refine WC.seq ?_
  refine WC.region ?_
  have hel := hev_len (lo := minI) (hi := maxI) hL rs.length; have he5 := ev5_len (hev minI maxI Ls rs.length)
  refine WL.r 2 rfl ?_
  refine WL.call rfl rfl (hi_all (a := a) (A := A) (R := R) (Ls := Ls) (rs := rs) (u := u) (d := d) (hA := hA) (hT := hT) (hL := hL) (hn := (by omega)) (hS := (hS.sel 3 [1, 1, 0] rfl))) rfl ?_
  clear hS; rintro _ w ⟨a1, c1, rfl, hS⟩
  replace hS : St g (Own 63 5 (ev5 (hev minI maxI Ls (List.length rs))) a1 c1 :: Arn a A :: Sh 40 1 (u32s rs) u d :: blk b1 (.map (mE []) 0) :: L) w := hS
  refine WL.r 2 rfl ?_
  refine WL.nil ?_
  refine WC.block ?_
  refine WC.loop [4, 5, 15, 16, 17] (fun kM vs w => ∃ (p : Nat) (xs : List OE) (q : Nat), vs = [.slice none 0 0, .map (some b1), .slice a1 (List.length (ev5 (hev minI maxI Ls (List.length rs)))) c1, .int .i64 (List.length (ev5 (hev minI maxI Ls (List.length rs))) : Int), .int .i64 (p : Int)] ∧ St g (Own 63 5 (ev5 (hev minI maxI Ls (List.length rs))) a1 c1 :: Arn a A :: Sh 40 1 (u32s rs) u d :: blk b1 (.map (mE (List.map oK xs)) q) :: L) w ∧ (p ≤ (hev minI maxI Ls rs.length).length) ∧ (POk oK OE.k OE.p xs q (oAll ((hev minI maxI Ls rs.length).take p))) ∧ ((hev minI maxI Ls rs.length).length - p) = kM) ((List.length (hev minI maxI Ls (List.length rs))) - 0) ⟨0, [], 0, rfl, hS, (Nat.zero_le _), (POk.nil), rfl⟩ ?_
  clear hS; rintro _ _ w j ⟨p, xs, q, rfl, hS, hp, hP, rfl⟩
  refine WC.seq ?_
  refine WC.region ?_
  refine WL.r 1 rfl ?_
  refine WL.nil ?_
  as_aux_lemma =>
    refine WC.seq ?_
    refine WC.ifP rfl (fun cd1 => ?_) (fun cd1 => ?_)
    · refine WC.skip ?_
      refine WC.seq ?_
      refine WC.block ?_
      refine WC.seq ?_
      refine WC.region ?_
      obtain ⟨e, he⟩ : ∃ e, (hev minI maxI Ls rs.length)[p]? = some e := ⟨_, List.getElem?_eq_getElem (by omega)⟩; have hrg := ev_rng he; have hol := oAll_len hL rs.length p
      refine WL.ix rfl rfl (i := (p : Int)) (p) el_58 rfl rfl (by omega) (by omega) (hS.rdO 0 rfl (ev5_at he)).1 ?_
      refine WL.ldC rfl rfl [.int .i64 e.1, .int .i64 e.2.1, .int .i64 e.2.2.1, .int .i64 e.2.2.2.1, .int .i64 e.2.2.2.2] ag_63 rfl (hS.rdO 0 rfl (ev5_at he)).2 ?_
      refine WL.new rfl rfl zv_63 hS (fun b2 w hS => ?_)
      refine WL.stF rfl rfl rfl 0 hS rfl rfl rfl rfl rfl ag_63 (fun w hS => ?_)
      replace hS : St g (cel b2 #[.int .i64 e.1, .int .i64 e.2.1, .int .i64 e.2.2.1, .int .i64 e.2.2.2.1, .int .i64 e.2.2.2.2] 63 :: Own 63 5 (ev5 (hev minI maxI Ls (List.length rs))) a1 c1 :: Arn a A :: Sh 40 1 (u32s rs) u d :: blk b1 (.map (mE (List.map oK xs)) q) :: L) w := hS
      refine WL.nil ?_
      refine WC.seq ?_
      refine WC.region ?_
      refine WL.r 1 rfl ?_
      refine WL.ldC rfl rfl [.int .i64 e.2.1, .int .i64 e.2.2.1, .int .i64 e.2.2.2.1, .int .i64 e.2.2.2.2] ag_61 rfl (hS.part 0 rfl rfl) ?_
      refine WL.new rfl rfl zv_61 hS (fun b3 w hS => ?_)
      refine WL.stF rfl rfl rfl 0 hS rfl rfl rfl rfl rfl ag_61 (fun w hS => ?_)
      replace hS : St g (cel b3 #[.int .i64 e.2.1, .int .i64 e.2.2.1, .int .i64 e.2.2.2.1, .int .i64 e.2.2.2.2] 61 :: cel b2 #[.int .i64 e.1, .int .i64 e.2.1, .int .i64 e.2.2.1, .int .i64 e.2.2.2.1, .int .i64 e.2.2.2.2] 63 :: Own 63 5 (ev5 (hev minI maxI Ls (List.length rs))) a1 c1 :: Arn a A :: Sh 40 1 (u32s rs) u d :: blk b1 (.map (mE (List.map oK xs)) q) :: L) w := hS
      refine WL.nil ?_
      refine WC.seq ?_
      refine WC.region ?_
      refine WL.run 3 [.int .i64 e.2.1] rfl (by exact hS.ld 0 rfl rfl) ?_
      refine WL.nil ?_
      as_aux_lemma =>
        refine WC.ifP rfl (fun hk2 => ?_) (fun hk2 => ?_)
        · refine WC.region ?_
          obtain ⟨jx, x, hj, hx⟩ := hP.pick (ev_rm hL he hk2)
          refine WL.run 3 [.int .i64 e.2.2.1] rfl (by exact hS.ld 0 rfl rfl) ?_
          refine WL.del rfl rfl mt_135 5 hS rfl rfl rfl (by first | trivial | rfl) (j := jx) (v := (.agg #[.int .i64 x.k, .int .i64 x.v, .int .i64 x.t])) (hx ▸ ki_in (f := oK) (n := OE.k) hP.k.key hP.k.uniq hj) (by rw [List.length_map]; exact (List.getElem?_eq_some_iff.1 hj).1) (fun w hS => ?_)
          replace hS : St g (cel b3 #[.int .i64 e.2.1, .int .i64 e.2.2.1, .int .i64 e.2.2.2.1, .int .i64 e.2.2.2.2] 61 :: cel b2 #[.int .i64 e.1, .int .i64 e.2.1, .int .i64 e.2.2.1, .int .i64 e.2.2.2.1, .int .i64 e.2.2.2.2] 63 :: Own 63 5 (ev5 (hev minI maxI Ls (List.length rs))) a1 c1 :: Arn a A :: Sh 40 1 (u32s rs) u d :: blk b1 (.map (mE (List.eraseIdx (List.map oK xs) jx)) q) :: L) w := hS
          refine WL.nil ?_
          refine WC.region ?_
          refine WL.r 1 rfl ?_
          refine WL.nw 40 rfl (w64 (by omega)) ?_
          refine WL.r 1 rfl ?_
          refine WL.nil ?_
          rw [er_map] at hS
          exact ⟨_, by omega, p + 1, xs.eraseIdx jx, q, rfl, (hS.sel 2 [] rfl), (by omega), (by rw [oAll_step he, oStep_2 hk2, ← hx]; exact hP.erase hj), rfl⟩
        · refine WC.region ?_
          refine WL.run 7 [.int .i64 e.2.2.1, .int .i64 e.2.2.1, .int .i64 e.2.2.2.2] rfl (by exact ⟨hS.ld 0 rfl rfl, hS.ld 0 rfl rfl, hS.ld 0 rfl rfl⟩) ?_
          refine WL.build rfl rfl (cs := [.int .i64 e.2.2.1, .int .i64 e.2.2.2.2]) zv_46 rfl rfl ?_
          refine WL.run 2 [.int .i64 e.1] rfl (by exact hS.ld 1 rfl rfl) ?_
          refine WL.build rfl rfl (cs := [.int .i64 e.2.2.1, .int .i64 e.2.2.2.2, .int .i64 e.1]) zv_71 rfl rfl ?_
          refine WL.muP rfl rfl rfl mt_135 5 hS rfl rfl rfl rfl (hP) ((fun b => OE.mk e.2.2.1 e.2.2.2.2 e.1 b)) (fun _ => rfl) (fun _ => rfl) ((e.2.2.2.2, e.1)) (fun _ => rfl) hrg (by omega) (fun xs1 q1 w hP1 hS => ?_)
          replace hS : St g (cel b3 #[.int .i64 e.2.1, .int .i64 e.2.2.1, .int .i64 e.2.2.2.1, .int .i64 e.2.2.2.2] 61 :: cel b2 #[.int .i64 e.1, .int .i64 e.2.1, .int .i64 e.2.2.1, .int .i64 e.2.2.2.1, .int .i64 e.2.2.2.2] 63 :: Own 63 5 (ev5 (hev minI maxI Ls (List.length rs))) a1 c1 :: Arn a A :: Sh 40 1 (u32s rs) u d :: blk b1 (.map (mE (List.map oK xs1)) q1) :: L) w := hS
          refine WL.nil ?_
          refine WC.region ?_
          refine WL.r 1 rfl ?_
          refine WL.nw 40 rfl (w64 (by omega)) ?_
          refine WL.r 1 rfl ?_
          refine WL.nil ?_
          exact ⟨_, by omega, p + 1, xs1, q1, rfl, (hS.sel 2 [] rfl), (by omega), (by rw [oAll_step he, oStep_n hk2]; exact hP1), rfl⟩
    · refine WC.exit ?_
      refine WC.seq ?_
      refine WC.region ?_
      have hpe : p = (hev minI maxI Ls rs.length).length := (by omega); have hP9 := hP; rw [hpe, List.take_length] at hP9; obtain ⟨hk1, hk3⟩ := hP9.keys; have hlen9 := hP9.len; have hnum9 := hP9.k.num
      refine WL.r 1 rfl ?_
      refine WL.nil ?_
      refine WC.seq ?_
      refine WC.seq ?_
      refine WC.region ?_
      have hsl := i64s_len (oks (oAll (hev minI maxI Ls rs.length))); have hwl : (oks (oAll (hev minI maxI Ls rs.length))).length = (oAll (hev minI maxI Ls rs.length)).length := List.length_map ..
      refine WL.r 1 rfl ?_
      refine WL.call rfl rfl (keysO_spec (m := b1)  (hS := hS)) rfl ?_
      clear hS; rintro _ w ⟨c2, rfl, hS⟩
      replace hS : St g (cel c2 #[.map (some b1)] 135 :: Own 63 5 (ev5 (hev minI maxI Ls (List.length rs))) a1 c1 :: Arn a A :: Sh 40 1 (u32s rs) u d :: blk b1 (.map (mE (List.map oK xs)) q) :: L) w := hS
      refine WL.call rfl rfl (sortedO_spec (m := b1) (c := c2) (q := q) (rs := xs) (ss := oks (oAll (hev minI maxI Ls (List.length rs)))) (ht := hP.k) (hp := hk1) (hs := hk3) (hS := (hS.sel 5 [0, 3, 0, 0, 0] rfl))) rfl ?_
      clear hS; rintro _ w ⟨a2, c3, rfl, hS⟩
      replace hS : St g (Own 2 1 (i64s (oks (oAll (hev minI maxI Ls (List.length rs))))) a2 c3 :: cel c2 #[.map (some b1)] 135 :: blk b1 (.map (mE (List.map oK xs)) q) :: Own 63 5 (ev5 (hev minI maxI Ls (List.length rs))) a1 c1 :: Arn a A :: Sh 40 1 (u32s rs) u d :: L) w := hS
      refine WL.r 2 rfl ?_
      refine WL.nil ?_
      refine WC.block ?_
      replace hS := hS.nil_ 71 3
      refine WC.loop [4, 5, 9, 43, 44, 45] (fun kM vs w => ∃ (k : Nat) (acc : List Or) (ub : Option Addr) (ud : Nat), vs = [.slice none 0 0, .map (some b1), .slice ub (List.length (or3 acc)) ud, .slice a2 (List.length (i64s (oks (oAll (hev minI maxI Ls (List.length rs)))))) c3, .int .i64 (List.length (i64s (oks (oAll (hev minI maxI Ls (List.length rs))))) : Int), .int .i64 (k : Int)] ∧ St g (Own 71 3 (or3 acc) ub ud :: Own 2 1 (i64s (oks (oAll (hev minI maxI Ls (List.length rs))))) a2 c3 :: cel c2 #[.map (some b1)] 135 :: blk b1 (.map (mE (List.map oK xs)) q) :: Own 63 5 (ev5 (hev minI maxI Ls (List.length rs))) a1 c1 :: Arn a A :: Sh 40 1 (u32s rs) u d :: L) w ∧ (k ≤ (oAll (hev minI maxI Ls rs.length)).length) ∧ (acc = (oAll (hev minI maxI Ls rs.length)).take k) ∧ ((oAll (hev minI maxI Ls rs.length)).length - k) = kM) ((List.length (oAll (hev minI maxI Ls (List.length rs)))) - 0) ⟨0, [], none, 0, rfl, hS, (Nat.zero_le _), (rfl), rfl⟩ ?_
      clear hS; rintro _ _ w j ⟨k, acc, ub, ud, rfl, hS, hk, ha, rfl⟩
      refine WC.seq ?_
      refine WC.region ?_
      refine WL.r 1 rfl ?_
      refine WL.nil ?_
      as_aux_lemma =>
        refine WC.seq ?_
        refine WC.ifP rfl (fun cd2 => ?_) (fun cd2 => ?_)
        · refine WC.skip ?_
          refine WC.seq ?_
          refine WC.block ?_
          refine WC.seq ?_
          refine WC.region ?_
          obtain ⟨y, hy⟩ : ∃ y, (oAll (hev minI maxI Ls rs.length))[k]? = some y := ⟨_, List.getElem?_eq_getElem (by omega)⟩; have hz : (oks (oAll (hev minI maxI Ls rs.length)))[k]? = some y.1 := (by unfold oks; rw [List.getElem?_map, hy]; rfl); obtain ⟨jx, x, hj, hx1, hx2⟩ := hP9.nth hy; have hyo : y = (x.k, x.v, x.t) := (Prod.ext hx1.symm hx2.symm); have hal : acc.length ≤ 4096 := (by rw [ha, List.length_take]; omega); have hoa := or3_len acc
          refine WL.ix rfl rfl (i := (k : Int)) (k) el_137 rfl rfl (by omega) (by omega) (hS.rdO 1 rfl (i64s_at hz)).1 ?_
          refine WL.run 2 [.int .i64 y.1] rfl (by exact (hS.rdO 1 rfl (i64s_at hz)).2 0 _ rfl) ?_
          refine WL.nil ?_
          refine WC.region ?_
          refine WL.r 3 rfl ?_
          refine WL.lk rfl rfl mt_135 3 hS rfl rfl rfl (by first | trivial | rfl) (r := some (jx, .agg #[.int .i64 x.k, .int .i64 x.v, .int .i64 x.t])) (hx1 ▸ ki_in (f := oK) (n := OE.k) hP.k.key hP.k.uniq hj) rfl ?_
          refine WL.lit rfl rfl (or3 [(x.k, x.v, x.t)]) el_67 hS (by exact ⟨rfl, rfl⟩) (or3_ok _) rfl (by decide) (fun b2 w hS => ?_)
          refine WL.app rfl rfl 1 (or3 (acc ++ [(x.k, x.v, x.t)])) el_67 hS rfl (hS.srcO 0 rfl) (or3_app _ _).symm (Rm.of (by first | omega | (simp <;> omega)) (by decide)) rfl rfl (fun a3 c4 w hS => ?_)
          replace hS : St g (Own 71 3 (or3 [(x.k, x.v, x.t)]) (some ⟨b2, 0, none⟩) (List.length (or3 [(x.k, x.v, x.t)])) :: Own 71 3 (or3 (acc ++ [(x.k, x.v, x.t)])) a3 c4 :: Own 2 1 (i64s (oks (oAll (hev minI maxI Ls (List.length rs))))) a2 c3 :: cel c2 #[.map (some b1)] 135 :: blk b1 (.map (mE (List.map oK xs)) q) :: Own 63 5 (ev5 (hev minI maxI Ls (List.length rs))) a1 c1 :: Arn a A :: Sh 40 1 (u32s rs) u d :: L) w := hS
          refine WL.r 1 rfl ?_
          refine WL.nil ?_
          refine WC.region ?_
          refine WL.r 1 rfl ?_
          refine WL.nw 55 rfl (w64 (by omega)) ?_
          refine WL.r 1 rfl ?_
          refine WL.nil ?_
          exact ⟨_, by omega, k + 1, acc ++ [(x.k, x.v, x.t)], a3, c4, rfl, (hS.sel 1 [] rfl), (by omega), (by rw [List.take_add_one, hy, ha, hyo]; rfl), rfl⟩
        · refine WC.exit ?_
          refine WC.seq ?_
          refine WC.region ?_
          refine WL.r 2 rfl ?_
          refine WL.nil ?_
          refine WC.ret ?_
          refine ⟨[.slice ub (List.length (or3 acc)) ud], rfl, ?_⟩
          replace hS := (hS.sel 5 [0] rfl)
          have e9 : acc = oAll (hev minI maxI Ls rs.length) := (by rw [ha, List.take_of_length_le (by omega)]); rw [e9] at hS ⊢; exact ⟨_, _, rfl, hS⟩
end Go.Proofs.Ytlnlnebibgdjdaa
