/-
  Transactions: the keys of a map with 64-bit keys in their order; Writes.
  Conditions: the transaction has not ended.
-/
import Derived.Test.YtlnlnebibgdjdaaTx1
import Derived.Test.YtlnlnebibgdjdaaSky
namespace Go.Proofs
open Go.RowKit Go.Maps Go.Sort Go.Shelf
theorem Try.sortsL (m : Nat) : AnyZI.SortsIn Try.prog Try.sortedL_ren Fence.wide m :=
  ⟨fun blk off cap ss W hH hblk hsz => callsIn_wide.2 (AnyM.slices_Sort_int Try.sortL blk off cap ss W hH hblk hsz),
   fun p cap W => callsIn_wide.2 (AnyM.slices_Sort_int_none Try.sortL p cap W)⟩
end Go.Proofs
namespace Go.Proofs.Ytlnlnebibgdjdaa
open Go Go.V Go.RowKit Go.Maps Go.Sort Go.Shelf

theorem keysW_spec {g w : World} {L : List HP} (m : Nat) (hS : St g (L) w) :
    Sp Try.prog 79 [.map (some m)] w (fun v w' => ∃ (c : Nat), v = .func (.func 114) #[] #[.pointer (some ⟨c, 0, none⟩)] ∧ St g (cel c #[.map (some m)] 142 :: L) w') := by
  have h := callsIn_wide.1 (AnyZI.keys_in Try.keysW Fence.wide 5 trivial rfl (some m) w)
  refine ⟨⟨_, _, Try.func79, by kernel_rfl, rfl⟩, h.mono fun e w' ⟨he, hw⟩ => ⟨_, he, ?_⟩⟩
  subst hw
  exact ⟨_, rfl, hS.new _⟩
theorem sortedW_spec {g w : World} {L : List HP} (m c q : Nat) (rs : List WE) (ss : List Int) (ht : KOk wK WE.k rs q) (hp : ss.Perm (rs.map WE.k)) (hs : ss.Pairwise (· ≤ ·)) (hS : St g (cel c #[.map (some m)] 142 :: blk m (.map (mE (List.map wK rs)) q) :: L) w) :
    Sp Try.prog 76 [.func (.func 114) #[] #[.pointer (some ⟨c, 0, none⟩)]] w (fun v w' => ∃ (a2 : Option Addr) (c2 : Nat), v = .slice a2 (List.length (i64s ss)) c2 ∧ St g (Own 2 1 (i64s ss) a2 c2 :: cel c #[.map (some m)] 142 :: blk m (.map (mE (List.map wK rs)) q) :: L) w') := by
  have hc : w.cell? ⟨c, 0, none⟩ = some (.map (some m)) := hS.ld 0 rfl rfl
  have hcl : c < w.heap.size := by
    have h1 := hS.heap 0 rfl
    exact (Array.getElem?_eq_some_iff.1 h1).1
  have hm := hS.heap 1 rfl
  obtain ⟨D, hD, hsz, hk⟩ := keys_of (P := Try.prog) (k := 2) rs q ht Try.underlying2 hm
  have hseq := AnyZI.keys_gives (ρ := Try.keysW_ren) { Try.keysW with } Fence.wide 2 trivial rfl (by omega) c m 4096 D w hcl hc hD
  have h := callsIn_wide.1 (AnyZI.sorted_in Try.sortedL Fence.wide 5 trivial trivial trivial trivial rfl (by omega) (Try.sortsL _) (enters_of Try.func112 (by kernel_rfl) rfl) 114 #[.pointer (some ⟨c, 0, none⟩)] trivial (enters_of Try.func114 (by kernel_rfl) rfl) _ _ (by rw [hsz]; exact Nat.le_trans ht.num (by decide)) (by rw [hsz]; have := ht.num; omega) w hseq)
  refine ⟨⟨_, _, Try.func76, by kernel_rfl, rfl⟩, h.mono fun e w' ⟨v, ys, he, hys, hrow, _, hb⟩ => ⟨v, he, ?_⟩⟩
  have hpp : ss.Perm ys := hp.trans (hys.trans hk).symm
  obtain ⟨a, c2, rfl, hS2⟩ := St.of_row (i64s ss) hS hb hrow (by rw [sort_eqI hpp hs, i64s_flat]) (by simpa using hpp.length_eq) (i64s_ok ss)
  exact ⟨a, c2, rfl, hS2⟩
def wks (M : Wrs) : List Int := M.map fun x => x.1
theorem WOk.pick {xs : List WE} {q : Nat} {M : Wrs} (h : WOk xs q M) {k : Nat} {e : Int × Bool × Int} (he : M[k]? = some e) : ∃ (j : Nat) (y : WE), xs[j]? = some y ∧ y.k = e.1 ∧ y.p = e.2.1 ∧ y.v = e.2.2 := by
  obtain ⟨y, hy, rfl⟩ := (h.mem e).1 (List.mem_of_getElem? he)
  obtain ⟨j, hj⟩ := List.mem_iff_getElem?.1 hy
  exact ⟨j, y, hj, rfl, rfl, rfl⟩
def wCs (M : Wrs) (k : Nat) : List (Int × Int × Int × Int) := (M.take k).map wC
theorem wCs_succ {M : Wrs} {k : Nat} {e : Int × Bool × Int} (h : M[k]? = some e) : wCs M (k + 1) = wCs M k ++ [wC e] := by
  unfold wCs; rw [List.take_add_one, h]; simp
theorem tx_writes {g w : World} {L : List HP} (x a : Nat) (rt : Int) (xs : List WE) (q : Nat) (S : Kvs) (M : Wrs) (hW : WOk xs q M) (hS : St g (Tx x a rt xs q S :: L) w) :
    Sp Try.prog 37 [.pointer (some ⟨x, 0, none⟩)] w (fun v w' => ∃ (a2 : Option Addr) (c2 : Nat), v = .slice a2 (List.length (ch4 (M.map wC))) c2 ∧ St g (Own 61 4 (ch4 (M.map wC)) a2 c2 :: Tx x a rt xs q S :: L) w') := by
  refine Sp.enter Try.func37 rfl (by kernel_rfl) (by kernel_rfl) ?_
  refine WC.seq ?_
  refine WC.region ?_
  refine WL.r 1 rfl ?_
  refine WL.nil ?_
  refine WC.seq ?_
  refine WC.seq ?_
  refine WC.region ?_
  obtain ⟨⟨xm, xu, xc⟩, hS⟩ := St.exOpen (f := txF x a rt xs q S) hS
  replace hS : St g (cel x #[.pointer (some ⟨a, 0, none⟩), .int .u32 rt, .bool false, .map (some xm), .slice xu (List.length (en2 S)) xc] 145 :: blk xm (.map (mE (List.map wK xs)) q) :: Own 153 2 (en2 S) xu xc :: L) w := hS
  have hll := hW.len; have hnm := hW.k.num; obtain ⟨hk1, hk2⟩ := hW.keys
  refine WL.run 4 [.bool false] rfl (by exact hS.ld 0 rfl rfl) ?_
  refine WL.nil ?_
  refine WC.ifF rfl rfl ?_
  refine WC.skip ?_
  refine WC.seq ?_
  refine WC.region ?_
  refine WL.r 1 rfl ?_
  refine WL.nil ?_
  refine WC.seq ?_
  refine WC.seq ?_
  refine WC.region ?_
  have hsl := i64s_len (wks M); have hwl : (wks M).length = M.length := List.length_map ..
  refine WL.run 4 [.map (some xm)] rfl (by exact hS.ld 0 rfl rfl) ?_
  refine WL.call rfl rfl (keysW_spec (m := xm)  (hS := hS)) rfl ?_
  clear hS; rintro _ w ⟨c1, rfl, hS⟩
  replace hS : St g (cel c1 #[.map (some xm)] 142 :: cel x #[.pointer (some ⟨a, 0, none⟩), .int .u32 rt, .bool false, .map (some xm), .slice xu (List.length (en2 S)) xc] 145 :: blk xm (.map (mE (List.map wK xs)) q) :: Own 153 2 (en2 S) xu xc :: L) w := hS
  refine WL.call rfl rfl (sortedW_spec (m := xm) (c := c1) (q := q) (rs := xs) (ss := wks M) (ht := hW.k) (hp := hk1) (hs := hk2) (hS := (hS.sel 3 [0, 1, 0] rfl))) rfl ?_
  clear hS; rintro _ w ⟨a1, c2, rfl, hS⟩
  replace hS : St g (Own 2 1 (i64s (wks M)) a1 c2 :: cel c1 #[.map (some xm)] 142 :: blk xm (.map (mE (List.map wK xs)) q) :: cel x #[.pointer (some ⟨a, 0, none⟩), .int .u32 rt, .bool false, .map (some xm), .slice xu (List.length (en2 S)) xc] 145 :: Own 153 2 (en2 S) xu xc :: L) w := hS
  refine WL.r 2 rfl ?_
  refine WL.nil ?_
  as_aux_lemma =>
    refine WC.block ?_
    replace hS := hS.nil_ 61 4
    refine WC.loop [0, 2, 3, 17, 18, 19] (fun kM vs w => ∃ (k : Nat) (acc : List (Int × Int × Int × Int)) (u : Option Addr) (d : Nat), vs = [.pointer (some ⟨x, 0, none⟩), .slice none 0 0, .slice u (List.length (ch4 acc)) d, .slice a1 (List.length (i64s (wks M))) c2, .int .i64 (List.length (i64s (wks M)) : Int), .int .i64 (k : Int)] ∧ St g (Own 61 4 (ch4 acc) u d :: Own 2 1 (i64s (wks M)) a1 c2 :: cel c1 #[.map (some xm)] 142 :: blk xm (.map (mE (List.map wK xs)) q) :: cel x #[.pointer (some ⟨a, 0, none⟩), .int .u32 rt, .bool false, .map (some xm), .slice xu (List.length (en2 S)) xc] 145 :: Own 153 2 (en2 S) xu xc :: L) w ∧ (k ≤ M.length) ∧ (acc = wCs M k) ∧ (M.length - k) = kM) ((List.length M) - 0) ⟨0, [], none, 0, rfl, hS, (Nat.zero_le _), (rfl), rfl⟩ ?_
    clear hS; rintro _ _ w j ⟨k, acc, u, d, rfl, hS, hk, ha, rfl⟩
    refine WC.seq ?_
    refine WC.region ?_
    have hsl := i64s_len (wks M); have hwl : (wks M).length = M.length := List.length_map ..
    refine WL.r 1 rfl ?_
    refine WL.nil ?_
    refine WC.seq ?_
    refine WC.ifP rfl (fun cd1 => ?_) (fun cd1 => ?_)
    · refine WC.skip ?_
      refine WC.seq ?_
      refine WC.block ?_
      refine WC.seq ?_
      refine WC.region ?_
      obtain ⟨e, he⟩ : ∃ e, M[k]? = some e := ⟨_, List.getElem?_eq_getElem (by omega)⟩; have hz : (wks M)[k]? = some e.1 := (by unfold wks; rw [List.getElem?_map, he]; rfl); obtain ⟨j, y, hj, hy1, hy2, hy3⟩ := WOk.pick hW he; have hac : acc.length ≤ 4096 := (by rw [ha]; unfold wCs; rw [List.length_map, List.length_take]; omega); have hal := ch4_len acc
      refine WL.ix rfl rfl (i := (k : Int)) (k) el_137 rfl rfl (by omega) (by omega) (hS.rdO 1 rfl (i64s_at hz)).1 ?_
      refine WL.run 2 [.int .i64 e.1] rfl (by exact (hS.rdO 1 rfl (i64s_at hz)).2 0 _ rfl) ?_
      refine WL.nil ?_
      refine WC.seq ?_
      refine WC.region ?_
      refine WL.r 1 rfl ?_
      refine WL.build rfl rfl (cs := [.int .i64 2, .int .i64 e.1, .int .i64 0, .int .i64 0]) zv_61 rfl rfl ?_
      refine WL.new rfl rfl zv_61 hS (fun b1 w hS => ?_)
      refine WL.stF rfl rfl rfl 0 hS rfl rfl rfl rfl rfl ag_61 (fun w hS => ?_)
      replace hS : St g (cel b1 #[.int .i64 2, .int .i64 e.1, .int .i64 0, .int .i64 0] 61 :: Own 61 4 (ch4 acc) u d :: Own 2 1 (i64s (wks M)) a1 c2 :: cel c1 #[.map (some xm)] 142 :: blk xm (.map (mE (List.map wK xs)) q) :: cel x #[.pointer (some ⟨a, 0, none⟩), .int .u32 rt, .bool false, .map (some xm), .slice xu (List.length (en2 S)) xc] 145 :: Own 153 2 (en2 S) xu xc :: L) w := hS
      refine WL.nil ?_
      as_aux_lemma =>
        refine WC.seq ?_
        refine WC.seq ?_
        refine WC.region ?_
        refine WL.run 5 [.map (some xm)] rfl (by exact hS.ld 5 rfl rfl) ?_
        refine WL.lk rfl rfl mt_142 4 hS rfl rfl rfl (by first | trivial | rfl) (r := some (j, .agg #[.bool y.p, .int .i64 y.v])) (hy1 ▸ ki_in (f := wK) (n := WE.k) hW.k.key hW.k.uniq hj) rfl ?_
        refine WL.new rfl rfl zv_148 hS (fun b2 w hS => ?_)
        refine WL.stF rfl rfl rfl 0 hS rfl rfl rfl rfl rfl ag_148 (fun w hS => ?_)
        replace hS : St g (cel b2 #[.bool y.p, .int .i64 y.v] 148 :: cel b1 #[.int .i64 2, .int .i64 e.1, .int .i64 0, .int .i64 0] 61 :: Own 61 4 (ch4 acc) u d :: Own 2 1 (i64s (wks M)) a1 c2 :: cel c1 #[.map (some xm)] 142 :: blk xm (.map (mE (List.map wK xs)) q) :: cel x #[.pointer (some ⟨a, 0, none⟩), .int .u32 rt, .bool false, .map (some xm), .slice xu (List.length (en2 S)) xc] 145 :: Own 153 2 (en2 S) xu xc :: L) w := hS
        refine WL.nil ?_
        refine WC.seq ?_
        refine WC.region ?_
        refine WL.run 2 [.bool y.p] rfl (by exact hS.ld 0 rfl rfl) ?_
        refine WL.nil ?_
        refine WC.if_ rfl (fun hp => ?_) (fun hp => ?_)
        · refine WC.plan [([0, 2, 1], some (3, [0, 1])), ([4], some (5, []))] (by kernel_rfl) (by kernel_rfl) ?_
          refine WQ.run 3 [.int .i64 y.v] rfl (by exact hS.ld 0 rfl rfl) ?_
          refine WQ.nil ?_
          intro m1
          replace hS := hS.drewN m1; generalize hwm1 : World.drewN _ _ = w at *; clear hwm1
          refine WL.st rfl rfl rfl 1 hS rfl rfl rfl rfl rfl rfl (fun w hS => ?_)
          replace hS : St g (cel b2 #[.bool y.p, .int .i64 y.v] 148 :: cel b1 #[.int .i64 3, .int .i64 e.1, .int .i64 0, .int .i64 0] 61 :: Own 61 4 (ch4 acc) u d :: Own 2 1 (i64s (wks M)) a1 c2 :: cel c1 #[.map (some xm)] 142 :: blk xm (.map (mE (List.map wK xs)) q) :: cel x #[.pointer (some ⟨a, 0, none⟩), .int .u32 rt, .bool false, .map (some xm), .slice xu (List.length (en2 S)) xc] 145 :: Own 153 2 (en2 S) xu xc :: L) w := hS
          refine WL.nil ?_
          refine ⟨by exact ⟨RQ.pure rfl rfl rfl rfl, RQ.load rfl rfl rfl rfl (hS.ld 0 rfl rfl)⟩, ?_⟩
          refine WQ.r 1 rfl ?_
          refine WQ.nil ?_
          intro m2
          replace hS := hS.drewN m2; generalize hwm2 : World.drewN _ _ = w at *; clear hwm2
          refine WL.st rfl rfl rfl 1 hS rfl rfl rfl rfl rfl rfl (fun w hS => ?_)
          replace hS : St g (cel b2 #[.bool y.p, .int .i64 y.v] 148 :: cel b1 #[.int .i64 3, .int .i64 e.1, .int .i64 0, .int .i64 y.v] 61 :: Own 61 4 (ch4 acc) u d :: Own 2 1 (i64s (wks M)) a1 c2 :: cel c1 #[.map (some xm)] 142 :: blk xm (.map (mE (List.map wK xs)) q) :: cel x #[.pointer (some ⟨a, 0, none⟩), .int .u32 rt, .bool false, .map (some xm), .slice xu (List.length (en2 S)) xc] 145 :: Own 153 2 (en2 S) xu xc :: L) w := hS
          refine WL.nil ?_
          refine ⟨by exact trivial, ?_⟩
          intro m3
          replace hS := hS.drewN m3; generalize hwm3 : World.drewN _ _ = w at *; clear hwm3
          as_aux_lemma =>
            refine WC.region ?_
            refine WL.r 1 rfl ?_
            refine WL.ldF rfl rfl 1 hS rfl rfl ag_61 ?_
            refine WL.lit rfl rfl (ch4 [(3, e.1, 0, y.v)]) el_79 hS (by exact ⟨rfl, rfl⟩) (ch4_ok _) rfl (by decide) (fun b3 w hS => ?_)
            refine WL.app rfl rfl 3 (ch4 (acc ++ [(3, e.1, 0, y.v)])) el_79 hS rfl (hS.srcO 0 rfl) (ch4_app _ _).symm (Rm.of (by first | omega | (simp <;> omega)) (by decide)) rfl rfl (fun a2 c3 w hS => ?_)
            replace hS : St g (Own 61 4 (ch4 [(3, e.1, 0, y.v)]) (some ⟨b3, 0, none⟩) (List.length (ch4 [(3, e.1, 0, y.v)])) :: cel b2 #[.bool y.p, .int .i64 y.v] 148 :: cel b1 #[.int .i64 3, .int .i64 e.1, .int .i64 0, .int .i64 y.v] 61 :: Own 61 4 (ch4 (acc ++ [(3, e.1, 0, y.v)])) a2 c3 :: Own 2 1 (i64s (wks M)) a1 c2 :: cel c1 #[.map (some xm)] 142 :: blk xm (.map (mE (List.map wK xs)) q) :: cel x #[.pointer (some ⟨a, 0, none⟩), .int .u32 rt, .bool false, .map (some xm), .slice xu (List.length (en2 S)) xc] 145 :: Own 153 2 (en2 S) xu xc :: L) w := hS
            refine WL.r 1 rfl ?_
            refine WL.nil ?_
            refine WC.region ?_
            refine WL.r 1 rfl ?_
            refine WL.nw 41 rfl (w64 (by omega)) ?_
            refine WL.r 1 rfl ?_
            refine WL.nil ?_
            exact ⟨_, by omega, k + 1, acc ++ [(3, e.1, 0, y.v)], a2, c3, rfl, (hS.sel 3 [] rfl), (by omega), (by rw [wCs_succ he, ha]; unfold wC; rw [← hy2, if_pos hp, hy3]), rfl⟩
        · refine WC.skip ?_
          refine WC.region ?_
          refine WL.r 1 rfl ?_
          refine WL.ldF rfl rfl 1 hS rfl rfl ag_61 ?_
          refine WL.lit rfl rfl (ch4 [(2, e.1, 0, 0)]) el_79 hS (by exact ⟨rfl, rfl⟩) (ch4_ok _) rfl (by decide) (fun b3 w hS => ?_)
          refine WL.app rfl rfl 3 (ch4 (acc ++ [(2, e.1, 0, 0)])) el_79 hS rfl (hS.srcO 0 rfl) (ch4_app _ _).symm (Rm.of (by first | omega | (simp <;> omega)) (by decide)) rfl rfl (fun a2 c3 w hS => ?_)
          replace hS : St g (Own 61 4 (ch4 [(2, e.1, 0, 0)]) (some ⟨b3, 0, none⟩) (List.length (ch4 [(2, e.1, 0, 0)])) :: cel b2 #[.bool y.p, .int .i64 y.v] 148 :: cel b1 #[.int .i64 2, .int .i64 e.1, .int .i64 0, .int .i64 0] 61 :: Own 61 4 (ch4 (acc ++ [(2, e.1, 0, 0)])) a2 c3 :: Own 2 1 (i64s (wks M)) a1 c2 :: cel c1 #[.map (some xm)] 142 :: blk xm (.map (mE (List.map wK xs)) q) :: cel x #[.pointer (some ⟨a, 0, none⟩), .int .u32 rt, .bool false, .map (some xm), .slice xu (List.length (en2 S)) xc] 145 :: Own 153 2 (en2 S) xu xc :: L) w := hS
          refine WL.r 1 rfl ?_
          refine WL.nil ?_
          refine WC.region ?_
          refine WL.r 1 rfl ?_
          refine WL.nw 41 rfl (w64 (by omega)) ?_
          refine WL.r 1 rfl ?_
          refine WL.nil ?_
          exact ⟨_, by omega, k + 1, acc ++ [(2, e.1, 0, 0)], a2, c3, rfl, (hS.sel 3 [] rfl), (by omega), (by rw [wCs_succ he, ha]; unfold wC; rw [← hy2, if_neg (by rw [hp]; decide)]), rfl⟩
    · refine WC.exit ?_
      refine WC.seq ?_
      refine WC.region ?_
      refine WL.r 2 rfl ?_
      refine WL.nil ?_
      refine WC.ret ?_
      replace hS := St.exClose (f := txF x a rt xs q S) (L := Own 61 4 (ch4 acc) u d :: Own 2 1 (i64s (wks M)) a1 c2 :: cel c1 #[.map (some xm)] 142 :: L) ⟨xm, xu, xc⟩ ((hS.sel 6 [4, 3, 3, 0, 0, 0] rfl))
      replace hS : St g (Tx x a rt xs q S :: Own 61 4 (ch4 acc) u d :: Own 2 1 (i64s (wks M)) a1 c2 :: cel c1 #[.map (some xm)] 142 :: L) w := hS
      refine ⟨[.slice u (List.length (ch4 acc)) d], rfl, ?_⟩
      replace hS := (hS.sel 4 [1, 0] rfl)
      have e9 : acc = M.map wC := (by rw [ha]; unfold wCs; rw [List.take_of_length_le (by omega)]); rw [e9] at hS ⊢; exact ⟨_, _, rfl, hS⟩
end Go.Proofs.Ytlnlnebibgdjdaa
