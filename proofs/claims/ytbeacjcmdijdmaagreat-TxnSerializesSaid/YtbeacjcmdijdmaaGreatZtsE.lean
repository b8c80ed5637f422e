/-
  The row of TxnSerializes: for every input the law returns true, and the arguments read as before.
  Conditions: none.
-/
import Derived.Test.YtbeacjcmdijdmaaGreatZtsD
import Derived.Test.YtbeacjcmdijdmaaGreatJtzq
/-! ## Y7 -/
namespace Go.Proofs.YtbeacjcmdijdmaaGreat
open Go Go.V Go.RowKit Go.Maps
def seenV (k v : Int) (b : Bool) : Kvs := if b then [(k, v)] else [(k, 0), (k, 0)]
theorem seenV_len (k v : Int) (b : Bool) : (seenV k v b).length ≤ 2 := by cases b <;> simp [seenV]
theorem seenV_o (k : Int) (o : Option Int) : seenV k (o.getD 0) o.isSome = seenE k o := by cases o <;> rfl
set_option maxRecDepth 8192 in
theorem seen26 {g w : World} {L : List HP} (k z : Int) (b : Bool) (hS : St g (L) w) :
    Sp Tryz.prog 99 [.int .i64 k, .int .i64 z, .bool b] w (fun v w' => ∃ (a2 : Option Addr) (c2 : Nat), v = .slice a2 (List.length (en2 (seenV k z b))) c2 ∧ St g (Own 121 2 (en2 (seenV k z b)) a2 c2 :: L) w') := by
  refine Sp.enter Tryz.func99 rfl (by kernel_rfl) (by kernel_rfl) ?_
  refine WC.seq <| WC.region <| WL.r 1 rfl <| WL.nil <| WC.seq <| WC.seq <| WC.region <| WL.r 1 rfl <| WL.nil <| WC.if_ rfl (fun hb => ?_) (fun hb => ?_)
  · refine WC.seq <| WC.region <| WL.r 2 rfl <| WL.build rfl rfl (cs := [.int .i64 k, .int .i64 z]) zv_121 rfl rfl <| WL.lit rfl rfl (en2 [(k, z)]) el_49 hS (by exact ⟨rfl, rfl⟩) (en2_ok _) rfl (Nat.le_of_ble_eq_true rfl) (fun b1 w hS => ?_)
    refine WL.r 1 rfl <| WL.nil <| WC.ret ?_
    refine ⟨[.slice (some ⟨b1, 0, none⟩) (List.length (en2 [(k, z)])) (List.length (en2 [(k, z)]))], rfl, ?_⟩
    have e9 : seenV k z b = [(k, z)] := if_pos hb; rw [e9]; exact ⟨_, _, rfl, hS⟩
  · refine WC.skip <| WC.seq <| WC.region <| WL.r 1 rfl <| WL.build rfl rfl (cs := [.int .i64 k, .int .i64 0]) zv_121 rfl rfl <| WL.r 1 rfl <| WL.build rfl rfl (cs := [.int .i64 k, .int .i64 0]) zv_121 rfl rfl <| WL.lit rfl rfl (en2 [(k, 0), (k, 0)]) el_49 hS (by exact ⟨rfl, rfl, rfl, rfl⟩) (en2_ok _) rfl (Nat.le_of_ble_eq_true rfl) (fun b1 w hS => ?_)
    refine WL.r 1 rfl <| WL.nil <| WC.ret ?_
    refine ⟨[.slice (some ⟨b1, 0, none⟩) (List.length (en2 [(k, 0), (k, 0)])) (List.length (en2 [(k, 0), (k, 0)]))], rfl, ?_⟩
    have e9 : seenV k z b = [(k, 0), (k, 0)] := if_neg (by rw [hb]; decide); rw [e9]; exact ⟨_, _, rfl, hS⟩
def rdA (l : Kvs) (s : TS) (a : A4) : Kvs :=
  if a.1 % 8 = 2 then btw a.2.1 a.2.2.2 (lwA s.M l)
  else if a.1 % 8 = 3 ∨ a.1 % 8 = 4 ∨ a.1 % 8 = 5 then []
  else if a.1 % 8 = 6 then []
  else if a.1 % 8 = 7 then seenE a.2.2.2 (lget a.2.2.2 (lwA s.M l))
  else seenE a.2.1 (lget a.2.1 (lwA s.M l))
theorem act_sn (l : Kvs) (s : TS) (a : A4) : (actT l s a).sn = s.sn ++ rdA l s a := by
  unfold actT rdA
  split
  · rfl
  · split
    · exact (List.append_nil _).symm
    · split
      · exact (List.append_nil _).symm
      · split <;> rfl
structure PT (n : Nat) (xs : List WE) (q : Nat) (s : TS) : Prop where
  w : WOk xs q s.M
  rS : SpR s.S
  sl : s.S.length ≤ n
  ml : s.M.length ≤ n
  z : ∀ e ∈ s.M, e.2.1 = false → e.2.2 = 0
theorem PT.nil : PT 0 [] 0 TS0 := ⟨WOk.nil, fun _ h => (by cases h), Nat.le_refl _, Nat.le_refl _, fun _ h => (by cases h)⟩
section
variable {n : Nat} {xs xs2 : List WE} {q q2 : Nat} {s : TS}
theorem PT.val (h : PT n xs q s) {t : Tr} (hs : Srt t.ls) (k : Int) : vGet k s.M t = ((lget k (lwA s.M t.ls)).getD 0, (lget k (lwA s.M t.ls)).isSome) := by
  rw [lwA_get s.M hs h.w.srt k]
  unfold vGet wvw
  cases hg : wget k s.M with
  | none => rw [Tr.get_ls k t hs]
  | some y =>
    obtain ⟨p, v⟩ := y
    cases p with
    | true => rfl
    | false =>
      have h1 := h.z _ ((wget_some h.w.srt).1 hg) rfl
      show (v, false) = (0, false)
      rw [show v = 0 from h1]
theorem PT.full (h : PT n xs q s) (hn : n ≤ 900) (k : Int) : ¬ wFull k s.M := fun hf => by
  have h1 := hf.2; have h2 := h.ml; omega
theorem PT.put (h : PT n xs q s) (hn : n ≤ 900) {k : Int} {y : Bool × Int} (hw : WOk xs2 q2 (wNew k y s.M)) (hy : y.1 = false → y.2 = 0) {S2 sn2 : Kvs} (hS : SpR S2) (hl : S2.length ≤ n + 1) : PT (n + 1) xs2 q2 ⟨wput k y s.M, S2, sn2⟩ := by
  rw [wNew_f (h.full hn k)] at hw
  refine ⟨hw, hS, hl, Nat.le_trans (wput_len k y s.M) (Nat.succ_le_succ h.ml), fun e he => ?_⟩
  rcases (wput_mem e).1 he with rfl | ⟨he, _⟩
  · exact hy
  · exact h.z e he
theorem PT.rd (h : PT n xs q s) {S2 sn2 : Kvs} (hS : SpR S2) (hl : S2.length ≤ n + 1) : PT (n + 1) xs q ⟨s.M, S2, sn2⟩ := ⟨h.w, hS, hl, Nat.le_succ_of_le h.ml, h.z⟩
theorem PT.gR (h : PT n xs q s) {k : Int} (hk : i64R k) : SpR (gS k s.M s.S) ∧ (gS k s.M s.S).length ≤ n + 1 := by
  have h1 := h.sl
  unfold gS
  split
  · exact ⟨h.rS, by omega⟩
  · have h2 := rdF_len k k s.S
    exact ⟨rdF_R ⟨hk, hk⟩ h.rS, by omega⟩
end
theorem a2_ {l : Kvs} {s : TS} {a : A4} (h : a.1 % 8 = 2) : actT l s a = ⟨s.M, rdS a.2.1 a.2.2.2 s.S, s.sn ++ btw a.2.1 a.2.2.2 (lwA s.M l)⟩ ∧ rdA l s a = btw a.2.1 a.2.2.2 (lwA s.M l) := ⟨if_pos h, if_pos h⟩
theorem a3_ {l : Kvs} {s : TS} {a : A4} (h : a.1 % 8 = 3 ∨ a.1 % 8 = 4 ∨ a.1 % 8 = 5) : actT l s a = ⟨wput a.2.1 (true, a.2.2.1) s.M, s.S, s.sn⟩ ∧ rdA l s a = [] := by
  have h2 : ¬ a.1 % 8 = 2 := by omega
  unfold actT rdA; rw [if_neg h2, if_neg h2, if_pos h, if_pos h]; exact ⟨rfl, rfl⟩
theorem a6_ {l : Kvs} {s : TS} {a : A4} (h : a.1 % 8 = 6) : actT l s a = ⟨wput a.2.1 (false, 0) s.M, s.S, s.sn⟩ ∧ rdA l s a = [] := by
  have h2 : ¬ a.1 % 8 = 2 := by omega
  have h3 : ¬ (a.1 % 8 = 3 ∨ a.1 % 8 = 4 ∨ a.1 % 8 = 5) := by omega
  unfold actT rdA; rw [if_neg h2, if_neg h2, if_neg h3, if_neg h3, if_pos h, if_pos h]; exact ⟨rfl, rfl⟩
theorem a7_ {l : Kvs} {s : TS} {a : A4} (h : a.1 % 8 = 7) : actT l s a = ⟨wput a.2.1 (true, IntKind.i64.wrap ((lget a.2.2.2 (lwA s.M l)).getD 0 + a.2.2.1)) s.M, gS a.2.2.2 s.M s.S, s.sn ++ seenE a.2.2.2 (lget a.2.2.2 (lwA s.M l))⟩ ∧ rdA l s a = seenE a.2.2.2 (lget a.2.2.2 (lwA s.M l)) := by
  have h2 : ¬ a.1 % 8 = 2 := by omega
  have h3 : ¬ (a.1 % 8 = 3 ∨ a.1 % 8 = 4 ∨ a.1 % 8 = 5) := by omega
  have h6 : ¬ a.1 % 8 = 6 := by omega
  unfold actT rdA; rw [if_neg h2, if_neg h2, if_neg h3, if_neg h3, if_neg h6, if_neg h6, if_pos h, if_pos h]; exact ⟨rfl, rfl⟩
theorem a0_ {l : Kvs} {s : TS} {a : A4} (h : a.1 % 8 ≠ 2 ∧ a.1 % 8 ≠ 3 ∧ a.1 % 8 ≠ 4 ∧ a.1 % 8 ≠ 5 ∧ a.1 % 8 ≠ 6 ∧ a.1 % 8 ≠ 7) : actT l s a = ⟨s.M, gS a.2.1 s.M s.S, s.sn ++ seenE a.2.1 (lget a.2.1 (lwA s.M l))⟩ ∧ rdA l s a = seenE a.2.1 (lget a.2.1 (lwA s.M l)) := by
  have h3 : ¬ (a.1 % 8 = 3 ∨ a.1 % 8 = 4 ∨ a.1 % 8 = 5) := by omega
  unfold actT rdA; rw [if_neg h.1, if_neg h.1, if_neg h3, if_neg h3, if_neg h.2.2.2.2.1, if_neg h.2.2.2.2.1, if_neg h.2.2.2.2.2, if_neg h.2.2.2.2.2]; exact ⟨rfl, rfl⟩
set_option maxHeartbeats 1000000 in
set_option maxRecDepth 8192 in
theorem act26 {g w : World} {L : List HP} (x a : Nat) (rt : Int) (xs : List WE) (q : Nat) (A : AM) (RA : List Int) (t : Tr) (n : Nat) (s : TS) (c : A4) (hP : PT n xs q s) (hn : n ≤ 900) (hA : ARf A RA) (hi9 : Is A t rt) (hs : Srt t.ls) (htn : t.n ≤ 50000) (hc : i64R c.1 ∧ i64R c.2.1 ∧ i64R c.2.2.1 ∧ i64R c.2.2.2) (hS : St g (Tx x a rt xs q s.S :: Arn a A :: L) w) :
    Sp Tryz.prog 30 [.pointer (some ⟨x, 0, none⟩), .agg #[.int .i64 c.1, .int .i64 c.2.1, .int .i64 c.2.2.1, .int .i64 c.2.2.2]] w (fun v w' => ∃ (xs2 : List WE) (q2 : Nat) (ra : Option Addr) (rc : Nat), v = .tuple #[.slice ra (List.length (en2 (rdA t.ls s c))) rc, .bool true] ∧ St g (Own 121 2 (en2 (rdA t.ls s c)) ra rc :: Tx x a rt xs2 q2 (actT t.ls s c).S :: Arn a A :: L) w' ∧ (PT (n + 1) xs2 q2 (actT t.ls s c))) := by
  refine Sp.enter Tryz.func30 rfl (by kernel_rfl) (by kernel_rfl) ?_
  have _ := htn
  refine WC.seq <| WC.region <| WL.box rfl rfl #[.int .i64 c.1, .int .i64 c.2.1, .int .i64 c.2.2.1, .int .i64 c.2.2.2] hS rfl rfl (fun b1 w hS => ?_)
  refine WL.r 2 rfl <| WL.nil <| WC.seq <| WC.seq <| WC.region ?_
  have hW := hP.w; have hml := hP.ml; have hsl := hP.sl; have hva := fun k => hP.val hs k; have hnf := fun k => wErr_f (hP.full hn k)
  refine WL.run 2 [.int .i64 c.1] rfl (by exact hS.ld 0 rfl rfl) ?_
  refine WL.call rfl rfl (md_spec (k := c.1) (n := 8) (hk := hc.1) (hn := (by decide)) (hS := hS)) rfl ?_
  clear hS; rintro _ w ⟨rfl, hS⟩
  replace hS := hS.n3 L (a0 := cel b1 #[.int .i64 c.1, .int .i64 c.2.1, .int .i64 c.2.2.1, .int .i64 c.2.2.2] 89) rfl
  refine WL.nil <| WC.block <| WC.seq <| WC.region <| WL.r 2 rfl <| WL.nil <| WC.ifP rfl (fun cd1 => ?_) (fun cd1 => ?_)
  · refine WC.seq <| WC.region <| WL.run 5 [.int .i64 c.2.1, .int .i64 c.2.2.2] rfl (by exact ⟨hS.ld 0 rfl rfl, hS.ld 0 rfl rfl⟩) ?_
    refine WL.call rfl rfl (tx_range (S := s.S) (M := s.M) (R := RA) (lo := c.2.1) (hi := c.2.2.2) (t := t) (hW := hW) (hA := hA) (hi9 := hi9) (hs := hs) (htn := (by omega)) (hlo := hc.2.1) (hhi := hc.2.2.2) (hR := hP.rS) (hSl := (by omega)) (hS := (hS.sel 3 [1, 1, 0] rfl))) rfl ?_
    clear hS; rintro _ w ⟨u1, c1, rfl, hS⟩
    replace hS := hS.n4 L (a0 := Own 121 2 (en2 (btw c.2.1 c.2.2.2 (lwA s.M t.ls))) u1 c1) (a1 := Tx x a rt xs q (rdS c.2.1 c.2.2.2 s.S)) rfl
    refine WL.r 5 rfl <| WL.nil ?_
    as_aux_lemma =>
    refine WC.seq <| WC.region <| WL.r 5 rfl <| WL.nil <| WC.ret ?_
    refine ⟨[.slice u1 (List.length (en2 (btw c.2.1 c.2.2.2 (lwA s.M t.ls)))) c1, .bool (decide (0 = 0))], ⟨rfl, rfl⟩, ?_⟩
    replace hS := (hS.sel 4 [0, 0, 0] rfl)
    obtain ⟨e1, e2⟩ := a2_ (l := t.ls) (s := s) cd1; rw [e1, e2]; exact ⟨_, _, _, _, rfl, hS, hP.rd (rdS_R ⟨hc.2.1, hc.2.2.2⟩ hP.rS) (by have := rdS_len c.2.1 c.2.2.2 s.S; omega)⟩
  · refine WC.seq <| WC.seq <| WC.region <| WL.r 2 rfl <| WL.nil ?_
    as_aux_lemma =>
    refine WC.ifP rfl (fun cd2 => ?_) (fun cd2 => ?_)
    · refine WC.skip <| WC.ifT rfl (decide_eq_true cd2) <| WC.seq <| WC.region ?_
      replace hS : St g (Own 121 2 (en2 []) none 0 :: cel b1 #[.int .i64 c.1, .int .i64 c.2.1, .int .i64 c.2.2.1, .int .i64 c.2.2.2] 89 :: Tx x a rt xs q s.S :: Arn a A :: L) w := hS.nil_ 121 2
      refine WL.run 5 [.int .i64 c.2.1, .int .i64 c.2.2.1] rfl (by exact ⟨hS.ld 1 rfl rfl, hS.ld 1 rfl rfl⟩) ?_
      refine WL.call rfl rfl (tx_put (S := s.S) (M := s.M) (k := c.2.1) (z := c.2.2.1) (hW := hW) (hr := hc.2.1) (hS := (hS.sel 3 [2, 0, 0] rfl))) rfl ?_
      clear hS; rintro _ w ⟨xs1, q1, rfl, hS, f1⟩
      replace hS := hS.n4 L (a0 := Tx x a rt xs1 q1 s.S) (a1 := Own 121 2 (en2 []) none 0) rfl
      refine WL.r 3 rfl <| WL.nil <| WC.ret ?_
      refine ⟨[.slice none 0 0, .bool (decide ((wErr c.2.1 s.M) = 0))], ⟨rfl, rfl⟩, ?_⟩
      replace hS := (hS.sel 3 [1, 0] rfl)
      obtain ⟨e1, e2⟩ := a3_ (l := t.ls) (s := s) (a := c) (by omega); rw [e1, e2]; exact ⟨_, _, none, 0, by rw [hnf]; rfl, hS, hP.put hn f1 (fun h => by cases h) hP.rS (by omega)⟩
    · refine WC.seq <| WC.region <| WL.r 2 rfl <| WL.nil <| WC.ifP rfl (fun cd3 => ?_) (fun cd3 => ?_)
      · refine WC.skip <| WC.ifT rfl (decide_eq_true cd3) <| WC.seq <| WC.region ?_
        replace hS : St g (Own 121 2 (en2 []) none 0 :: cel b1 #[.int .i64 c.1, .int .i64 c.2.1, .int .i64 c.2.2.1, .int .i64 c.2.2.2] 89 :: Tx x a rt xs q s.S :: Arn a A :: L) w := hS.nil_ 121 2
        refine WL.run 5 [.int .i64 c.2.1, .int .i64 c.2.2.1] rfl (by exact ⟨hS.ld 1 rfl rfl, hS.ld 1 rfl rfl⟩) ?_
        refine WL.call rfl rfl (tx_put (S := s.S) (M := s.M) (k := c.2.1) (z := c.2.2.1) (hW := hW) (hr := hc.2.1) (hS := (hS.sel 3 [2, 0, 0] rfl))) rfl ?_
        clear hS; rintro _ w ⟨xs1, q1, rfl, hS, f1⟩
        replace hS := hS.n4 L (a0 := Tx x a rt xs1 q1 s.S) (a1 := Own 121 2 (en2 []) none 0) rfl
        refine WL.r 3 rfl <| WL.nil <| WC.ret ?_
        refine ⟨[.slice none 0 0, .bool (decide ((wErr c.2.1 s.M) = 0))], ⟨rfl, rfl⟩, ?_⟩
        replace hS := (hS.sel 3 [1, 0] rfl)
        obtain ⟨e1, e2⟩ := a3_ (l := t.ls) (s := s) (a := c) (by omega); rw [e1, e2]; exact ⟨_, _, none, 0, by rw [hnf]; rfl, hS, hP.put hn f1 (fun h => by cases h) hP.rS (by omega)⟩
      · refine WC.region <| WL.r 2 rfl <| WL.nil <| WC.ifP rfl (fun cd4 => ?_) (fun cd4 => ?_)
        · refine WC.seq <| WC.region ?_
          replace hS : St g (Own 121 2 (en2 []) none 0 :: cel b1 #[.int .i64 c.1, .int .i64 c.2.1, .int .i64 c.2.2.1, .int .i64 c.2.2.2] 89 :: Tx x a rt xs q s.S :: Arn a A :: L) w := hS.nil_ 121 2
          refine WL.run 5 [.int .i64 c.2.1, .int .i64 c.2.2.1] rfl (by exact ⟨hS.ld 1 rfl rfl, hS.ld 1 rfl rfl⟩) ?_
          refine WL.call rfl rfl (tx_put (S := s.S) (M := s.M) (k := c.2.1) (z := c.2.2.1) (hW := hW) (hr := hc.2.1) (hS := (hS.sel 3 [2, 0, 0] rfl))) rfl ?_
          clear hS; rintro _ w ⟨xs1, q1, rfl, hS, f1⟩
          replace hS := hS.n4 L (a0 := Tx x a rt xs1 q1 s.S) (a1 := Own 121 2 (en2 []) none 0) rfl
          refine WL.r 3 rfl <| WL.nil <| WC.ret ?_
          refine ⟨[.slice none 0 0, .bool (decide ((wErr c.2.1 s.M) = 0))], ⟨rfl, rfl⟩, ?_⟩
          replace hS := (hS.sel 3 [1, 0] rfl)
          obtain ⟨e1, e2⟩ := a3_ (l := t.ls) (s := s) (a := c) (by omega); rw [e1, e2]; exact ⟨_, _, none, 0, by rw [hnf]; rfl, hS, hP.put hn f1 (fun h => by cases h) hP.rS (by omega)⟩
        · refine WC.seq <| WC.region <| WL.r 2 rfl <| WL.nil <| WC.ifP rfl (fun cd5 => ?_) (fun cd5 => ?_)
          · refine WC.seq <| WC.region ?_
            replace hS : St g (Own 121 2 (en2 []) none 0 :: cel b1 #[.int .i64 c.1, .int .i64 c.2.1, .int .i64 c.2.2.1, .int .i64 c.2.2.2] 89 :: Tx x a rt xs q s.S :: Arn a A :: L) w := hS.nil_ 121 2
            refine WL.run 3 [.int .i64 c.2.1] rfl (by exact hS.ld 1 rfl rfl) ?_
            refine WL.call rfl rfl (tx_del (S := s.S) (M := s.M) (k := c.2.1) (hW := hW) (hr := hc.2.1) (hS := (hS.sel 3 [2, 0, 0] rfl))) rfl ?_
            clear hS; rintro _ w ⟨xs1, q1, rfl, hS, f1⟩
            replace hS := hS.n4 L (a0 := Tx x a rt xs1 q1 s.S) (a1 := Own 121 2 (en2 []) none 0) rfl
            refine WL.r 3 rfl <| WL.nil <| WC.ret ?_
            refine ⟨[.slice none 0 0, .bool (decide ((wErr c.2.1 s.M) = 0))], ⟨rfl, rfl⟩, ?_⟩
            replace hS := (hS.sel 3 [1, 0] rfl)
            obtain ⟨e1, e2⟩ := a6_ (l := t.ls) (s := s) (a := c) (by omega); rw [e1, e2]; exact ⟨_, _, none, 0, by rw [hnf]; rfl, hS, hP.put hn f1 (fun _ => rfl) hP.rS (by omega)⟩
          · refine WC.seq <| WC.region <| WL.r 2 rfl <| WL.nil <| WC.ifP rfl (fun cd6 => ?_) (fun cd6 => ?_)
            · refine WC.seq <| WC.region <| WL.run 3 [.int .i64 c.2.2.2] rfl (by exact hS.ld 0 rfl rfl) ?_
              refine WL.call rfl rfl (tx_get (S := s.S) (M := s.M) (R := RA) (k := c.2.2.2) (t := t) (hW := hW) (hA := hA) (hi := hi9) (hk := hc.2.2.2) (hR := hP.rS) (hSl := (by omega)) (hS := (hS.sel 3 [1, 1, 0] rfl))) rfl ?_
              clear hS; rintro _ w ⟨rfl, hS⟩
              replace hS := hS.n3 L (a0 := Tx x a rt xs q (gSp c.2.2.2 s.M s.S)) rfl
              refine WL.r 7 rfl <| WL.nil ?_
              as_aux_lemma =>
              refine WC.seq <| WC.region <| WL.run 7 [.int .i64 c.2.1, .int .i64 c.2.2.1] rfl (by exact ⟨hS.ld 2 rfl rfl, hS.ld 2 rfl rfl⟩) ?_
              refine WL.call rfl rfl (tx_put (S := gSp c.2.2.2 s.M s.S) (M := s.M) (k := c.2.1) (z := IntKind.i64.wrap ((vGet c.2.2.2 s.M t).1 + c.2.2.1)) (hW := hW) (hr := hc.2.1) (hS := hS)) rfl ?_
              clear hS; rintro _ w ⟨xs1, q1, rfl, hS, f1⟩
              replace hS := hS.n3 L (a0 := Tx x a rt xs1 q1 (gSp c.2.2.2 s.M s.S)) rfl
              refine WL.r 1 rfl <| WL.nil <| WC.seq <| WC.region <| WL.run 4 [.int .i64 c.2.2.2] rfl (by exact hS.ld 2 rfl rfl) ?_
              refine WL.call rfl rfl (seen26 (k := c.2.2.2) (z := (vGet c.2.2.2 s.M t).1) (b := (vGet c.2.2.2 s.M t).2)  (hS := hS)) rfl ?_
              clear hS; rintro _ w ⟨a1, c1, rfl, hS⟩
              replace hS := hS.n4 L (a0 := Own 121 2 (en2 (seenV c.2.2.2 (vGet c.2.2.2 s.M t).1 (vGet c.2.2.2 s.M t).2)) a1 c1) rfl
              refine WL.r 2 rfl <| WL.rG 6 rfl (fun j => ?_)
              refine WL.prop 78 rfl (band (dd _) (dd _)) <| WL.nil <| WC.ret ?_
              refine ⟨[.slice a1 (List.length (en2 (seenV c.2.2.2 (vGet c.2.2.2 s.M t).1 (vGet c.2.2.2 s.M t).2))) c1, .bool (bif (decide (0 = 0)) then (decide ((wErr c.2.1 s.M) = 0)) else false)], ⟨rfl, rfl⟩, ?_⟩
              replace hS := (hS.sel 4 [0, 0, 0] rfl)
              obtain ⟨e1, e2⟩ := a7_ (l := t.ls) (s := s) (a := c) (by omega); rw [e1, e2]; rw [hva c.2.2.2, seenV_o] at hS ⊢; rw [hva c.2.2.2] at f1; obtain ⟨g1, g2⟩ := hP.gR hc.2.2.2; exact ⟨_, _, _, _, by rw [hnf]; rfl, hS, hP.put hn f1 (fun h => by cases h) g1 g2⟩
            · refine WC.skip <| WC.seq <| WC.region <| WL.run 3 [.int .i64 c.2.1] rfl (by exact hS.ld 0 rfl rfl) ?_
              refine WL.call rfl rfl (tx_get (S := s.S) (M := s.M) (R := RA) (k := c.2.1) (t := t) (hW := hW) (hA := hA) (hi := hi9) (hk := hc.2.1) (hR := hP.rS) (hSl := (by omega)) (hS := (hS.sel 3 [1, 1, 0] rfl))) rfl ?_
              clear hS; rintro _ w ⟨rfl, hS⟩
              replace hS := hS.n3 L (a0 := Tx x a rt xs q (gSp c.2.1 s.M s.S)) rfl
              refine WL.r 7 rfl <| WL.nil ?_
              as_aux_lemma =>
              refine WC.seq <| WC.region <| WL.run 4 [.int .i64 c.2.1] rfl (by exact hS.ld 2 rfl rfl) ?_
              refine WL.call rfl rfl (seen26 (k := c.2.1) (z := (vGet c.2.1 s.M t).1) (b := (vGet c.2.1 s.M t).2)  (hS := hS)) rfl ?_
              clear hS; rintro _ w ⟨a1, c1, rfl, hS⟩
              replace hS := hS.n4 L (a0 := Own 121 2 (en2 (seenV c.2.1 (vGet c.2.1 s.M t).1 (vGet c.2.1 s.M t).2)) a1 c1) rfl
              refine WL.r 4 rfl <| WL.nil <| WC.ret ?_
              refine ⟨[.slice a1 (List.length (en2 (seenV c.2.1 (vGet c.2.1 s.M t).1 (vGet c.2.1 s.M t).2))) c1, .bool (decide (0 = 0))], ⟨rfl, rfl⟩, ?_⟩
              replace hS := (hS.sel 4 [0, 0, 0] rfl)
              obtain ⟨e1, e2⟩ := a0_ (l := t.ls) (s := s) (a := c) (by omega); rw [e1, e2]; rw [hva c.2.1, seenV_o] at hS ⊢; obtain ⟨g1, g2⟩ := hP.gR hc.2.1; exact ⟨_, _, _, _, rfl, hS, hP.rd g1 g2⟩
theorem s2_ {p : Kvs × Kvs} {a : A4} (h : a.1 % 8 = 2) : serA p a = (p.1, p.2 ++ btw a.2.1 a.2.2.2 p.1) := if_pos h
theorem s3_ {p : Kvs × Kvs} {a : A4} (h : a.1 % 8 = 3 ∨ a.1 % 8 = 4 ∨ a.1 % 8 = 5) : serA p a = (lins a.2.1 a.2.2.1 p.1, p.2) := by
  unfold serA; rw [if_neg (by omega), if_pos h]
theorem s6_ {p : Kvs × Kvs} {a : A4} (h : a.1 % 8 = 6) : serA p a = (ldel a.2.1 p.1, p.2) := by
  unfold serA; rw [if_neg (by omega), if_neg (by omega), if_pos h]
theorem s7_ {p : Kvs × Kvs} {a : A4} (h : a.1 % 8 = 7) : serA p a = (lins a.2.1 (IntKind.i64.wrap ((lget a.2.2.2 p.1).getD 0 + a.2.2.1)) p.1, p.2 ++ seenE a.2.2.2 (lget a.2.2.2 p.1)) := by
  unfold serA; rw [if_neg (by omega), if_neg (by omega), if_neg (by omega), if_pos h]
theorem s0_ {p : Kvs × Kvs} {a : A4} (h : a.1 % 8 ≠ 2 ∧ a.1 % 8 ≠ 3 ∧ a.1 % 8 ≠ 4 ∧ a.1 % 8 ≠ 5 ∧ a.1 % 8 ≠ 6 ∧ a.1 % 8 ≠ 7) : serA p a = (p.1, p.2 ++ seenE a.2.1 (lget a.2.1 p.1)) := by
  unfold serA; rw [if_neg (by omega), if_neg (by omega), if_neg (by omega), if_neg (by omega)]
theorem seenE_len (k : Int) (o : Option Int) : (seenE k o).length ≤ 2 := by
  cases o with
  | none => exact Nat.le_refl 2
  | some v => exact Nat.le_succ 1
theorem ser_step {p : Kvs × Kvs} (a : A4) (h : Srt p.1) : Srt (serA p a).1 ∧ (serA p a).1.length ≤ p.1.length + 1 ∧ (serA p a).2.length ≤ p.2.length + p.1.length + 2 := by
  unfold serA
  have hi : ∀ z, (lins a.2.1 z p.1).length ≤ p.1.length + 1 := fun z => by
    have := lins_len (k := a.2.1) (v := z) h
    split at this <;> omega
  split
  · refine ⟨h, Nat.le_succ _, ?_⟩
    have := List.length_filter_le (inK a.2.1 a.2.2.2) p.1
    rw [List.length_append]; unfold btw; omega
  · split
    · exact ⟨lins_srt h, hi _, by show p.2.length ≤ _; omega⟩
    · split
      · refine ⟨ldel_srt h, ?_, by show p.2.length ≤ _; omega⟩
        have := List.length_filter_le (fun x : Int × Int => decide (x.1 ≠ a.2.1)) p.1
        show (ldel a.2.1 p.1).length ≤ _
        unfold ldel; omega
      · split
        · refine ⟨lins_srt h, hi _, ?_⟩
          have := seenE_len a.2.2.2 (lget a.2.2.2 p.1)
          rw [List.length_append]; omega
        · refine ⟨h, Nat.le_succ _, ?_⟩
          have := seenE_len a.2.1 (lget a.2.1 p.1)
          rw [List.length_append]; omega
set_option maxHeartbeats 1000000 in
set_option maxRecDepth 8192 in
theorem serial26 {g w : World} {L : List HP} (l : Kvs) (acts : List A4) (sa la : Option Addr) (sc lc : Nat) (hs : Srt l) (hl : l.length ≤ 900) (hal : acts.length ≤ 100) (hc : ∀ c ∈ acts, i64R c.1 ∧ i64R c.2.1 ∧ i64R c.2.2.1 ∧ i64R c.2.2.2) (hS : St g (Sh 121 2 (en2 l) sa sc :: Sh 89 4 (ch4 acts) la lc :: L) w) :
    Sp Tryz.prog 32 [.slice sa (List.length (en2 l)) sc, .slice la (List.length (ch4 acts)) lc] w (fun v w' => ∃ (a1 a2 : Option Addr) (c1 c2 : Nat), v = .tuple #[.slice a1 (List.length (en2 (serR l acts).1)) c1, .slice a2 (List.length (en2 (serR l acts).2)) c2] ∧ St g (Sh 121 2 (en2 (serR l acts).1) a1 c1 :: Own 121 2 (en2 (serR l acts).2) a2 c2 :: Sh 121 2 (en2 l) sa sc :: Sh 89 4 (ch4 acts) la lc :: L) w') := by
  refine Sp.enter Tryz.func32 rfl (by kernel_rfl) (by kernel_rfl) ?_
  have _ := hal
  have _ := hl
  refine WC.seq <| WC.region <| WL.r 2 rfl <| WL.nil <| WC.seq <| WC.region <| WL.r 1 rfl <| WL.nil <| WC.seq <| WC.seq <| WC.region ?_
  have hel := ch4_len acts
  replace hS : St g (Sh 121 2 (en2 l) sa sc :: Sh 121 2 (en2 l) sa sc :: Sh 89 4 (ch4 acts) la lc :: L) w := hS.dup 0 rfl fun _ _ h => Sh.dup h
  refine WL.r 1 rfl <| WL.nil <| WC.block ?_
  replace hS := hS.nil_ 121 2
  refine WC.loop [0, 1, 4, 5, 6, 7] (fun kM vs w => ∃ (k : Nat) (cl ca : Kvs) (ua va : Option Addr) (uc vc : Nat), vs = [.slice ua (List.length (en2 cl)) uc, .slice la (List.length (ch4 acts)) lc, .slice none 0 0, .slice none 0 0, .slice va (List.length (en2 ca)) vc, .int .i64 (k : Int)] ∧ St g (Own 121 2 (en2 ca) va vc :: Sh 121 2 (en2 cl) ua uc :: Sh 121 2 (en2 l) sa sc :: Sh 89 4 (ch4 acts) la lc :: L) w ∧ (k ≤ acts.length) ∧ ((cl, ca) = serR l (acts.take k)) ∧ (Srt cl) ∧ (cl.length ≤ l.length + k) ∧ (ca.length ≤ 2000 * k) ∧ (acts.length - k) = kM) ((List.length acts) - 0) ⟨0, l, [], sa, none, sc, 0, rfl, hS, (Nat.zero_le _), (rfl), (hs), (Nat.le_refl _), (Nat.zero_le _), rfl⟩ ?_
  clear hS; rintro _ _ w j ⟨k, cl, ca, ua, va, uc, vc, rfl, hS, hk, hp, hps, hp1, hp2, rfl⟩
  refine WC.seq <| WC.seq <| WC.region ?_
  have hel := ch4_len acts
  replace hS : St g (Sh 121 2 (en2 l) sa sc :: Own 121 2 (en2 ca) va vc :: Sh 121 2 (en2 cl) ua uc :: Sh 121 2 (en2 l) sa sc :: Sh 89 4 (ch4 acts) la lc :: L) w := hS.dup 2 rfl fun _ _ h => Sh.dup h
  refine WL.r 4 rfl <| WL.nil ?_
  as_aux_lemma =>
  refine WC.ifP rfl (fun cd1 => ?_) (fun cd1 => ?_)
  · refine WC.skip <| WC.seq <| WC.block <| WC.seq <| WC.region ?_
    obtain ⟨c, hcc⟩ : ∃ z, acts[k]? = some z := ⟨_, List.getElem?_eq_getElem (by omega)⟩; have hck := hc c (List.mem_of_getElem? hcc); have hstep := ser_step (p := (cl, ca)) c hps; have hnext := serR_snoc (l := l) hcc; rw [← hp] at hnext; have hbl := List.length_filter_le (inK c.2.1 c.2.2.2) cl; have hb9 : (btw c.2.1 c.2.2.2 cl).length ≤ cl.length := hbl; have hv7 := seenV_len c.2.2.2 ((lget c.2.2.2 cl).getD 0) (lget c.2.2.2 cl).isSome; have hv0 := seenV_len c.2.1 ((lget c.2.1 cl).getD 0) (lget c.2.1 cl).isSome
    refine WL.r 2 rfl <| WL.ix rfl rfl (i := (k : Int)) (k) el_79 rfl rfl (by omega) (by omega) (hS.rdS 4 rfl (ch4_at hcc)).1 ?_
    refine WL.ldC rfl rfl [.int .i64 c.1, .int .i64 c.2.1, .int .i64 c.2.2.1, .int .i64 c.2.2.2] ag_89 rfl (hS.rdS 4 rfl (ch4_at hcc)).2 <| WL.new rfl rfl zv_89 hS (fun b1 w hS => ?_)
    refine WL.stF rfl rfl rfl 0 hS rfl rfl rfl rfl rfl ag_89 (fun w hS => ?_)
    replace hS := hS.n6 L (a0 := cel b1 #[.int .i64 c.1, .int .i64 c.2.1, .int .i64 c.2.2.1, .int .i64 c.2.2.2] 89) rfl
    refine WL.nil <| WC.seq <| WC.region <| WL.run 2 [.int .i64 c.1] rfl (by exact hS.ld 0 rfl rfl) ?_
    refine WL.call rfl rfl (md_spec (k := c.1) (n := 8) (hk := hck.1) (hn := (by decide)) (hS := hS)) rfl ?_
    clear hS; rintro _ w ⟨rfl, hS⟩
    replace hS := hS.n6 L rfl
    refine WL.nil <| WC.block <| WC.seq <| WC.region <| WL.r 2 rfl <| WL.nil ?_
    as_aux_lemma =>
    refine WC.ifP rfl (fun cd2 => ?_) (fun cd2 => ?_)
    · refine WC.region <| WL.run 6 [.int .i64 c.2.1, .int .i64 c.2.2.2] rfl (by exact ⟨hS.ld 0 rfl rfl, hS.ld 0 rfl rfl⟩) ?_
      refine WL.call rfl rfl (ref_btw (lo := c.2.1) (hi := c.2.2.2) (hl := (by omega)) (hS := (hS.sel 4 [3, 0, 0, 0] rfl))) rfl ?_
      clear hS; rintro _ w ⟨a1, c1, rfl, hS⟩
      replace hS := hS.n7 L (a0 := Own 121 2 (en2 (btw c.2.1 c.2.2.2 cl)) a1 c1) rfl
      refine WL.app rfl rfl 4 (en2 (ca ++ (btw c.2.1 c.2.2.2 cl))) el_49 hS rfl (hS.srcO 0 rfl) (en2_app _ _).symm (Rm.of (by first | omega | (simp <;> omega)) (by decide)) rfl rfl (fun a2 c2 w hS => ?_)
      replace hS := hS.n7 L (a4 := Own 121 2 (en2 (ca ++ (btw c.2.1 c.2.2.2 cl))) a2 c2) rfl
      refine WL.r 1 rfl <| WL.nil <| WC.region <| WL.r 2 rfl <| WL.nw 18 rfl (w64 (by omega)) ?_
      refine WL.r 1 rfl <| WL.nil ?_
      exact ⟨_, by omega, k + 1, cl, (ca ++ (btw c.2.1 c.2.2.2 cl)), ua, a2, uc, c2, rfl, (hS.sel 6 [4, 1, 2] rfl), (by omega), (by rw [hnext, s2_ (p := (cl, ca)) (a := c) (by omega)]), (by have h9 := hstep; rw [s2_ (p := (cl, ca)) (a := c) (by omega)] at h9; exact h9.1), (by have h9 := hstep; rw [s2_ (p := (cl, ca)) (a := c) (by omega)] at h9; have h8 := h9.2.1; simp only at h8; omega), (by have h9 := hstep; rw [s2_ (p := (cl, ca)) (a := c) (by omega)] at h9; have h8 := h9.2.2; simp only at h8; omega), rfl⟩
    · refine WC.seq <| WC.seq <| WC.region <| WL.r 2 rfl <| WL.nil <| WC.ifP rfl (fun cd3 => ?_) (fun cd3 => ?_)
      · refine WC.skip <| WC.ifT rfl (decide_eq_true cd3) <| WC.region <| WL.run 5 [.int .i64 c.2.1, .int .i64 c.2.2.1] rfl (by exact ⟨hS.ld 0 rfl rfl, hS.ld 0 rfl rfl⟩) ?_
        refine WL.build rfl rfl (cs := [.int .i64 c.2.1, .int .i64 c.2.2.1]) zv_121 rfl rfl <| WL.call rfl rfl (ref_ins (k := c.2.1) (z := c.2.2.1) (hs := hps) (hl := (by omega)) (hS := (hS.sel 4 [3, 0, 0, 0] rfl))) rfl ?_
        clear hS; rintro _ w ⟨a1, c1, rfl, hS⟩
        replace hS := hS.n7 L (a0 := Own 121 2 (en2 (lins c.2.1 c.2.2.1 cl)) a1 c1) rfl
        refine WL.r 1 rfl <| WL.nil <| WC.region <| WL.r 2 rfl <| WL.nw 18 rfl (w64 (by omega)) ?_
        refine WL.r 1 rfl <| WL.nil ?_
        replace hS := (hS.at_ 0 rfl).share
        replace hS := hS.n7 L (a0 := Sh 121 2 (en2 (lins c.2.1 c.2.2.1 cl)) a1 c1) rfl
        exact ⟨_, by omega, k + 1, lins c.2.1 c.2.2.1 cl, ca, a1, va, c1, vc, rfl, (hS.sel 6 [4, 0, 2] rfl), (by omega), (by rw [hnext, s3_ (p := (cl, ca)) (a := c) (by omega)]), (by have h9 := hstep; rw [s3_ (p := (cl, ca)) (a := c) (by omega)] at h9; exact h9.1), (by have h9 := hstep; rw [s3_ (p := (cl, ca)) (a := c) (by omega)] at h9; have h8 := h9.2.1; simp only at h8; omega), (by have h9 := hstep; rw [s3_ (p := (cl, ca)) (a := c) (by omega)] at h9; have h8 := h9.2.2; simp only at h8; omega), rfl⟩
      · refine WC.seq <| WC.region <| WL.r 2 rfl <| WL.nil <| WC.ifP rfl (fun cd4 => ?_) (fun cd4 => ?_)
        · refine WC.skip <| WC.ifT rfl (decide_eq_true cd4) <| WC.region <| WL.run 5 [.int .i64 c.2.1, .int .i64 c.2.2.1] rfl (by exact ⟨hS.ld 0 rfl rfl, hS.ld 0 rfl rfl⟩) ?_
          refine WL.build rfl rfl (cs := [.int .i64 c.2.1, .int .i64 c.2.2.1]) zv_121 rfl rfl <| WL.call rfl rfl (ref_ins (k := c.2.1) (z := c.2.2.1) (hs := hps) (hl := (by omega)) (hS := (hS.sel 4 [3, 0, 0, 0] rfl))) rfl ?_
          clear hS; rintro _ w ⟨a1, c1, rfl, hS⟩
          replace hS := hS.n7 L (a0 := Own 121 2 (en2 (lins c.2.1 c.2.2.1 cl)) a1 c1) rfl
          refine WL.r 1 rfl <| WL.nil <| WC.region <| WL.r 2 rfl <| WL.nw 18 rfl (w64 (by omega)) ?_
          refine WL.r 1 rfl <| WL.nil ?_
          replace hS := (hS.at_ 0 rfl).share
          replace hS := hS.n7 L (a0 := Sh 121 2 (en2 (lins c.2.1 c.2.2.1 cl)) a1 c1) rfl
          exact ⟨_, by omega, k + 1, lins c.2.1 c.2.2.1 cl, ca, a1, va, c1, vc, rfl, (hS.sel 6 [4, 0, 2] rfl), (by omega), (by rw [hnext, s3_ (p := (cl, ca)) (a := c) (by omega)]), (by have h9 := hstep; rw [s3_ (p := (cl, ca)) (a := c) (by omega)] at h9; exact h9.1), (by have h9 := hstep; rw [s3_ (p := (cl, ca)) (a := c) (by omega)] at h9; have h8 := h9.2.1; simp only at h8; omega), (by have h9 := hstep; rw [s3_ (p := (cl, ca)) (a := c) (by omega)] at h9; have h8 := h9.2.2; simp only at h8; omega), rfl⟩
        · refine WC.region <| WL.r 2 rfl <| WL.nil <| WC.ifP rfl (fun cd5 => ?_) (fun cd5 => ?_)
          · refine WC.region <| WL.run 5 [.int .i64 c.2.1, .int .i64 c.2.2.1] rfl (by exact ⟨hS.ld 0 rfl rfl, hS.ld 0 rfl rfl⟩) ?_
            refine WL.build rfl rfl (cs := [.int .i64 c.2.1, .int .i64 c.2.2.1]) zv_121 rfl rfl <| WL.call rfl rfl (ref_ins (k := c.2.1) (z := c.2.2.1) (hs := hps) (hl := (by omega)) (hS := (hS.sel 4 [3, 0, 0, 0] rfl))) rfl ?_
            clear hS; rintro _ w ⟨a1, c1, rfl, hS⟩
            replace hS := hS.n7 L (a0 := Own 121 2 (en2 (lins c.2.1 c.2.2.1 cl)) a1 c1) rfl
            refine WL.r 1 rfl <| WL.nil <| WC.region <| WL.r 2 rfl <| WL.nw 18 rfl (w64 (by omega)) ?_
            refine WL.r 1 rfl <| WL.nil ?_
            replace hS := (hS.at_ 0 rfl).share
            replace hS := hS.n7 L (a0 := Sh 121 2 (en2 (lins c.2.1 c.2.2.1 cl)) a1 c1) rfl
            exact ⟨_, by omega, k + 1, lins c.2.1 c.2.2.1 cl, ca, a1, va, c1, vc, rfl, (hS.sel 6 [4, 0, 2] rfl), (by omega), (by rw [hnext, s3_ (p := (cl, ca)) (a := c) (by omega)]), (by have h9 := hstep; rw [s3_ (p := (cl, ca)) (a := c) (by omega)] at h9; exact h9.1), (by have h9 := hstep; rw [s3_ (p := (cl, ca)) (a := c) (by omega)] at h9; have h8 := h9.2.1; simp only at h8; omega), (by have h9 := hstep; rw [s3_ (p := (cl, ca)) (a := c) (by omega)] at h9; have h8 := h9.2.2; simp only at h8; omega), rfl⟩
          · refine WC.seq <| WC.region <| WL.r 2 rfl <| WL.nil <| WC.ifP rfl (fun cd6 => ?_) (fun cd6 => ?_)
            · refine WC.region <| WL.run 3 [.int .i64 c.2.1] rfl (by exact hS.ld 0 rfl rfl) ?_
              refine WL.call rfl rfl (ref_del (k := c.2.1) (hl := (by omega)) (hS := (hS.sel 4 [3, 0, 0, 0] rfl))) rfl ?_
              clear hS; rintro _ w ⟨a1, c1, rfl, hS⟩
              replace hS := hS.n7 L (a0 := Own 121 2 (en2 (ldel c.2.1 cl)) a1 c1) rfl
              refine WL.r 1 rfl <| WL.nil ?_
              as_aux_lemma =>
              refine WC.region <| WL.r 2 rfl <| WL.nw 18 rfl (w64 (by omega)) ?_
              refine WL.r 1 rfl <| WL.nil ?_
              replace hS := (hS.at_ 0 rfl).share
              replace hS := hS.n7 L (a0 := Sh 121 2 (en2 (ldel c.2.1 cl)) a1 c1) rfl
              exact ⟨_, by omega, k + 1, ldel c.2.1 cl, ca, a1, va, c1, vc, rfl, (hS.sel 6 [4, 0, 2] rfl), (by omega), (by rw [hnext, s6_ (p := (cl, ca)) (a := c) (by omega)]), (by have h9 := hstep; rw [s6_ (p := (cl, ca)) (a := c) (by omega)] at h9; exact h9.1), (by have h9 := hstep; rw [s6_ (p := (cl, ca)) (a := c) (by omega)] at h9; have h8 := h9.2.1; simp only at h8; omega), (by have h9 := hstep; rw [s6_ (p := (cl, ca)) (a := c) (by omega)] at h9; have h8 := h9.2.2; simp only at h8; omega), rfl⟩
            · refine WC.seq <| WC.region <| WL.r 2 rfl <| WL.nil ?_
              as_aux_lemma =>
              refine WC.ifP rfl (fun cd7 => ?_) (fun cd7 => ?_)
              · refine WC.seq <| WC.region <| WL.run 3 [.int .i64 c.2.2.2] rfl (by exact hS.ld 0 rfl rfl) ?_
                refine WL.call rfl rfl (ref_get (k := c.2.2.2) (hl := (by omega)) (hS := (hS.sel 4 [3, 0, 0, 0] rfl))) rfl ?_
                clear hS; rintro _ w ⟨rfl, hS⟩
                replace hS := hS.n6 L rfl
                refine WL.r 5 rfl <| WL.nil <| WC.seq <| WC.region <| WL.run 5 [.int .i64 c.2.2.2] rfl (by exact hS.ld 1 rfl rfl) ?_
                refine WL.call rfl rfl (seen26 (k := c.2.2.2) (z := (lget c.2.2.2 cl).getD 0) (b := (lget c.2.2.2 cl).isSome)  (hS := hS)) rfl ?_
                clear hS; rintro _ w ⟨a1, c1, rfl, hS⟩
                replace hS := hS.n7 L (a0 := Own 121 2 (en2 (seenV c.2.2.2 ((lget c.2.2.2 cl).getD 0) (lget c.2.2.2 cl).isSome)) a1 c1) rfl
                refine WL.app rfl rfl 4 (en2 (ca ++ (seenV c.2.2.2 ((lget c.2.2.2 cl).getD 0) (lget c.2.2.2 cl).isSome))) el_49 hS rfl (hS.srcO 0 rfl) (en2_app _ _).symm (Rm.of (by first | omega | (simp <;> omega)) (by decide)) rfl rfl (fun a2 c2 w hS => ?_)
                replace hS := hS.n7 L (a4 := Own 121 2 (en2 (ca ++ (seenV c.2.2.2 ((lget c.2.2.2 cl).getD 0) (lget c.2.2.2 cl).isSome))) a2 c2) rfl
                refine WL.r 1 rfl <| WL.nil <| WC.region <| WL.run 7 [.int .i64 c.2.1, .int .i64 c.2.2.1] rfl (by exact ⟨hS.ld 2 rfl rfl, hS.ld 2 rfl rfl⟩) ?_
                refine WL.build rfl rfl (cs := [.int .i64 c.2.1, .int .i64 (IntKind.i64.wrap (((lget c.2.2.2 cl).getD 0) + c.2.2.1))]) zv_121 rfl rfl <| WL.call rfl rfl (ref_ins (k := c.2.1) (z := IntKind.i64.wrap (((lget c.2.2.2 cl).getD 0) + c.2.2.1)) (hs := hps) (hl := (by omega)) (hS := (hS.sel 2 [1, 0] rfl))) rfl ?_
                clear hS; rintro _ w ⟨a3, c3, rfl, hS⟩
                replace hS := hS.n8 L (a0 := Own 121 2 (en2 (lins c.2.1 (IntKind.i64.wrap (((lget c.2.2.2 cl).getD 0) + c.2.2.1)) cl)) a3 c3) rfl
                refine WL.r 1 rfl <| WL.nil ?_
                as_aux_lemma =>
                refine WC.region <| WL.r 2 rfl <| WL.nw 18 rfl (w64 (by omega)) ?_
                refine WL.r 1 rfl <| WL.nil ?_
                replace hS := (hS.at_ 0 rfl).share
                replace hS := hS.n8 L (a0 := Sh 121 2 (en2 (lins c.2.1 (IntKind.i64.wrap (((lget c.2.2.2 cl).getD 0) + c.2.2.1)) cl)) a3 c3) rfl
                exact ⟨_, by omega, k + 1, lins c.2.1 (IntKind.i64.wrap (((lget c.2.2.2 cl).getD 0) + c.2.2.1)) cl, (ca ++ (seenV c.2.2.2 ((lget c.2.2.2 cl).getD 0) (lget c.2.2.2 cl).isSome)), a3, a2, c3, c2, rfl, (hS.sel 7 [5, 0, 3] rfl), (by omega), (by rw [hnext, s7_ (p := (cl, ca)) (a := c) (by omega), seenV_o]), (by have h9 := hstep; rw [s7_ (p := (cl, ca)) (a := c) (by omega)] at h9; exact h9.1), (by have h9 := hstep; rw [s7_ (p := (cl, ca)) (a := c) (by omega)] at h9; have h8 := h9.2.1; simp only at h8; omega), (by have h9 := hstep; rw [s7_ (p := (cl, ca)) (a := c) (by omega)] at h9; have h8 := h9.2.2; simp only at h8; rw [seenV_o]; omega), rfl⟩
              · refine WC.seq <| WC.region <| WL.run 3 [.int .i64 c.2.1] rfl (by exact hS.ld 0 rfl rfl) ?_
                refine WL.call rfl rfl (ref_get (k := c.2.1) (hl := (by omega)) (hS := (hS.sel 4 [3, 0, 0, 0] rfl))) rfl ?_
                clear hS; rintro _ w ⟨rfl, hS⟩
                replace hS := hS.n6 L rfl
                refine WL.r 5 rfl <| WL.nil <| WC.region <| WL.run 5 [.int .i64 c.2.1] rfl (by exact hS.ld 1 rfl rfl) ?_
                refine WL.call rfl rfl (seen26 (k := c.2.1) (z := (lget c.2.1 cl).getD 0) (b := (lget c.2.1 cl).isSome)  (hS := hS)) rfl ?_
                clear hS; rintro _ w ⟨a1, c1, rfl, hS⟩
                replace hS := hS.n7 L (a0 := Own 121 2 (en2 (seenV c.2.1 ((lget c.2.1 cl).getD 0) (lget c.2.1 cl).isSome)) a1 c1) rfl
                refine WL.app rfl rfl 4 (en2 (ca ++ (seenV c.2.1 ((lget c.2.1 cl).getD 0) (lget c.2.1 cl).isSome))) el_49 hS rfl (hS.srcO 0 rfl) (en2_app _ _).symm (Rm.of (by first | omega | (simp <;> omega)) (by decide)) rfl rfl (fun a2 c2 w hS => ?_)
                replace hS := hS.n7 L (a4 := Own 121 2 (en2 (ca ++ (seenV c.2.1 ((lget c.2.1 cl).getD 0) (lget c.2.1 cl).isSome))) a2 c2) rfl
                refine WL.r 1 rfl <| WL.nil <| WC.region <| WL.r 2 rfl <| WL.nw 18 rfl (w64 (by omega)) ?_
                refine WL.r 1 rfl <| WL.nil ?_
                exact ⟨_, by omega, k + 1, cl, (ca ++ (seenV c.2.1 ((lget c.2.1 cl).getD 0) (lget c.2.1 cl).isSome)), ua, a2, uc, c2, rfl, (hS.sel 6 [4, 1, 2] rfl), (by omega), (by rw [hnext, s0_ (p := (cl, ca)) (a := c) (by omega), seenV_o]), (by have h9 := hstep; rw [s0_ (p := (cl, ca)) (a := c) (by omega)] at h9; exact h9.1), (by have h9 := hstep; rw [s0_ (p := (cl, ca)) (a := c) (by omega)] at h9; have h8 := h9.2.1; simp only at h8; omega), (by have h9 := hstep; rw [s0_ (p := (cl, ca)) (a := c) (by omega)] at h9; have h8 := h9.2.2; simp only at h8; rw [seenV_o]; omega), rfl⟩
  · refine WC.exit <| WC.seq <| WC.region <| WL.r 4 rfl <| WL.nil <| WC.ret ?_
    refine ⟨[.slice ua (List.length (en2 cl)) uc, .slice va (List.length (en2 ca)) vc], ⟨rfl, rfl⟩, ?_⟩
    replace hS := (hS.sel 4 [2, 1, 0] rfl)
    have e9 : k = acts.length := (by omega); rw [e9, List.take_length] at hp; have h1 : (serR l acts).1 = cl := (by rw [← hp]); have h2 : (serR l acts).2 = ca := (by rw [← hp]); rw [h1, h2]; exact ⟨_, _, _, _, rfl, hS⟩
end Go.Proofs.YtbeacjcmdijdmaaGreat
/-! ## Ldg -/
namespace Go.V
open Go Go.RowKit
theorem ARf.tree0 {A : AM} {R : List Int} (h : ARf A R) {r : Int} (hr : r ∈ R) : ∃ t, Is A t r :=
  h.tree (A.sz r).toNat r (h.ref r hr) (by omega)
theorem ledger {A B : AM} {R : List Int} {i : Int} {t : Tr} (hA : ARf A R) (hB : ARf B (i :: R)) (kp : Kp A B R) (hi : Is B t i) (hc : B.s.used.length = A.s.used.length) : A.s.free ≤ B.s.free + t.n := by
  have e1 := AM.cnt_live hA.s
  have e2 := AM.cnt_live hB.s
  have c1 : A.s.cap = (A.s.used.length : Int) - 1 := rfl
  have c2 : B.s.cap = (B.s.used.length : Int) - 1 := rfl
  have hsub : ∀ j ∈ B.live, j ∈ A.live ++ ixs B t i := fun j hj => by
    obtain ⟨h0, h2⟩ := (B.mem_live j).1 hj
    have h3 := (SM.ok_rng hB.s h0 h2).1
    have hS : (∃ r ∈ R, ∃ u, Is A u r ∧ j ∈ ixs A u r) ∨ j ∈ ixs B t i := by
      refine reach hB (fun j => (∃ r ∈ R, ∃ u, Is A u r ∧ j ∈ ixs A u r) ∨ j ∈ ixs B t i) (fun x hx hne => ?_) (fun j _ _ hj c hc hne => ?_) j h3 h2
      · rcases List.mem_cons.1 hx with rfl | hx
        · exact .inr (ixs_root hi hne)
        · obtain ⟨u, hu⟩ := hA.tree0 hx
          exact .inl ⟨x, hx, u, hu, ixs_root hu hne⟩
      · rcases hj with ⟨r, hr, u, hu, hj⟩ | hj
        · refine .inl ⟨r, hr, u, hu, ?_⟩
          rw [← kp.ix r hr u hu] at hj ⊢
          exact ixs_kid u r (kp.is r hr u hu) j hj c hc hne
        · exact .inr (ixs_kid t i hi j hj c hc hne)
    rcases hS with ⟨r, hr, u, hu, hj⟩ | hj
    · have := ixs_ok A u r hu j hj
      exact List.mem_append_left _ ((A.mem_live j).2 ⟨by omega, this.2⟩)
    · exact List.mem_append_right _ hj
  have h4 := nd_le B.live_nodup hsub
  rw [List.length_append, ixs_len B hi] at h4
  omega
end Go.V
/-! ## Tyb -/
namespace Go.Proofs.YtbeacjcmdijdmaaGreat
open Go Go.V Go.RowKit Go.Maps
theorem wOne_ok {u : Tr} (h : u.ok) (e : Int × Bool × Int) : (wOne u e).ok := by
  unfold wOne; split
  · exact Tr.ins_ok _ _ _ h
  · exact Tr.del_ok _ _ h
theorem wAll_ok : ∀ (W : Wrs) {t : Tr}, t.ok → (wAll W t).ok
  | [], _, h => h
  | e :: W, _, h => wAll_ok W (wOne_ok h e)
theorem wOne_ls {u : Tr} (h : Srt u.ls) (e : Int × Bool × Int) : (wOne u e).ls = lw1 u.ls e := by
  unfold wOne lw1; split
  · exact Tr.ins_ls _ _ _ h
  · exact Tr.del_ls _ _ h
theorem wAll_ls : ∀ (W : Wrs) {t : Tr}, Srt t.ls → (wAll W t).ls = lwA W t.ls
  | [], _, _ => rfl
  | e :: W, t, h => by
    show (wAll W (wOne t e)).ls = lwA W (lw1 t.ls e)
    rw [← wOne_ls h]
    exact wAll_ls W (by rw [wOne_ls h]; exact lw1_srt h)
theorem need_f {t : Tr} {e : Int × Bool × Int} : wNeed t e = false ↔ Tr.get e.1 t = if e.2.1 then some e.2.2 else none := by
  unfold wNeed
  cases e.2.1 with
  | false => cases Tr.get e.1 t <;> simp
  | true => cases Tr.get e.1 t <;> simp
theorem work_srt {t : Tr} {M : Wrs} (h : wSrt M) : wSrt (wWork t M) := h.sublist List.filter_sublist
theorem kv_ext {a b : Kvs} (ha : Srt a) (hb : Srt b) (h : ∀ z, lget z a = lget z b) : a = b :=
  srt_ext ha hb fun e => by rw [← lget_some ha, ← lget_some hb, h]
theorem work_view {t : Tr} {M : Wrs} (hs : Srt t.ls) (hM : wSrt M) : lwA (wWork t M) t.ls = lwA M t.ls := by
  refine kv_ext (lwA_srt _ hs) (lwA_srt _ hs) fun z => ?_
  rw [lwA_get _ hs (work_srt hM) z, lwA_get _ hs hM z]
  cases hg : wget z M with
  | none =>
    have h1 : wget z (wWork t M) = none := wget_none fun x hx e => by
      have h2 := (List.mem_filter.1 hx).1
      have h3 := (wget_some hM (k := z) (y := x.2)).2 (by rw [← e]; exact h2)
      rw [hg] at h3; cases h3
    unfold wvw; rw [hg, h1]
  | some y =>
    have hy := (wget_some hM).1 hg
    cases hn : wNeed t (z, y) with
    | true =>
      have h1 : wget z (wWork t M) = some y := (wget_some (work_srt hM)).2 (List.mem_filter.2 ⟨hy, hn⟩)
      unfold wvw; rw [hg, h1]
    | false =>
      have h1 : wget z (wWork t M) = none := wget_none fun x hx e => by
        obtain ⟨h2, h3⟩ := List.mem_filter.1 hx
        have h4 := (wget_some hM (k := z) (y := x.2)).2 (by rw [← e]; exact h2)
        rw [hg] at h4
        have h5 : x = (z, y) := Prod.ext e (Option.some.inj h4).symm
        rw [h5, hn] at h3; cases h3
      have h2 := need_f.1 hn
      have h3 : lget z t.ls = if y.1 then some y.2 else none := by rw [← Tr.get_ls z t hs]; exact h2
      unfold wvw; rw [hg, h1]; exact h3
theorem com_cost {A : AM} {R : List Int} {t : Tr} {M : Wrs} (hA : ARf A R) (hok : t.ok) (hn : t.n + M.length ≤ 60000) (hf : wWork t M = [] ∨ ((t.n : Int) + M.length + 4 * ((Tr.mxH (t.n + M.length) : Int) + 2)) ≤ A.s.free) (k : Nat) (e : Int × Bool × Int) (B : AM) (o : Int) (he : (wWork t M)[k]? = some e) (hT : TOp A B R o (wAll ((wWork t M).take k) t) (wSum ((wWork t M).take k) t)) : (wCost (wAll ((wWork t M).take k) t) e : Int) ≤ B.s.free := by
  rcases hf with hf | hf
  · rw [hf] at he; cases he
  · have hk := (List.getElem?_eq_some_iff.1 he).1
    have hwl := wWork_len t M
    have h1 := ledger hA hT.ref hT.kp hT.is hT.cap
    have h2 := wAll_n ((wWork t M).take k) t
    have h3 := List.length_take_le k (wWork t M)
    have h4 := wAll_ok ((wWork t M).take k) hok
    have h5 := Tr.mxH_mono (a := (wAll ((wWork t M).take k) t).n + 1) (b := t.n + M.length) (by omega)
    have h6 := Tr.mxH_mono (a := (wAll ((wWork t M).take k) t).n) (b := t.n + M.length) (by omega)
    have h7 := Tr.ic_res e.1 e.2.2 _ h4 (by omega)
    have h8 := Tr.dc_res e.1 _ h4 (by omega)
    unfold wCost
    split <;> omega
def Conf (S : Kvs) (ts th : Tr) : Prop := ¬ ∀ s ∈ S, inR s.1 s.2 (dif ts.ls th.ls) = []
def ComA (A : AM) (R : List Int) (ts th : Tr) (M : Wrs) (S : Kvs) (hd : Int) (A2 : AM) (i e : Int) (en : Bool) : Prop := (Conf S ts th ∧ e = 10 ∧ i = 0 ∧ en = false ∧ A2 = A) ∨ (¬ Conf S ts th ∧ ComT A R th M hd A2 i e en)
set_option maxRecDepth 8192 in
theorem tx_any {g w : World} {L : List HP} (x a : Nat) (rt : Int) (xs : List WE) (q : Nat) (S : Kvs) (M : Wrs) (A : AM) (R : List Int) (hd : Int) (ts th : Tr) (hW : WOk xs q M) (hA : ARf A (rt :: R)) (hts : Is A ts rt) (hth : Is A th hd) (hss : Srt ts.ls) (hsh : Srt th.ls) (hok : th.ok) (hn : ts.n + th.n ≤ 60000) (hm : th.n + M.length ≤ 60000) (hSl : S.length ≤ 100000) (hR : R.length ≤ 500000000) (hS : St g (Tx x a rt xs q S :: Arn a A :: L) w) :
    Sp Tryz.prog 31 [.pointer (some ⟨x, 0, none⟩), .int .u32 hd] w (fun v w' => ∃ (A2 : AM) (i e : Int) (en : Bool), v = .tuple #[.int .u32 i, .int .i64 e] ∧ St g (Tz x a rt S en :: Arn a A2 :: L) w' ∧ (ComA A R ts th M S hd A2 i e en)) := by
  by_cases h : ∀ s ∈ S, inR s.1 s.2 (dif ts.ls th.ls) = []
  · exact (tx_com2 x a rt xs q S M A R hd ts th hW hA hts hth hss hsh hn hSl hR h (fun hr => com_cost hA hok hm hr) hS).mono fun v w' ⟨A2, i, e, en, hv, hS', k⟩ => ⟨A2, i, e, en, hv, hS', .inr ⟨fun k => k h, k⟩⟩
  · refine (tx_conflict x a rt xs q S A (rt :: R) hd ts th hA hts hth hss hsh hn hSl h hS).mono fun v w' ⟨hv, hS'⟩ => ?_
    obtain ⟨⟨xm, xu, xc⟩, hS'⟩ := St.exOpen (f := txF x a rt xs q S) hS'
    exact ⟨A, 0, 10, false, hv, St.exClose (f := tzF x a rt S false) (L := Arn a A :: L) ⟨xm, xu, xc⟩ (hS'.sel 4 [0, 2] rfl), .inl ⟨h, rfl, rfl, rfl, rfl⟩⟩
end Go.Proofs.YtbeacjcmdijdmaaGreat
/-! ## C6 -/
namespace Go.Proofs.YtbeacjcmdijdmaaGreat
open Go Go.V Go.RowKit
def ndD (A : AM) (i : Int) : Nd := if A.s.ok i = true then A.nd i else Nd.zero
theorem ndD_ok {A : AM} {i : Int} (h : A.s.ok i = true) : ndD A i = A.nd i := if_pos h
theorem ndD_sz {A : AM} (i : Int) : (ndD A i).size = A.sz i := by
  unfold ndD AM.sz
  split <;> rfl
theorem is_rng {A : AM} {R : List Int} (h : ARf A R) {t : Tr} {i : Int} (hi : Is A t i) : 0 ≤ i ∧ i ≤ 65536 := by
  have := h.okrng hi.ref; omega
theorem tn_cap {A : AM} {R : List Int} (h : ARf A R) {t : Tr} {i : Int} (hi : Is A t i) (hs : Srt t.ls) : (t.n : Int) ≤ A.s.cap := by
  have h1 := nodup_bnd A.s.cap.toNat (ixs A t i) (ixs_nodup hi hs) fun j hj => by
    have h2 := ixs_ok A t i hi j hj
    have h3 := SM.ok_rng h.s (i := j) (by omega) h2.2
    have := cap_rng h; omega
  rw [ixs_len A hi] at h1
  have := cap_rng h; omega
theorem is_n {A : AM} {R : List Int} (h : ARf A R) {t : Tr} {i : Int} (hi : Is A t i) : (t.n : Int) ≤ 2147483647 := by
  rw [← Is.sz h t i hi]
  rcases hi.ref with e | ⟨e1, e2⟩
  · subst e; rw [sz_0 h.s]; decide
  · rw [sz_ok e2]; exact (h.sz i e2 (by omega)).2
theorem srt_node {l r : Tr} {k v : Int} (h : Srt (Tr.node l k v r).ls) : Srt l.ls ∧ Srt r.ls ∧ (∀ x ∈ l.ls, x.1 < k) ∧ ∀ x ∈ r.ls, k < x.1 := by
  have h1 := Srt.app (a := l.ls) (b := (k, v) :: r.ls) h
  have h2 := List.pairwise_cons.1 h1.2.1
  exact ⟨h1.1, h2.2, fun x hx => h1.2.2 x hx (k, v) (by simp), fun x hx => h2.1 x hx⟩
set_option maxRecDepth 8192 in
theorem t7_node {g w : World} {L : List HP} (A : AM) (R : List Int) (da fa : Option Addr) (dc fc : Nat) (i : Int) (hA : ARf A R) (hi : 0 ≤ i ∧ i ≤ 4294967295) (hS : St g (Sh 174 11 (sls (AM.dmp A)) da dc :: L) w) :
    Sp Tryz.prog 86 [.agg #[.slice da (List.length (sls (AM.dmp A))) dc, .slice fa (List.length (u32s (SM.order A.s))) fc], .int .u32 i] w (fun v w' => v = .agg #[.int .i64 (ndD A i).key, .int .i64 (ndD A i).val, .int .u32 (ndD A i).lf, .int .u32 (ndD A i).rg, .int .i64 (ndD A i).size, .int .i64 (ndD A i).sum, .int .i64 (ndD A i).mn, .int .i64 (ndD A i).mx] ∧ St g (Sh 174 11 (sls (AM.dmp A)) da dc :: L) w') := by
  refine Sp.enter Tryz.func86 rfl (by kernel_rfl) (by kernel_rfl) ?_
  refine WC.seq <| WC.region <| WL.box rfl rfl #[.slice da (List.length (sls (AM.dmp A))) dc, .slice fa (List.length (u32s (SM.order A.s))) fc] hS rfl rfl (fun b1 w hS => ?_)
  refine WL.new rfl rfl zv_172 hS (fun b2 w hS => ?_)
  refine WL.nil <| WC.seq <| WC.seq <| WC.region ?_
  have hn := dmp_n A; have hcr := cap_rng hA
  refine WL.ldF rfl rfl 1 hS rfl rfl ag_62 <| WL.r 1 rfl <| WL.call rfl rfl (c6_alloc (A := A) (fa := fa) (fc := fc) (i := i) (hA := hA) (hi := hi) (hS := (hS.sel 3 [2, 0, 0] rfl))) rfl ?_
  clear hS; rintro _ w ⟨b3, rfl, hS, f1⟩
  replace hS := hS.n3 L (a1 := cel b2 #[.int .i64 0, .int .i64 0, .int .u32 0, .int .u32 0, .int .i64 0, .int .i64 0, .int .i64 0, .int .i64 0] 172) (a2 := cel b1 #[.slice da (List.length (sls (AM.dmp A))) dc, .slice fa (List.length (u32s (SM.order A.s))) fc] 62) rfl
  refine WL.r 1 rfl <| WL.nil <| WC.if_ rfl (fun cd1 => ?_) (fun cd1 => ?_)
  · refine WC.seq <| WC.region <| WL.build rfl rfl (cs := [.int .i64 0, .int .i64 0, .int .u32 0, .int .u32 0, .int .i64 0, .int .i64 0, .int .i64 0, .int .i64 0]) zv_172 rfl rfl <| WL.stF rfl rfl rfl 1 hS rfl rfl rfl rfl rfl ag_172 (fun w hS => ?_)
    replace hS := hS.n3 L rfl
    refine WL.nil <| WC.ret ?_
    refine ⟨[.agg #[.int .i64 0, .int .i64 0, .int .u32 0, .int .u32 0, .int .i64 0, .int .i64 0, .int .i64 0, .int .i64 0]], ⟨⟨_, rfl, hS.lvF 1 rfl ag_172⟩, trivial⟩, ?_⟩
    replace hS := (hS.sel 3 [0] rfl)
    exact ⟨by have h9 : ¬ A.s.ok i = true := (by rw [← f1]; simpa using cd1); unfold ndD; rw [if_neg h9]; rfl, hS⟩
  · refine WC.skip <| WC.seq <| WC.region ?_
    have hok : A.s.ok i = true := (by rw [← f1]; simpa using cd1); have hor := SM.ok_rng hA.s (i := i) hi.1 hok; have hfr := hA.s.fr
    refine WL.run 4 [.slice da (List.length (sls (AM.dmp A))) dc] rfl (by exact hS.ld 2 rfl rfl) ?_
    refine WL.nw 13 rfl (wu32 (by omega)) ?_
    refine WL.ix rfl rfl (i := i - 1) (i.toNat - 1) el_60 rfl rfl (by omega) (by omega) (hS.rdS 0 rfl (sls_at (AM.dmp_at (A := A) (k := i.toNat - 1) (by omega)))).1 ?_
    refine WL.r 1 rfl <| WL.ldC rfl rfl [.int .i64 (A.dmpAt (((i.toNat - 1 : Nat) : Int) + 1)).nd.key, .int .i64 (A.dmpAt (((i.toNat - 1 : Nat) : Int) + 1)).nd.val, .int .u32 (A.dmpAt (((i.toNat - 1 : Nat) : Int) + 1)).nd.lf, .int .u32 (A.dmpAt (((i.toNat - 1 : Nat) : Int) + 1)).nd.rg, .int .i64 (A.dmpAt (((i.toNat - 1 : Nat) : Int) + 1)).nd.size, .int .i64 (A.dmpAt (((i.toNat - 1 : Nat) : Int) + 1)).nd.sum, .int .i64 (A.dmpAt (((i.toNat - 1 : Nat) : Int) + 1)).nd.mn, .int .i64 (A.dmpAt (((i.toNat - 1 : Nat) : Int) + 1)).nd.mx] ag_172 rfl (RdE.sub (hS.rdS 0 rfl (sls_at (AM.dmp_at (A := A) (k := i.toNat - 1) (by omega)))).2 3 [.int .i64 (A.dmpAt (((i.toNat - 1 : Nat) : Int) + 1)).nd.key, .int .i64 (A.dmpAt (((i.toNat - 1 : Nat) : Int) + 1)).nd.val, .int .u32 (A.dmpAt (((i.toNat - 1 : Nat) : Int) + 1)).nd.lf, .int .u32 (A.dmpAt (((i.toNat - 1 : Nat) : Int) + 1)).nd.rg, .int .i64 (A.dmpAt (((i.toNat - 1 : Nat) : Int) + 1)).nd.size, .int .i64 (A.dmpAt (((i.toNat - 1 : Nat) : Int) + 1)).nd.sum, .int .i64 (A.dmpAt (((i.toNat - 1 : Nat) : Int) + 1)).nd.mn, .int .i64 (A.dmpAt (((i.toNat - 1 : Nat) : Int) + 1)).nd.mx] rfl) ?_
    refine WL.stF rfl rfl rfl 1 hS rfl rfl rfl rfl rfl ag_172 (fun w hS => ?_)
    replace hS := hS.n3 L (a1 := cel b2 #[.int .i64 (A.dmpAt (((i.toNat - 1 : Nat) : Int) + 1)).nd.key, .int .i64 (A.dmpAt (((i.toNat - 1 : Nat) : Int) + 1)).nd.val, .int .u32 (A.dmpAt (((i.toNat - 1 : Nat) : Int) + 1)).nd.lf, .int .u32 (A.dmpAt (((i.toNat - 1 : Nat) : Int) + 1)).nd.rg, .int .i64 (A.dmpAt (((i.toNat - 1 : Nat) : Int) + 1)).nd.size, .int .i64 (A.dmpAt (((i.toNat - 1 : Nat) : Int) + 1)).nd.sum, .int .i64 (A.dmpAt (((i.toNat - 1 : Nat) : Int) + 1)).nd.mn, .int .i64 (A.dmpAt (((i.toNat - 1 : Nat) : Int) + 1)).nd.mx] 172) rfl
    refine WL.nil ?_
    as_aux_lemma =>
    refine WC.ret ?_
    refine ⟨[.agg #[.int .i64 (A.dmpAt (((i.toNat - 1 : Nat) : Int) + 1)).nd.key, .int .i64 (A.dmpAt (((i.toNat - 1 : Nat) : Int) + 1)).nd.val, .int .u32 (A.dmpAt (((i.toNat - 1 : Nat) : Int) + 1)).nd.lf, .int .u32 (A.dmpAt (((i.toNat - 1 : Nat) : Int) + 1)).nd.rg, .int .i64 (A.dmpAt (((i.toNat - 1 : Nat) : Int) + 1)).nd.size, .int .i64 (A.dmpAt (((i.toNat - 1 : Nat) : Int) + 1)).nd.sum, .int .i64 (A.dmpAt (((i.toNat - 1 : Nat) : Int) + 1)).nd.mn, .int .i64 (A.dmpAt (((i.toNat - 1 : Nat) : Int) + 1)).nd.mx]], ⟨⟨_, rfl, hS.lvF 1 rfl ag_172⟩, trivial⟩, ?_⟩
    replace hS := (hS.sel 3 [0] rfl)
    exact ⟨by have h8 : ((i.toNat - 1 : Nat) : Int) + 1 = i := (by omega); rw [h8]; unfold ndD; rw [if_pos hok]; rfl, hS⟩
set_option maxHeartbeats 1000000 in
set_option maxRecDepth 8192 in
theorem t7_ord_step (nM : Nat) (ih : ∀ mM : Nat, mM < nM → ∀ (g w : World) (L : List HP) (A : AM) (R : List Int) (da fa : Option Addr) (dc fc : Nat) (p : Nat) (i last most : Int) (any : Bool) (t : Tr), (ARf A R) → (Is A t i) → (Srt t.ls) → (any = true → ∀ x ∈ t.ls, last < x.1) → ((t.n : Int) ≤ most ∧ most ≤ 1000000) → t.n = mM → St g (cel p #[.slice da (List.length (sls (AM.dmp A))) dc, .slice fa (List.length (u32s (SM.order A.s))) fc, .int .i64 last, .bool any, .int .i64 most] 257 :: Sh 174 11 (sls (AM.dmp A)) da dc :: L) w → Sp Tryz.prog 152 [.pointer (some ⟨p, 0, none⟩), .int .u32 i] w (fun v w' => ∃ (last2 : Int) (any2 : Bool), v = .bool true ∧ St g (cel p #[.slice da (List.length (sls (AM.dmp A))) dc, .slice fa (List.length (u32s (SM.order A.s))) fc, .int .i64 last2, .bool any2, .int .i64 (most - (t.n : Int))] 257 :: Sh 174 11 (sls (AM.dmp A)) da dc :: L) w' ∧ (any2 = true → (any = true ∧ last2 = last) ∨ ∃ x ∈ t.ls, x.1 = last2))) {g w : World} {L : List HP} (A : AM) (R : List Int) (da fa : Option Addr) (dc fc : Nat) (p : Nat) (i last most : Int) (any : Bool) (t : Tr) (hA : ARf A R) (hi : Is A t i) (hs : Srt t.ls) (hl : any = true → ∀ x ∈ t.ls, last < x.1) (hm : (t.n : Int) ≤ most ∧ most ≤ 1000000) (hM : t.n = nM) (hS : St g (cel p #[.slice da (List.length (sls (AM.dmp A))) dc, .slice fa (List.length (u32s (SM.order A.s))) fc, .int .i64 last, .bool any, .int .i64 most] 257 :: Sh 174 11 (sls (AM.dmp A)) da dc :: L) w) :
    Sp Tryz.prog 152 [.pointer (some ⟨p, 0, none⟩), .int .u32 i] w (fun v w' => ∃ (last2 : Int) (any2 : Bool), v = .bool true ∧ St g (cel p #[.slice da (List.length (sls (AM.dmp A))) dc, .slice fa (List.length (u32s (SM.order A.s))) fc, .int .i64 last2, .bool any2, .int .i64 (most - (t.n : Int))] 257 :: Sh 174 11 (sls (AM.dmp A)) da dc :: L) w' ∧ (any2 = true → (any = true ∧ last2 = last) ∨ ∃ x ∈ t.ls, x.1 = last2)) := by
  refine Sp.enter Tryz.func152 rfl (by kernel_rfl) (by kernel_rfl) ?_
  have _ := hm
  refine WC.seq <| WC.region <| WL.r 1 rfl <| WL.nil <| WC.seq <| WC.seq <| WC.region ?_
  have hx0 := Is.nil_iff hi; have hir := is_rng hA hi
  refine WL.r 2 rfl <| WL.nil <| WC.ifP rfl (fun hx => ?_) (fun hx => ?_)
  · refine WC.seq <| WC.region <| WL.r 1 rfl <| WL.nil <| WC.ret ?_
    refine ⟨[.bool true], rfl, ?_⟩
    have h9 := hx0.1 hx; subst h9; rw [show most = most - ((Tr.n .nil : Nat) : Int) from (Int.sub_zero _).symm] at hS; exact ⟨last, any, rfl, hS, fun h => .inl ⟨h, rfl⟩⟩
  · refine WC.skip <| WC.seq <| WC.seq <| WC.region ?_
    obtain ⟨tl, k, z, tr, ht⟩ := nil_or (t := t) (fun e => hx (hx0.2 e)); have htn : t.n = tl.n + tr.n + 1 := (by rw [ht]; rfl); have hi2 : Is A (.node tl k z tr) i := ht ▸ hi; have e7 : ndD A i = A.nd i := ndD_ok hi2.2.1; have hk7 : (ndD A i).key = k := (by rw [e7]; exact hi2.2.2.1); have hs7 := srt_node (ht ▸ hs); have hls : t.ls = tl.ls ++ (k, z) :: tr.ls := (by rw [ht]; rfl); have hl7 : Is A tl (ndD A i).lf := (by rw [e7]; exact hi2.2.2.2.2.1); have hr7 : Is A tr (ndD A i).rg := (by rw [e7]; exact hi2.2.2.2.2.2); have hlr := is_rng hA hl7; have hrr := is_rng hA hr7
    refine WL.run 5 [.int .i64 most] rfl (by exact hS.ld 0 rfl rfl) ?_
    refine WL.nil <| WC.ifF rfl (decide_eq_false ((by omega))) ?_
    refine WC.skip <| WC.seq <| WC.region <| WL.run 5 [.int .i64 most] rfl (by exact hS.ld 0 rfl rfl) ?_
    refine WL.nw 17 rfl (w64 (by omega)) ?_
    refine WL.r 2 rfl <| WL.st rfl rfl rfl 0 hS rfl rfl rfl rfl rfl rfl (fun w hS => ?_)
    replace hS := hS.n2 L (a0 := cel p #[.slice da (List.length (sls (AM.dmp A))) dc, .slice fa (List.length (u32s (SM.order A.s))) fc, .int .i64 last, .bool any, .int .i64 (most - 1)] 257) rfl
    refine WL.nil ?_
    as_aux_lemma =>
    refine WC.seq <| WC.region <| WL.r 3 rfl <| WL.ldC rfl rfl [.slice da (List.length (sls (AM.dmp A))) dc, .slice fa (List.length (u32s (SM.order A.s))) fc] ag_62 rfl (hS.part 0 rfl rfl) <| WL.r 1 rfl <| WL.call rfl rfl (t7_node (A := A) (fa := fa) (fc := fc) (i := i) (hA := hA) (hi := (by omega)) (hS := (hS.sel 2 [1, 0] rfl))) rfl ?_
    clear hS; rintro _ w ⟨rfl, hS⟩
    replace hS := hS.n2 L rfl
    refine WL.new rfl rfl zv_172 hS (fun b1 w hS => ?_)
    refine WL.stF rfl rfl rfl 0 hS rfl rfl rfl rfl rfl ag_172 (fun w hS => ?_)
    replace hS := hS.n3 L (a0 := cel b1 #[.int .i64 (ndD A i).key, .int .i64 (ndD A i).val, .int .u32 (ndD A i).lf, .int .u32 (ndD A i).rg, .int .i64 (ndD A i).size, .int .i64 (ndD A i).sum, .int .i64 (ndD A i).mn, .int .i64 (ndD A i).mx] 172) rfl
    refine WL.nil <| WC.seq <| WC.seq <| WC.region <| WL.run 3 [.int .u32 (ndD A i).lf] rfl (by exact hS.ld 0 rfl rfl) ?_
    refine WL.call rfl rfl (ih (tl.n) (by omega) _ _ _ A R da fa dc fc p (ndD A i).lf last (most - 1) any tl (hA) (hl7) (hs7.1) ((fun h x hx => hl h x (by rw [hls]; exact List.mem_append_left _ hx))) ((by omega)) rfl (hS.sel 3 [2, 1, 0] rfl)) rfl ?_
    clear hS; rintro _ w ⟨last1, any1, rfl, hS, f1⟩
    replace hS := hS.n3 L (a0 := cel p #[.slice da (List.length (sls (AM.dmp A))) dc, .slice fa (List.length (u32s (SM.order A.s))) fc, .int .i64 last1, .bool any1, .int .i64 ((most - 1) - (tl.n : Int))] 257) rfl
    refine WL.r 1 rfl <| WL.nil <| WC.ifF rfl rfl <| WC.skip <| WC.seq <| WC.seq <| WC.plan [([0, 1, 2, 3, 4, 5, 7, 6, 8, 9, 10, 11, 12], none)] (by kernel_rfl) (by kernel_rfl) ?_
    refine WQ.run 4 [.bool any1] rfl (by exact hS.ld 0 rfl rfl) ?_
    refine WQ.runG 9 [.int .i64 (ndD A i).key, .int .i64 last1] rfl (by exact ⟨fun _ => hS.ld 2 rfl rfl, fun _ => hS.ld 0 rfl rfl⟩) (fun j => ?_)
    refine WQ.prop 43 rfl (band (dv _) (dd _)) <| WQ.nil ?_
    intro m1
    replace hS := hS.drewN m1; generalize hwm1 : World.drewN _ _ = w at *; clear hwm1
    as_aux_lemma =>
    refine WC.ifF rfl (decide_eq_false ((fun h9 => by rw [hk7] at h9; exact (f1 h9.1).elim (fun ⟨h1, h2⟩ => by have h3 : last < k := hl h1 (k, z) (by rw [hls]; simp); omega) (fun ⟨x, hx, h2⟩ => by have := hs7.2.2.1 x hx; omega)))) ?_
    refine WC.skip <| WC.seq <| WC.region <| WL.run 6 [.int .i64 (ndD A i).key] rfl (by exact hS.ld 2 rfl rfl) ?_
    refine WL.st rfl rfl rfl 0 hS rfl rfl rfl rfl rfl rfl (fun w hS => ?_)
    replace hS := hS.n3 L (a0 := cel p #[.slice da (List.length (sls (AM.dmp A))) dc, .slice fa (List.length (u32s (SM.order A.s))) fc, .int .i64 (ndD A i).key, .bool any1, .int .i64 ((most - 1) - (tl.n : Int))] 257) rfl
    refine WL.r 2 rfl <| WL.st rfl rfl rfl 0 hS rfl rfl rfl rfl rfl rfl (fun w hS => ?_)
    replace hS := hS.n3 L (a0 := cel p #[.slice da (List.length (sls (AM.dmp A))) dc, .slice fa (List.length (u32s (SM.order A.s))) fc, .int .i64 (ndD A i).key, .bool true, .int .i64 ((most - 1) - (tl.n : Int))] 257) rfl
    refine WL.nil <| WC.seq <| WC.region <| WL.run 3 [.int .u32 (ndD A i).rg] rfl (by exact hS.ld 2 rfl rfl) ?_
    refine WL.call rfl rfl (ih (tr.n) (by omega) _ _ _ A R da fa dc fc p (ndD A i).rg (ndD A i).key ((most - 1) - (tl.n : Int)) true tr (hA) (hr7) (hs7.2.1) ((fun _ x hx => by rw [hk7]; exact hs7.2.2.2 x hx)) ((by omega)) rfl hS) rfl ?_
    clear hS; rintro _ w ⟨last2, any2, rfl, hS, f2⟩
    replace hS := hS.n3 L (a0 := cel p #[.slice da (List.length (sls (AM.dmp A))) dc, .slice fa (List.length (u32s (SM.order A.s))) fc, .int .i64 last2, .bool any2, .int .i64 (((most - 1) - (tl.n : Int)) - (tr.n : Int))] 257) rfl
    refine WL.r 1 rfl <| WL.nil <| WC.ret ?_
    refine ⟨[.bool true], rfl, ?_⟩
    replace hS := (hS.sel 3 [0, 0] rfl)
    rw [show most - 1 - (tl.n : Int) - (tr.n : Int) = most - (t.n : Int) by omega] at hS; exact ⟨_, _, rfl, hS, fun h => .inr ((f2 h).elim (fun ⟨_, h2⟩ => ⟨(k, z), by rw [hls]; simp, by rw [h2, hk7]⟩) (fun ⟨x, hx, h2⟩ => ⟨x, by rw [hls]; exact List.mem_append_right _ (List.mem_cons_of_mem _ hx), h2⟩))⟩
theorem t7_ord_all (nM : Nat) : ∀ (g w : World) (L : List HP) (A : AM) (R : List Int) (da fa : Option Addr) (dc fc : Nat) (p : Nat) (i last most : Int) (any : Bool) (t : Tr), (ARf A R) → (Is A t i) → (Srt t.ls) → (any = true → ∀ x ∈ t.ls, last < x.1) → ((t.n : Int) ≤ most ∧ most ≤ 1000000) → t.n = nM → St g (cel p #[.slice da (List.length (sls (AM.dmp A))) dc, .slice fa (List.length (u32s (SM.order A.s))) fc, .int .i64 last, .bool any, .int .i64 most] 257 :: Sh 174 11 (sls (AM.dmp A)) da dc :: L) w → Sp Tryz.prog 152 [.pointer (some ⟨p, 0, none⟩), .int .u32 i] w (fun v w' => ∃ (last2 : Int) (any2 : Bool), v = .bool true ∧ St g (cel p #[.slice da (List.length (sls (AM.dmp A))) dc, .slice fa (List.length (u32s (SM.order A.s))) fc, .int .i64 last2, .bool any2, .int .i64 (most - (t.n : Int))] 257 :: Sh 174 11 (sls (AM.dmp A)) da dc :: L) w' ∧ (any2 = true → (any = true ∧ last2 = last) ∨ ∃ x ∈ t.ls, x.1 = last2)) := by
  induction nM using Nat.strongRecOn with
  | _ nM ih => intro g w L A R da fa dc fc p i last most any t hA hi hs hl hm hM hS; exact t7_ord_step nM ih A R da fa dc fc p i last most any t hA hi hs hl hm hM hS
theorem t7_ord {g w : World} {L : List HP} (A : AM) (R : List Int) (da fa : Option Addr) (dc fc : Nat) (p : Nat) (i last most : Int) (any : Bool) (t : Tr) (hA : ARf A R) (hi : Is A t i) (hs : Srt t.ls) (hl : any = true → ∀ x ∈ t.ls, last < x.1) (hm : (t.n : Int) ≤ most ∧ most ≤ 1000000) (hS : St g (cel p #[.slice da (List.length (sls (AM.dmp A))) dc, .slice fa (List.length (u32s (SM.order A.s))) fc, .int .i64 last, .bool any, .int .i64 most] 257 :: Sh 174 11 (sls (AM.dmp A)) da dc :: L) w) :
    Sp Tryz.prog 152 [.pointer (some ⟨p, 0, none⟩), .int .u32 i] w (fun v w' => ∃ (last2 : Int) (any2 : Bool), v = .bool true ∧ St g (cel p #[.slice da (List.length (sls (AM.dmp A))) dc, .slice fa (List.length (u32s (SM.order A.s))) fc, .int .i64 last2, .bool any2, .int .i64 (most - (t.n : Int))] 257 :: Sh 174 11 (sls (AM.dmp A)) da dc :: L) w' ∧ (any2 = true → (any = true ∧ last2 = last) ∨ ∃ x ∈ t.ls, x.1 = last2)) := t7_ord_all _ g w L A R da fa dc fc p i last most any t hA hi hs hl hm rfl hS
set_option maxHeartbeats 1000000 in
set_option maxRecDepth 8192 in
theorem t7_bal_step (nM : Nat) (ih : ∀ mM : Nat, mM < nM → ∀ (g w : World) (L : List HP) (A : AM) (R : List Int) (da fa : Option Addr) (dc fc : Nat) (i : Int) (t : Tr), (ARf A R) → (Is A t i) → (t.ok) → t.n = mM → St g (Sh 174 11 (sls (AM.dmp A)) da dc :: L) w → Sp Tryz.prog 153 [.agg #[.slice da (List.length (sls (AM.dmp A))) dc, .slice fa (List.length (u32s (SM.order A.s))) fc], .int .u32 i] w (fun v w' => v = .bool true ∧ St g (Sh 174 11 (sls (AM.dmp A)) da dc :: L) w')) {g w : World} {L : List HP} (A : AM) (R : List Int) (da fa : Option Addr) (dc fc : Nat) (i : Int) (t : Tr) (hA : ARf A R) (hi : Is A t i) (hb : t.ok) (hM : t.n = nM) (hS : St g (Sh 174 11 (sls (AM.dmp A)) da dc :: L) w) :
    Sp Tryz.prog 153 [.agg #[.slice da (List.length (sls (AM.dmp A))) dc, .slice fa (List.length (u32s (SM.order A.s))) fc], .int .u32 i] w (fun v w' => v = .bool true ∧ St g (Sh 174 11 (sls (AM.dmp A)) da dc :: L) w') := by
  refine Sp.enter Tryz.func153 rfl (by kernel_rfl) (by kernel_rfl) ?_
  refine WC.seq <| WC.region <| WL.box rfl rfl #[.slice da (List.length (sls (AM.dmp A))) dc, .slice fa (List.length (u32s (SM.order A.s))) fc] hS rfl rfl (fun b1 w hS => ?_)
  refine WL.r 1 rfl <| WL.nil <| WC.seq <| WC.seq <| WC.region ?_
  have hx0 := Is.nil_iff hi; have hir := is_rng hA hi
  refine WL.r 2 rfl <| WL.nil <| WC.ifP rfl (fun hx => ?_) (fun hx => ?_)
  · refine WC.seq <| WC.region <| WL.r 1 rfl <| WL.nil <| WC.ret ?_
    refine ⟨[.bool true], rfl, ?_⟩
    replace hS := (hS.sel 1 [] rfl)
    exact ⟨rfl, hS⟩
  · refine WC.skip <| WC.seq <| WC.region ?_
    obtain ⟨tl, k, z, tr, ht⟩ := nil_or (t := t) (fun e => hx (hx0.2 e)); have htn : t.n = tl.n + tr.n + 1 := (by rw [ht]; rfl); have hi2 : Is A (.node tl k z tr) i := ht ▸ hi; have e7 : ndD A i = A.nd i := ndD_ok hi2.2.1; have hl7 : Is A tl (ndD A i).lf := (by rw [e7]; exact hi2.2.2.2.2.1); have hr7 : Is A tr (ndD A i).rg := (by rw [e7]; exact hi2.2.2.2.2.2); have hlr := is_rng hA hl7; have hrr := is_rng hA hr7; have hb7 : Bal tl.n tr.n ∧ tl.ok ∧ tr.ok := (by rw [ht] at hb; exact hb); have hlz : (ndD A (ndD A i).lf).size = (tl.n : Int) := (by rw [ndD_sz, Is.sz hA tl _ hl7]); have hrz : (ndD A (ndD A i).rg).size = (tr.n : Int) := (by rw [ndD_sz, Is.sz hA tr _ hr7]); have hnn := is_n hA hi
    refine WL.ldF rfl rfl 0 hS rfl rfl ag_62 <| WL.r 1 rfl <| WL.call rfl rfl (t7_node (A := A) (fa := fa) (fc := fc) (i := i) (hA := hA) (hi := (by omega)) (hS := (hS.sel 2 [1, 0] rfl))) rfl ?_
    clear hS; rintro _ w ⟨rfl, hS⟩
    replace hS := hS.n2 L (a1 := cel b1 #[.slice da (List.length (sls (AM.dmp A))) dc, .slice fa (List.length (u32s (SM.order A.s))) fc] 62) rfl
    refine WL.new rfl rfl zv_172 hS (fun b2 w hS => ?_)
    refine WL.stF rfl rfl rfl 0 hS rfl rfl rfl rfl rfl ag_172 (fun w hS => ?_)
    replace hS := hS.n3 L (a0 := cel b2 #[.int .i64 (ndD A i).key, .int .i64 (ndD A i).val, .int .u32 (ndD A i).lf, .int .u32 (ndD A i).rg, .int .i64 (ndD A i).size, .int .i64 (ndD A i).sum, .int .i64 (ndD A i).mn, .int .i64 (ndD A i).mx] 172) rfl
    refine WL.nil ?_
    as_aux_lemma =>
    refine WC.seq <| WC.plan [([0, 1, 5, 6, 2, 7], some (3, [5, 6, 7])), ([4], some (8, [4])), ([9], some (10, [])), ([11, 12, 13, 14], some (15, [])), ([16, 17, 18, 19, 20], some (21, [])), ([22, 23], none)] (by kernel_rfl) (by kernel_rfl) ?_
    refine WQ.ldF rfl rfl 2 hS rfl rfl ag_62 <| WQ.r 1 rfl <| WQ.ldF rfl rfl 2 hS rfl rfl ag_62 <| WQ.run 3 [.int .u32 (ndD A i).lf, .int .u32 (ndD A i).rg] rfl (by exact ⟨hS.ld 0 rfl rfl, hS.ld 0 rfl rfl⟩) ?_
    refine WQ.nil ?_
    intro m1
    replace hS := hS.drewN m1; generalize hwm1 : World.drewN _ _ = w at *; clear hwm1
    refine WL.call rfl rfl (t7_node (A := A) (R := R) (fa := fa) (fc := fc) (i := (ndD A i).lf) (hA := hA) (hi := (by omega)) (hS := (hS.sel 2 [1, 0] rfl))) rfl ?_
    clear hS; rintro _ w ⟨rfl, hS⟩
    replace hS := hS.n3 L rfl
    refine WL.nil ?_
    refine ⟨by exact ⟨RQ.ldF rfl rfl 2 hS rfl rfl ag_62 rfl rfl, RQ.pure rfl rfl rfl rfl, RQ.load rfl rfl rfl rfl (hS.ld 1 rfl rfl)⟩, ?_⟩
    refine WQ.r 1 rfl <| WQ.nil ?_
    intro m2
    replace hS := hS.drewN m2; generalize hwm2 : World.drewN _ _ = w at *; clear hwm2
    refine WL.call rfl rfl (t7_node (A := A) (R := R) (fa := fa) (fc := fc) (i := (ndD A i).rg) (hA := hA) (hi := (by omega)) (hS := hS)) rfl ?_
    clear hS; rintro _ w ⟨rfl, hS⟩
    replace hS := hS.n3 L rfl
    refine WL.nil ?_
    refine ⟨by exact RQ.pure rfl rfl rfl rfl, ?_⟩
    refine WQ.r 1 rfl <| WQ.nil ?_
    intro m3
    replace hS := hS.drewN m3; generalize hwm3 : World.drewN _ _ = w at *; clear hwm3
    refine WL.call rfl rfl (kb_bal (x := (ndD A (ndD A i).lf).size) (y := (ndD A (ndD A i).rg).size) (hx := (by omega)) (hy := (by omega)) (hS := hS)) rfl ?_
    clear hS; rintro _ w ⟨rfl, hS⟩
    replace hS := hS.n3 L rfl
    refine WL.nil ?_
    refine ⟨by exact trivial, ?_⟩
    refine WQ.r 1 rfl <| WQ.reb 22 (.bool true) (congrArg Value.bool (decide_eq_true ((by rw [hlz, hrz]; have h8 := hb7.1; unfold Bal at h8; omega)))) ?_
    refine WQ.ung rfl rfl rfl <| WQ.ldF rfl rfl 2 hS rfl rfl ag_62 <| WQ.ung rfl rfl rfl <| WQ.r 1 rfl <| WQ.ung rfl rfl rfl <| WQ.run 1 [.int .u32 (ndD A i).lf] rfl (by exact hS.ld 1 rfl rfl) ?_
    refine WQ.nil ?_
    intro m4
    replace hS := hS.drewN m4; generalize hwm4 : World.drewN _ _ = w at *; clear hwm4
    refine WL.ung rfl rfl rfl <| WL.call rfl rfl (ih (tl.n) (by omega) _ _ _ A R da fa dc fc (ndD A i).lf tl (hA) (hl7) (hb7.2.1) rfl hS) rfl ?_
    clear hS; rintro _ w ⟨rfl, hS⟩
    replace hS := hS.n3 L rfl
    refine WL.nil ?_
    refine ⟨by exact trivial, ?_⟩
    refine WQ.r 2 rfl <| WQ.ung rfl rfl rfl <| WQ.ldF rfl rfl 2 hS rfl rfl ag_62 <| WQ.ung rfl rfl rfl <| WQ.r 1 rfl <| WQ.ung rfl rfl rfl <| WQ.run 1 [.int .u32 (ndD A i).rg] rfl (by exact hS.ld 1 rfl rfl) ?_
    refine WQ.nil ?_
    intro m5
    replace hS := hS.drewN m5; generalize hwm5 : World.drewN _ _ = w at *; clear hwm5
    refine WL.ung rfl rfl rfl <| WL.call rfl rfl (ih (tr.n) (by omega) _ _ _ A R da fa dc fc (ndD A i).rg tr (hA) (hr7) (hb7.2.2) rfl hS) rfl ?_
    clear hS; rintro _ w ⟨rfl, hS⟩
    replace hS := hS.n3 L rfl
    refine WL.nil ?_
    refine ⟨by exact trivial, ?_⟩
    refine WQ.r 2 rfl <| WQ.nil ?_
    intro m6
    replace hS := hS.drewN m6; generalize hwm6 : World.drewN _ _ = w at *; clear hwm6
    as_aux_lemma =>
    refine WC.ret ?_
    refine ⟨[.bool true], rfl, ?_⟩
    replace hS := (hS.sel 3 [0] rfl)
    exact ⟨rfl, hS⟩
theorem t7_bal_all (nM : Nat) : ∀ (g w : World) (L : List HP) (A : AM) (R : List Int) (da fa : Option Addr) (dc fc : Nat) (i : Int) (t : Tr), (ARf A R) → (Is A t i) → (t.ok) → t.n = nM → St g (Sh 174 11 (sls (AM.dmp A)) da dc :: L) w → Sp Tryz.prog 153 [.agg #[.slice da (List.length (sls (AM.dmp A))) dc, .slice fa (List.length (u32s (SM.order A.s))) fc], .int .u32 i] w (fun v w' => v = .bool true ∧ St g (Sh 174 11 (sls (AM.dmp A)) da dc :: L) w') := by
  induction nM using Nat.strongRecOn with
  | _ nM ih => intro g w L A R da fa dc fc i t hA hi hb hM hS; exact t7_bal_step nM ih A R da fa dc fc i t hA hi hb hM hS
theorem t7_bal {g w : World} {L : List HP} (A : AM) (R : List Int) (da fa : Option Addr) (dc fc : Nat) (i : Int) (t : Tr) (hA : ARf A R) (hi : Is A t i) (hb : t.ok) (hS : St g (Sh 174 11 (sls (AM.dmp A)) da dc :: L) w) :
    Sp Tryz.prog 153 [.agg #[.slice da (List.length (sls (AM.dmp A))) dc, .slice fa (List.length (u32s (SM.order A.s))) fc], .int .u32 i] w (fun v w' => v = .bool true ∧ St g (Sh 174 11 (sls (AM.dmp A)) da dc :: L) w') := t7_bal_all _ g w L A R da fa dc fc i t hA hi hb rfl hS
set_option maxRecDepth 8192 in
theorem t7_check {g w : World} {L : List HP} (A : AM) (R : List Int) (da fa : Option Addr) (dc fc : Nat) (i : Int) (t : Tr) (hA : ARf A R) (hi : Is A t i) (hs : Srt t.ls) (hb : t.ok) (hS : St g (Sh 174 11 (sls (AM.dmp A)) da dc :: L) w) :
    Sp Tryz.prog 85 [.agg #[.slice da (List.length (sls (AM.dmp A))) dc, .slice fa (List.length (u32s (SM.order A.s))) fc], .int .u32 i] w (fun v w' => v = .int .i64 0 ∧ St g (Sh 174 11 (sls (AM.dmp A)) da dc :: L) w') := by
  refine Sp.enter Tryz.func85 rfl (by kernel_rfl) (by kernel_rfl) ?_
  refine WC.seq <| WC.region <| WL.box rfl rfl #[.slice da (List.length (sls (AM.dmp A))) dc, .slice fa (List.length (u32s (SM.order A.s))) fc] hS rfl rfl (fun b1 w hS => ?_)
  refine WL.r 1 rfl <| WL.nil <| WC.seq <| WC.seq <| WC.region ?_
  have hir := is_rng hA hi; have hn := dmp_n A; have hcr := cap_rng hA; have htc := tn_cap hA hi hs; have hrf := hi.ref
  refine WL.r 3 rfl ?_
  by_cases cg1 : i ≠ 0
  · refine WL.reb 8 (.bool true) (congrArg Value.bool (decide_eq_true cg1)) <| WL.ung rfl rfl rfl <| WL.ldF rfl rfl 0 hS rfl rfl ag_62 <| WL.ung rfl rfl rfl <| WL.r 1 rfl <| WL.ung rfl rfl rfl <| WL.call rfl rfl (c6_alloc (A := A) (fa := fa) (fc := fc) (i := i) (hA := hA) (hi := (by omega)) (hS := (hS.sel 2 [1, 0] rfl))) rfl ?_
    clear hS; rintro _ w ⟨b2, rfl, hS, f1⟩
    replace hS := hS.n2 L (a1 := cel b1 #[.slice da (List.length (sls (AM.dmp A))) dc, .slice fa (List.length (u32s (SM.order A.s))) fc] 62) rfl
    refine WL.ung rfl rfl rfl <| WL.r 1 rfl <| WL.r 1 rfl <| WL.nil ?_
    as_aux_lemma =>
    refine WC.ifF rfl (by have h9 := (hrf.resolve_left cg1).2; rw [← f1] at h9; rw [h9]; rfl) ?_
    refine WC.skip <| WC.seq <| WC.region <| WL.ldF rfl rfl 1 hS rfl rfl ag_62 <| WL.run 4 [.slice da (List.length (sls (AM.dmp A))) dc] rfl (by exact hS.ld 1 rfl rfl) ?_
    refine WL.nw 18 rfl (w64 (by omega)) ?_
    refine WL.r 1 rfl <| WL.nw 19 rfl (w64 (by omega)) ?_
    refine WL.build rfl rfl (cs := [.slice da (List.length (sls (AM.dmp A))) dc, .slice fa (List.length (u32s (SM.order A.s))) fc, .int .i64 0, .bool false, .int .i64 ((2 * (List.length (sls (AM.dmp A)) : Int)) + 2)]) zv_257 rfl rfl <| WL.box rfl rfl #[.slice da (List.length (sls (AM.dmp A))) dc, .slice fa (List.length (u32s (SM.order A.s))) fc, .int .i64 0, .bool false, .int .i64 ((2 * (List.length (sls (AM.dmp A)) : Int)) + 2)] hS rfl rfl (fun b3 w hS => ?_)
    refine WL.r 1 rfl <| WL.nil <| WC.seq <| WC.seq <| WC.region <| WL.r 2 rfl <| WL.call rfl rfl (t7_ord (A := A) (R := R) (fa := fa) (fc := fc) (i := i) (last := 0) (most := (2 * (List.length (sls (AM.dmp A)) : Int)) + 2) (any := false) (t := t) (hA := hA) (hi := hi) (hs := hs) (hl := (fun h => by cases h)) (hm := (by omega)) (hS := hS)) rfl ?_
    clear hS; rintro _ w ⟨last1, any1, rfl, hS, f2⟩
    replace hS := hS.n3 L (a0 := cel b3 #[.slice da (List.length (sls (AM.dmp A))) dc, .slice fa (List.length (u32s (SM.order A.s))) fc, .int .i64 last1, .bool any1, .int .i64 (((2 * (List.length (sls (AM.dmp A)) : Int)) + 2) - (t.n : Int))] 257) rfl
    refine WL.r 1 rfl <| WL.nil <| WC.ifF rfl rfl <| WC.skip <| WC.seq <| WC.seq <| WC.region <| WL.ldF rfl rfl 2 hS rfl rfl ag_62 <| WL.r 1 rfl <| WL.call rfl rfl (t7_bal (A := A) (fa := fa) (fc := fc) (i := i) (t := t) (hA := hA) (hi := hi) (hb := hb) (hS := (hS.sel 2 [1, 0] rfl))) rfl ?_
    clear hS; rintro _ w ⟨rfl, hS⟩
    replace hS := hS.n3 L rfl
    refine WL.r 1 rfl <| WL.nil ?_
    as_aux_lemma =>
    refine WC.ifF rfl rfl <| WC.skip <| WC.seq <| WC.region <| WL.r 1 rfl <| WL.nil <| WC.ret ?_
    refine ⟨[.int .i64 0], rfl, ?_⟩
    replace hS := (hS.sel 3 [0] rfl)
    exact ⟨rfl, hS⟩
  · refine WL.reb 8 (.bool false) (congrArg Value.bool (decide_eq_false cg1)) <| WL.skp rfl rfl rfl rfl <| WL.skp rfl rfl rfl rfl <| WL.skp rfl rfl rfl rfl <| WL.skp rfl rfl rfl rfl <| WL.r 1 rfl <| WL.nil <| WC.ifF rfl rfl <| WC.skip <| WC.seq <| WC.region <| WL.ldF rfl rfl 0 hS rfl rfl ag_62 ?_
    refine WL.run 4 [.slice da (List.length (sls (AM.dmp A))) dc] rfl (by exact hS.ld 0 rfl rfl) ?_
    refine WL.nw 18 rfl (w64 (by omega)) ?_
    refine WL.r 1 rfl <| WL.nw 19 rfl (w64 (by omega)) ?_
    refine WL.build rfl rfl (cs := [.slice da (List.length (sls (AM.dmp A))) dc, .slice fa (List.length (u32s (SM.order A.s))) fc, .int .i64 0, .bool false, .int .i64 ((2 * (List.length (sls (AM.dmp A)) : Int)) + 2)]) zv_257 rfl rfl <| WL.box rfl rfl #[.slice da (List.length (sls (AM.dmp A))) dc, .slice fa (List.length (u32s (SM.order A.s))) fc, .int .i64 0, .bool false, .int .i64 ((2 * (List.length (sls (AM.dmp A)) : Int)) + 2)] hS rfl rfl (fun b2 w hS => ?_)
    refine WL.r 1 rfl <| WL.nil ?_
    as_aux_lemma =>
    refine WC.seq <| WC.seq <| WC.region <| WL.r 2 rfl <| WL.call rfl rfl (t7_ord (A := A) (R := R) (fa := fa) (fc := fc) (i := i) (last := 0) (most := (2 * (List.length (sls (AM.dmp A)) : Int)) + 2) (any := false) (t := t) (hA := hA) (hi := hi) (hs := hs) (hl := (fun h => by cases h)) (hm := (by omega)) (hS := (hS.sel 3 [0, 1, 0] rfl))) rfl ?_
    clear hS; rintro _ w ⟨last1, any1, rfl, hS, f1⟩
    replace hS := hS.n3 L (a0 := cel b2 #[.slice da (List.length (sls (AM.dmp A))) dc, .slice fa (List.length (u32s (SM.order A.s))) fc, .int .i64 last1, .bool any1, .int .i64 (((2 * (List.length (sls (AM.dmp A)) : Int)) + 2) - (t.n : Int))] 257) (a2 := cel b1 #[.slice da (List.length (sls (AM.dmp A))) dc, .slice fa (List.length (u32s (SM.order A.s))) fc] 62) rfl
    refine WL.r 1 rfl <| WL.nil <| WC.ifF rfl rfl <| WC.skip <| WC.seq <| WC.seq <| WC.region <| WL.ldF rfl rfl 2 hS rfl rfl ag_62 <| WL.r 1 rfl <| WL.call rfl rfl (t7_bal (A := A) (fa := fa) (fc := fc) (i := i) (t := t) (hA := hA) (hi := hi) (hb := hb) (hS := (hS.sel 2 [1, 0] rfl))) rfl ?_
    clear hS; rintro _ w ⟨rfl, hS⟩
    replace hS := hS.n3 L rfl
    refine WL.r 1 rfl <| WL.nil <| WC.ifF rfl rfl <| WC.skip <| WC.seq <| WC.region <| WL.r 1 rfl <| WL.nil ?_
    as_aux_lemma =>
    refine WC.ret ?_
    refine ⟨[.int .i64 0], rfl, ?_⟩
    replace hS := (hS.sel 3 [0] rfl)
    exact ⟨rfl, hS⟩
set_option maxHeartbeats 1000000 in
set_option maxRecDepth 8192 in
theorem t7_list_step (nM : Nat) (ih : ∀ mM : Nat, mM < nM → ∀ (g w : World) (L : List HP) (A : AM) (R : List Int) (da fa : Option Addr) (dc fc : Nat) (i : Int) (t : Tr), (ARf A R) → (Is A t i) → (t.n ≤ 1000000) → t.n = mM → St g (Sh 174 11 (sls (AM.dmp A)) da dc :: L) w → Sp Tryz.prog 87 [.agg #[.slice da (List.length (sls (AM.dmp A))) dc, .slice fa (List.length (u32s (SM.order A.s))) fc], .int .u32 i] w (fun v w' => ∃ (u : Option Addr) (d : Nat), v = .slice u (List.length (en2 t.ls)) d ∧ St g (Own 121 2 (en2 t.ls) u d :: Sh 174 11 (sls (AM.dmp A)) da dc :: L) w')) {g w : World} {L : List HP} (A : AM) (R : List Int) (da fa : Option Addr) (dc fc : Nat) (i : Int) (t : Tr) (hA : ARf A R) (hi : Is A t i) (hn : t.n ≤ 1000000) (hM : t.n = nM) (hS : St g (Sh 174 11 (sls (AM.dmp A)) da dc :: L) w) :
    Sp Tryz.prog 87 [.agg #[.slice da (List.length (sls (AM.dmp A))) dc, .slice fa (List.length (u32s (SM.order A.s))) fc], .int .u32 i] w (fun v w' => ∃ (u : Option Addr) (d : Nat), v = .slice u (List.length (en2 t.ls)) d ∧ St g (Own 121 2 (en2 t.ls) u d :: Sh 174 11 (sls (AM.dmp A)) da dc :: L) w') := by
  refine Sp.enter Tryz.func87 rfl (by kernel_rfl) (by kernel_rfl) ?_
  have _ := hn
  refine WC.seq <| WC.region <| WL.box rfl rfl #[.slice da (List.length (sls (AM.dmp A))) dc, .slice fa (List.length (u32s (SM.order A.s))) fc] hS rfl rfl (fun b1 w hS => ?_)
  refine WL.r 1 rfl <| WL.nil <| WC.seq <| WC.seq <| WC.region ?_
  have hx0 := Is.nil_iff hi; have hir := is_rng hA hi
  refine WL.r 2 rfl <| WL.nil <| WC.ifP rfl (fun hx => ?_) (fun hx => ?_)
  · refine WC.seq <| WC.region ?_
    replace hS : St g (Own 121 2 (en2 []) none 0 :: cel b1 #[.slice da (List.length (sls (AM.dmp A))) dc, .slice fa (List.length (u32s (SM.order A.s))) fc] 62 :: Sh 174 11 (sls (AM.dmp A)) da dc :: L) w := hS.nil_ 121 2
    refine WL.r 1 rfl <| WL.nil <| WC.ret ?_
    refine ⟨[.slice none 0 0], rfl, ?_⟩
    replace hS := (hS.sel 2 [0] rfl)
    have h9 := hx0.1 hx; subst h9; exact ⟨none, 0, rfl, hS⟩
  · refine WC.skip <| WC.seq <| WC.region ?_
    obtain ⟨tl, k, z, tr, ht⟩ := nil_or (t := t) (fun e => hx (hx0.2 e)); have htn : t.n = tl.n + tr.n + 1 := (by rw [ht]; rfl); have hi2 : Is A (.node tl k z tr) i := ht ▸ hi; have e7 : ndD A i = A.nd i := ndD_ok hi2.2.1; have hl7 : Is A tl (ndD A i).lf := (by rw [e7]; exact hi2.2.2.2.2.1); have hr7 : Is A tr (ndD A i).rg := (by rw [e7]; exact hi2.2.2.2.2.2); have hlr := is_rng hA hl7; have hrr := is_rng hA hr7; have hle := en2_len tl.ls; have hll := Tr.ls_len tl; have hre := en2_len tr.ls; have hrl := Tr.ls_len tr
    refine WL.ldF rfl rfl 0 hS rfl rfl ag_62 <| WL.r 1 rfl <| WL.call rfl rfl (t7_node (A := A) (fa := fa) (fc := fc) (i := i) (hA := hA) (hi := (by omega)) (hS := (hS.sel 2 [1, 0] rfl))) rfl ?_
    clear hS; rintro _ w ⟨rfl, hS⟩
    replace hS := hS.n2 L (a1 := cel b1 #[.slice da (List.length (sls (AM.dmp A))) dc, .slice fa (List.length (u32s (SM.order A.s))) fc] 62) rfl
    refine WL.new rfl rfl zv_172 hS (fun b2 w hS => ?_)
    refine WL.stF rfl rfl rfl 0 hS rfl rfl rfl rfl rfl ag_172 (fun w hS => ?_)
    replace hS := hS.n3 L (a0 := cel b2 #[.int .i64 (ndD A i).key, .int .i64 (ndD A i).val, .int .u32 (ndD A i).lf, .int .u32 (ndD A i).rg, .int .i64 (ndD A i).size, .int .i64 (ndD A i).sum, .int .i64 (ndD A i).mn, .int .i64 (ndD A i).mx] 172) rfl
    refine WL.nil ?_
    as_aux_lemma =>
    refine WC.seq <| WC.tree (.two [0, 1, 4, 6, 2, 5, 7, 8] 3 [4, 5, 6, 7, 8] (.one [] 9 [0, 1, 2] (.one [] 10 [] (.seg [11] .nil))) 9 [0, 1, 2] (.one [] 3 [4, 5, 6, 7, 8] (.one [] 10 [] (.seg [11] .nil)))) (by kernel_rfl) (by kernel_rfl) ?_
    refine WQ.ldF rfl rfl 2 hS rfl rfl ag_62 <| WQ.run 6 [.int .u32 (ndD A i).lf, .int .i64 (ndD A i).key, .int .i64 (ndD A i).val] rfl (by exact ⟨hS.ld 0 rfl rfl, hS.ld 0 rfl rfl, hS.ld 0 rfl rfl⟩) ?_
    refine WQ.build rfl rfl (cs := [.int .i64 (ndD A i).key, .int .i64 (ndD A i).val]) zv_121 rfl rfl <| WQ.nil ?_
    intro m1
    replace hS := hS.drewN m1; generalize hwm1 : World.drewN _ _ = w at *; clear hwm1
    refine ⟨?_, ?_⟩
    · refine WL.call rfl rfl (ih (tl.n) (by omega) _ _ _ A R da fa dc fc (ndD A i).lf tl (hA) (hl7) ((by omega)) rfl (hS.sel 2 [1, 0] rfl)) rfl ?_
      clear hS; rintro _ w ⟨u1, d1, rfl, hS⟩
      replace hS := hS.n4 L (a0 := Own 121 2 (en2 tl.ls) u1 d1) rfl
      refine WL.nil ?_
      refine ⟨by exact ⟨RQ.pure rfl rfl rfl rfl, RQ.load rfl rfl rfl rfl (hS.ld 2 rfl rfl), RQ.pure rfl rfl rfl rfl, RQ.load rfl rfl rfl rfl (hS.ld 2 rfl rfl), RQ.build rfl rfl (cs := [.int .i64 (ndD A i).key, .int .i64 (ndD A i).val]) zv_121 rfl rfl rfl rfl⟩, ?_⟩
      refine WQ.nil ?_
      intro m2
      replace hS := hS.drewN m2; generalize hwm2 : World.drewN _ _ = w at *; clear hwm2
      refine WL.lit rfl rfl (en2 [((ndD A i).key, (ndD A i).val)]) el_49 hS (by exact ⟨rfl, rfl⟩) (en2_ok _) rfl (Nat.le_of_ble_eq_true rfl) (fun b3 w hS => ?_)
      refine WL.nil ?_
      refine ⟨by exact ⟨RQ.ldF rfl rfl 4 hS rfl rfl ag_62 rfl rfl, RQ.pure rfl rfl rfl rfl, RQ.load rfl rfl rfl rfl (hS.ld 3 rfl rfl)⟩, ?_⟩
      refine WQ.nil ?_
      intro m3
      replace hS := hS.drewN m3; generalize hwm3 : World.drewN _ _ = w at *; clear hwm3
      refine WL.app rfl rfl 1 (en2 (tl.ls ++ [((ndD A i).key, (ndD A i).val)])) el_49 hS rfl (hS.srcO 0 rfl) (en2_app _ _).symm (Rm.of (by first | omega | (simp <;> omega)) (by decide)) rfl rfl (fun a1 c1 w hS => ?_)
      replace hS := hS.n5 L (a0 := Own 121 2 (en2 [((ndD A i).key, (ndD A i).val)]) (some ⟨b3, 0, none⟩) (List.length (en2 [((ndD A i).key, (ndD A i).val)]))) (a1 := Own 121 2 (en2 (tl.ls ++ [((ndD A i).key, (ndD A i).val)])) a1 c1) rfl
      refine WL.nil ?_
      refine ⟨by exact trivial, ?_⟩
      refine WQ.r 1 rfl <| WQ.nil ?_
      intro m4
      replace hS := hS.drewN m4; generalize hwm4 : World.drewN _ _ = w at *; clear hwm4
      as_aux_lemma =>
      refine WC.seq <| WC.region <| WL.r 1 rfl <| WL.ldF rfl rfl 4 hS rfl rfl ag_62 <| WL.run 2 [.int .u32 (ndD A i).rg] rfl (by exact hS.ld 3 rfl rfl) ?_
      refine WL.call rfl rfl (ih (tr.n) (by omega) _ _ _ A R da fa dc fc (ndD A i).rg tr (hA) (hr7) ((by omega)) rfl (hS.sel 3 [2, 0, 0] rfl)) rfl ?_
      clear hS; rintro _ w ⟨u2, d2, rfl, hS⟩
      replace hS := hS.n6 L (a0 := Own 121 2 (en2 tr.ls) u2 d2) rfl
      refine WL.app rfl rfl 3 (en2 ((tl.ls ++ [((ndD A i).key, (ndD A i).val)]) ++ tr.ls)) el_49 hS rfl (hS.srcO 0 rfl) (en2_app _ _).symm (Rm.of (by first | omega | (simp <;> omega)) (by decide)) rfl rfl (fun a2 c2 w hS => ?_)
      replace hS := hS.n6 L (a3 := Own 121 2 (en2 ((tl.ls ++ [((ndD A i).key, (ndD A i).val)]) ++ tr.ls)) a2 c2) rfl
      refine WL.r 1 rfl <| WL.nil <| WC.ret ?_
      refine ⟨[.slice a2 (List.length (en2 ((tl.ls ++ [((ndD A i).key, (ndD A i).val)]) ++ tr.ls))) c2], rfl, ?_⟩
      replace hS := (hS.sel 6 [3, 1] rfl)
      have e9 : tl.ls ++ [((ndD A i).key, (ndD A i).val)] ++ tr.ls = t.ls := (by rw [ht, e7, hi2.2.2.1, hi2.2.2.2.1]; show _ = tl.ls ++ (k, z) :: tr.ls; simp); rw [e9] at hS ⊢; exact ⟨_, _, rfl, hS⟩
    · refine WL.lit rfl rfl (en2 [((ndD A i).key, (ndD A i).val)]) el_49 hS (by exact ⟨rfl, rfl⟩) (en2_ok _) rfl (Nat.le_of_ble_eq_true rfl) (fun b3 w hS => ?_)
      refine WL.nil ?_
      refine ⟨by exact ⟨RQ.ldF rfl rfl 3 hS rfl rfl ag_62 rfl rfl, RQ.pure rfl rfl rfl rfl, RQ.load rfl rfl rfl rfl (hS.ld 1 rfl rfl)⟩, ?_⟩
      refine WQ.nil ?_
      intro m2
      replace hS := hS.drewN m2; generalize hwm2 : World.drewN _ _ = w at *; clear hwm2
      refine WL.call rfl rfl (ih (tl.n) (by omega) _ _ _ A R da fa dc fc (ndD A i).lf tl (hA) (hl7) ((by omega)) rfl (hS.sel 3 [2, 0, 0] rfl)) rfl ?_
      clear hS; rintro _ w ⟨u1, d1, rfl, hS⟩
      replace hS := hS.n5 L (a0 := Own 121 2 (en2 tl.ls) u1 d1) (a2 := Own 121 2 (en2 [((ndD A i).key, (ndD A i).val)]) (some ⟨b3, 0, none⟩) (List.length (en2 [((ndD A i).key, (ndD A i).val)]))) rfl
      refine WL.nil ?_
      refine ⟨by exact ⟨RQ.pure rfl rfl rfl rfl, RQ.load rfl rfl rfl rfl (hS.ld 3 rfl rfl), RQ.pure rfl rfl rfl rfl, RQ.load rfl rfl rfl rfl (hS.ld 3 rfl rfl), RQ.build rfl rfl (cs := [.int .i64 (ndD A i).key, .int .i64 (ndD A i).val]) zv_121 rfl rfl rfl rfl⟩, ?_⟩
      refine WQ.nil ?_
      intro m3
      replace hS := hS.drewN m3; generalize hwm3 : World.drewN _ _ = w at *; clear hwm3
      refine WL.app rfl rfl 0 (en2 (tl.ls ++ [((ndD A i).key, (ndD A i).val)])) el_49 hS rfl (hS.srcO 2 rfl) (en2_app _ _).symm (Rm.of (by first | omega | (simp <;> omega)) (by decide)) rfl rfl (fun a1 c1 w hS => ?_)
      replace hS := hS.n5 L (a0 := Own 121 2 (en2 (tl.ls ++ [((ndD A i).key, (ndD A i).val)])) a1 c1) rfl
      refine WL.nil ?_
      refine ⟨by exact trivial, ?_⟩
      refine WQ.r 1 rfl <| WQ.nil ?_
      intro m4
      replace hS := hS.drewN m4; generalize hwm4 : World.drewN _ _ = w at *; clear hwm4
      as_aux_lemma =>
      refine WC.seq <| WC.region <| WL.r 1 rfl <| WL.ldF rfl rfl 4 hS rfl rfl ag_62 <| WL.run 2 [.int .u32 (ndD A i).rg] rfl (by exact hS.ld 3 rfl rfl) ?_
      refine WL.call rfl rfl (ih (tr.n) (by omega) _ _ _ A R da fa dc fc (ndD A i).rg tr (hA) (hr7) ((by omega)) rfl (hS.sel 2 [1, 0] rfl)) rfl ?_
      clear hS; rintro _ w ⟨u2, d2, rfl, hS⟩
      replace hS := hS.n6 L (a0 := Own 121 2 (en2 tr.ls) u2 d2) rfl
      refine WL.app rfl rfl 2 (en2 ((tl.ls ++ [((ndD A i).key, (ndD A i).val)]) ++ tr.ls)) el_49 hS rfl (hS.srcO 0 rfl) (en2_app _ _).symm (Rm.of (by first | omega | (simp <;> omega)) (by decide)) rfl rfl (fun a2 c2 w hS => ?_)
      replace hS := hS.n6 L (a2 := Own 121 2 (en2 ((tl.ls ++ [((ndD A i).key, (ndD A i).val)]) ++ tr.ls)) a2 c2) rfl
      refine WL.r 1 rfl <| WL.nil <| WC.ret ?_
      refine ⟨[.slice a2 (List.length (en2 ((tl.ls ++ [((ndD A i).key, (ndD A i).val)]) ++ tr.ls))) c2], rfl, ?_⟩
      replace hS := (hS.sel 6 [2, 1] rfl)
      have e9 : tl.ls ++ [((ndD A i).key, (ndD A i).val)] ++ tr.ls = t.ls := (by rw [ht, e7, hi2.2.2.1, hi2.2.2.2.1]; show _ = tl.ls ++ (k, z) :: tr.ls; simp); rw [e9] at hS ⊢; exact ⟨_, _, rfl, hS⟩
theorem t7_list_all (nM : Nat) : ∀ (g w : World) (L : List HP) (A : AM) (R : List Int) (da fa : Option Addr) (dc fc : Nat) (i : Int) (t : Tr), (ARf A R) → (Is A t i) → (t.n ≤ 1000000) → t.n = nM → St g (Sh 174 11 (sls (AM.dmp A)) da dc :: L) w → Sp Tryz.prog 87 [.agg #[.slice da (List.length (sls (AM.dmp A))) dc, .slice fa (List.length (u32s (SM.order A.s))) fc], .int .u32 i] w (fun v w' => ∃ (u : Option Addr) (d : Nat), v = .slice u (List.length (en2 t.ls)) d ∧ St g (Own 121 2 (en2 t.ls) u d :: Sh 174 11 (sls (AM.dmp A)) da dc :: L) w') := by
  induction nM using Nat.strongRecOn with
  | _ nM ih => intro g w L A R da fa dc fc i t hA hi hn hM hS; exact t7_list_step nM ih A R da fa dc fc i t hA hi hn hM hS
theorem t7_list {g w : World} {L : List HP} (A : AM) (R : List Int) (da fa : Option Addr) (dc fc : Nat) (i : Int) (t : Tr) (hA : ARf A R) (hi : Is A t i) (hn : t.n ≤ 1000000) (hS : St g (Sh 174 11 (sls (AM.dmp A)) da dc :: L) w) :
    Sp Tryz.prog 87 [.agg #[.slice da (List.length (sls (AM.dmp A))) dc, .slice fa (List.length (u32s (SM.order A.s))) fc], .int .u32 i] w (fun v w' => ∃ (u : Option Addr) (d : Nat), v = .slice u (List.length (en2 t.ls)) d ∧ St g (Own 121 2 (en2 t.ls) u d :: Sh 174 11 (sls (AM.dmp A)) da dc :: L) w') := t7_list_all _ g w L A R da fa dc fc i t hA hi hn rfl hS
set_option maxRecDepth 8192 in
theorem t7_tree {g w : World} {L : List HP} (A : AM) (R : List Int) (da fa : Option Addr) (dc fc : Nat) (i : Int) (t : Tr) (l : Kvs) (u : Option Addr) (d : Nat) (hA : ARf A R) (hi : Is A t i) (hs : Srt t.ls) (hb : t.ok) (hl : t.ls = l) (hS : St g (Sh 174 11 (sls (AM.dmp A)) da dc :: Sh 121 2 (en2 l) u d :: L) w) :
    Sp Tryz.prog 23 [.agg #[.slice da (List.length (sls (AM.dmp A))) dc, .slice fa (List.length (u32s (SM.order A.s))) fc], .int .u32 i, .slice u (List.length (en2 l)) d] w (fun v w' => v = .bool true ∧ St g (Sh 174 11 (sls (AM.dmp A)) da dc :: Sh 121 2 (en2 l) u d :: L) w') := by
  refine Sp.enter Tryz.func23 rfl (by kernel_rfl) (by kernel_rfl) ?_
  refine WC.seq <| WC.region <| WL.box rfl rfl #[.slice da (List.length (sls (AM.dmp A))) dc, .slice fa (List.length (u32s (SM.order A.s))) fc] hS rfl rfl (fun b1 w hS => ?_)
  refine WL.r 1 rfl <| WL.nil <| WC.seq <| WC.seq <| WC.region ?_
  have hir := is_rng hA hi; have hll := Tr.ls_len t; have hel := en2_len l; have hlt : l.length = t.n := (by rw [← hl]; exact hll); have htc := tn_cap hA hi hs; have hcr := cap_rng hA; have hz : (ndD A i).size = (t.n : Int) := (by rw [ndD_sz, Is.sz hA t _ hi]); have htl := en2_len t.ls
  refine WL.ldF rfl rfl 0 hS rfl rfl ag_62 <| WL.r 1 rfl <| WL.call rfl rfl (t7_check (A := A) (fa := fa) (fc := fc) (i := i) (t := t) (hA := hA) (hi := hi) (hs := hs) (hb := hb) (hS := (hS.sel 2 [1, 0] rfl))) rfl ?_
  clear hS; rintro _ w ⟨rfl, hS⟩
  replace hS := hS.n3 L (a1 := cel b1 #[.slice da (List.length (sls (AM.dmp A))) dc, .slice fa (List.length (u32s (SM.order A.s))) fc] 62) rfl
  refine WL.r 2 rfl <| WL.reb 13 (.bool false) (congrArg Value.bool (decide_eq_false (by decide))) ?_
  refine WL.ung rfl rfl rfl <| WL.ldF rfl rfl 1 hS rfl rfl ag_62 <| WL.ung rfl rfl rfl <| WL.r 1 rfl <| WL.ung rfl rfl rfl <| WL.call rfl rfl (t7_node (A := A) (R := R) (fa := fa) (fc := fc) (i := i) (hA := hA) (hi := (by omega)) (hS := hS)) rfl ?_
  clear hS; rintro _ w ⟨rfl, hS⟩
  replace hS := hS.n3 L rfl
  refine WL.ung rfl rfl rfl <| WL.r 1 rfl <| WL.ung rfl rfl rfl <| WL.r 1 rfl <| WL.ung rfl rfl rfl <| WL.r 1 rfl <| WL.ung rfl rfl rfl <| WL.r 2 rfl <| WL.nil ?_
  as_aux_lemma =>
  refine WC.ifF rfl (decide_eq_false ((by omega))) ?_
  refine WC.skip <| WC.seq <| WC.region <| WL.ldF rfl rfl 1 hS rfl rfl ag_62 <| WL.r 1 rfl <| WL.call rfl rfl (t7_list (A := A) (fa := fa) (fc := fc) (i := i) (t := t) (hA := hA) (hi := hi) (hn := (by omega)) (hS := hS)) rfl ?_
  clear hS; rintro _ w ⟨u1, d1, rfl, hS⟩
  replace hS := hS.n4 L (a0 := Own 121 2 (en2 t.ls) u1 d1) rfl
  refine WL.r 1 rfl <| WL.nil <| WC.seq <| WC.seq <| WC.region <| WL.r 5 rfl <| WL.nil <| WC.ifF rfl (decide_eq_false ((by omega))) ?_
  refine WC.skip <| WC.seq <| WC.seq <| WC.region <| WL.r 1 rfl <| WL.nil <| WC.block <| WC.loop [2, 7, 8] (fun kM vs w => ∃ (k : Nat), vs = [.slice u (List.length (en2 l)) d, .slice u1 (List.length (en2 t.ls)) d1, .int .i64 (k : Int)] ∧ St g (Own 121 2 (en2 t.ls) u1 d1 :: Sh 174 11 (sls (AM.dmp A)) da dc :: cel b1 #[.slice da (List.length (sls (AM.dmp A))) dc, .slice fa (List.length (u32s (SM.order A.s))) fc] 62 :: Sh 121 2 (en2 l) u d :: L) w ∧ (k ≤ l.length) ∧ (l.length - k) = kM) ((List.length l) - 0) ⟨0, rfl, hS, (Nat.zero_le _), rfl⟩ ?_
  clear hS; rintro _ _ w j ⟨k, rfl, hS, hk, rfl⟩
  refine WC.seq <| WC.seq <| WC.region <| WL.r 4 rfl <| WL.nil ?_
  as_aux_lemma =>
  refine WC.ifP rfl (fun cd1 => ?_) (fun cd1 => ?_)
  · refine WC.skip <| WC.seq <| WC.block <| WC.seq <| WC.plan [([0, 1, 4, 5, 2, 6, 3, 7, 8], none)] (by kernel_rfl) (by kernel_rfl) ?_
    refine WQ.r 4 rfl ?_
    obtain ⟨x, hx⟩ : ∃ x, l[k]? = some x := ⟨_, List.getElem?_eq_getElem (by omega)⟩; have hx2 : t.ls[k]? = some x := (by rw [hl]; exact hx)
    refine WQ.ix rfl rfl (i := (k : Int)) (k) el_49 rfl rfl (by omega) (by omega) (hS.rdS 3 rfl (en2_at hx)).1 ?_
    refine WQ.ix rfl rfl (i := (k : Int)) (k) el_49 rfl rfl (by omega) (by omega) (hS.rdO 0 rfl (en2_at hx2)).1 ?_
    refine WQ.ldC rfl rfl [.int .i64 x.1, .int .i64 x.2] ag_121 rfl (hS.rdS 3 rfl (en2_at hx)).2 <| WQ.ldC rfl rfl [.int .i64 x.1, .int .i64 x.2] ag_121 rfl (hS.rdO 0 rfl (en2_at hx2)).2 <| WQ.neS rfl rfl eq_121 (xs := [.int .i64 x.1, .int .i64 x.2]) (ys := [.int .i64 x.1, .int .i64 x.2]) rfl rfl rfl rfl <| WQ.prop 44 rfl (bnot (band (dd _) (dd _))) <| WQ.nil ?_
    intro m1
    replace hS := hS.drewN m1; generalize hwm1 : World.drewN _ _ = w at *; clear hwm1
    refine WC.ifF rfl (decide_eq_false ((by simp))) ?_
    refine WC.skip <| WC.region <| WL.r 2 rfl <| WL.nw 35 rfl (w64 (by omega)) ?_
    refine WL.r 1 rfl <| WL.nil ?_
    exact ⟨_, by omega, k + 1, rfl, hS, (by omega), rfl⟩
  · refine WC.exit <| WC.seq <| WC.region <| WL.r 1 rfl <| WL.nil <| WC.ret ?_
    refine ⟨[.bool true], rfl, ?_⟩
    replace hS := (hS.sel 3 [1] rfl)
    exact ⟨rfl, hS⟩
end Go.Proofs.YtbeacjcmdijdmaaGreat
/-! ## Fam -/
namespace Go.V
open Go Go.RowKit
section
variable {α : Type} {f : α → List HP} {xs : List α} {i : Nat} {x y : α} {g w : World} {L : List HP}
def Fam (f : α → List HP) (xs : List α) : HP := all (xs.flatMap f)
theorem fam_set : ∀ {xs : List α} {i : Nat} {x y : α}, xs[i]? = some x → f y = [] → (xs.flatMap f).Perm (f x ++ (xs.set i y).flatMap f)
  | [], _, _, _, h, _ => by cases h
  | a :: xs, 0, x, y, h, hy => by
    have e : a = x := by simpa using h
    subst e
    rw [List.set_cons_zero, List.flatMap_cons, List.flatMap_cons, hy, List.nil_append]
  | a :: xs, i + 1, x, y, h, hy => by
    have h1 : xs[i]? = some x := by simpa using h
    rw [List.set_cons_succ, List.flatMap_cons, List.flatMap_cons]
    refine (List.Perm.append_left _ (fam_set h1 hy)).trans ?_
    rw [← List.append_assoc, ← List.append_assoc]
    exact List.Perm.append_right _ List.perm_append_comm
theorem St.famOut (h : St g (Fam f xs :: L) w) (hx : xs[i]? = some x) (hy : f y = []) : St g (f x ++ Fam f (xs.set i y) :: L) w := by
  have h1 : St g (xs.flatMap f ++ L) w := h.app fun _ _ hh => hh
  have h2 : St g ((xs.set i y).flatMap f ++ (f x ++ L)) w := h1.perm (by
    refine (List.Perm.append_right L (fam_set hx hy)).trans ?_
    rw [List.append_assoc, ← List.append_assoc, ← List.append_assoc]
    exact List.Perm.append_right _ List.perm_append_comm)
  have h3 : St g (Fam f (xs.set i y) :: (f x ++ L)) w := h2.fold fun _ _ hh => hh
  exact h3.perm List.perm_middle.symm
theorem St.famIn (h : St g (f y ++ Fam f xs :: L) w) (hx : xs[i]? = some x) (he : f x = []) : St g (Fam f (xs.set i y) :: L) w := by
  have h1 : St g (Fam f xs :: (f y ++ L)) w := h.perm List.perm_middle
  have h2 : St g (xs.flatMap f ++ (f y ++ L)) w := h1.app fun _ _ hh => hh
  have hl := (List.getElem?_eq_some_iff.1 hx).1
  have h3 : (xs.set i y)[i]? = some y := by rw [List.getElem?_set, if_pos rfl]; simp [hl]
  have h4 := fam_set (f := f) (y := x) h3 he
  have e : (xs.set i y).set i x = xs := by
    rw [List.set_set]
    apply List.ext_getElem?
    intro j
    rw [List.getElem?_set]
    split
    · rename_i hj; subst hj; rw [hx]
    · rfl
  rw [e] at h4
  have h5 : St g ((xs.set i y).flatMap f ++ L) w := h2.perm (by
    refine List.Perm.trans ?_ (List.Perm.append_right L h4.symm)
    rw [← List.append_assoc]
    exact List.Perm.append_right _ List.perm_append_comm)
  exact h5.fold fun _ _ hh => hh
theorem St.fam0 (h : St g L w) (hx : xs.flatMap f = []) : St g (Fam f xs :: L) w := by
  have h1 : St g ([] ++ L) w := h
  refine St.fold (M := []) h1 fun _ _ _ => ?_
  show All (xs.flatMap f) _ _
  rw [hx]; trivial
end
end Go.V
/-! ## Jbl -/
namespace Go.V
open Go Go.RowKit Go.Maps
structure Jb where
  st : Int
  acts : List A4
  a : Option Addr
  c : Nat
def jbC (z : Jb) : List Value := [.int .i64 z.st, .slice z.a (ch4 z.acts).length z.c]
def jbF (z : Jb) : List HP := [Sh 89 4 (ch4 z.acts) z.a z.c]
def enJb (l : List Jb) : List (List Value) := l.map jbC
@[simp] theorem enJb_len (l : List Jb) : (enJb l).length = l.length := by simp [enJb]
theorem enJb_at {l : List Jb} {k : Nat} {z : Jb} (h : l[k]? = some z) : (enJb l)[k]? = some [.int .i64 z.st, .slice z.a (ch4 z.acts).length z.c] := by simp [enJb, h, jbC]
theorem enJb_ok (l : List Jb) : OkE 2 (enJb l) := fun x hx => by
  obtain ⟨z, _, rfl⟩ := List.mem_map.1 hx
  exact ⟨rfl, fun u hu => by simp [jbC] at hu; rcases hu with rfl | rfl <;> rfl⟩
structure JbOk (z : Jb) : Prop where
  st : i64R z.st
  acts : ∀ c ∈ z.acts, i64R c.1 ∧ i64R c.2.1 ∧ i64R c.2.2.1 ∧ i64R c.2.2.2
  len : z.acts.length ≤ maxLen
structure RnE where
  st : Bool
  live : Bool
  held : Bool
  b : Nat
  acts : List A4
  la : Option Addr
  lc : Nat
  sn : Kvs
  sa : Option Addr
  sc : Nat
  rt : Int
  xs : List WE
  q : Nat
  S : Kvs
  ts : Tr
def Rn0 : RnE := ⟨false, false, false, 0, [], none, 0, [], none, 0, 0, [], 0, [], .nil⟩
def rnP (st : Bool) (b : Nat) : Option Addr := if st then some ⟨b, 0, none⟩ else none
theorem rnP_t {st : Bool} {b : Nat} (h : st = true) : rnP st b = some ⟨b, 0, none⟩ := if_pos h
theorem rnP_f {st : Bool} {b : Nat} (h : st = false) : rnP st b = none := if_neg (by rw [h]; decide)
def rnC (r : RnE) : List Value := [.pointer (rnP r.st r.b), .slice r.la (ch4 r.acts).length r.lc, .slice r.sa (en2 r.sn).length r.sc]
def enRn (l : List RnE) : List (List Value) := l.map rnC
@[simp] theorem enRn_len (l : List RnE) : (enRn l).length = l.length := by simp [enRn]
theorem enRn_at {l : List RnE} {k : Nat} {r : RnE} (h : l[k]? = some r) : (enRn l)[k]? = some [.pointer (rnP r.st r.b), .slice r.la (ch4 r.acts).length r.lc, .slice r.sa (en2 r.sn).length r.sc] := by simp [enRn, h, rnC]
theorem enRn_atT {l : List RnE} {k : Nat} {r : RnE} (h : l[k]? = some r) (hs : r.st = true) : (enRn l)[k]? = some [.pointer (some ⟨r.b, 0, none⟩), .slice r.la (ch4 r.acts).length r.lc, .slice r.sa (en2 r.sn).length r.sc] := by
  rw [enRn_at h, rnP_t hs]
theorem enRn_rep (n : Nat) : List.replicate n [.pointer none, .slice none 0 0, .slice none 0 0] = enRn (List.replicate n Rn0) := by unfold enRn; rw [List.map_replicate]; rfl
theorem en_put {l : List RnE} {i : Nat} {r r' : RnE} {c : List Value} (hc : c = rnC r') : (enRn (l.set i r)).set i c = enRn (l.set i r') := by
  unfold enRn; rw [hc, List.map_set, List.set_set, List.map_set]
theorem en_put0 {l : List RnE} {i : Nat} {r' : RnE} {c : List Value} (hc : c = rnC r') : (enRn l).set i c = enRn (l.set i r') := by
  unfold enRn; rw [hc, List.map_set]
theorem en_same {l : List RnE} {i : Nat} {r r' : RnE} (h : rnC r = rnC r') : enRn (l.set i r) = enRn (l.set i r') := by
  unfold enRn; rw [List.map_set, List.map_set, h]
theorem en_self {l : List RnE} {i : Nat} {r r' : RnE} (hi : l[i]? = some r) (h : rnC r = rnC r') : enRn l = enRn (l.set i r') := by
  unfold enRn
  rw [List.map_set, ← h]
  apply List.ext_getElem?
  intro j
  rw [List.getElem?_set]
  split
  · rename_i hj; subst hj
    have := (List.getElem?_eq_some_iff.1 hi).1
    rw [List.getElem?_map, hi, List.length_map, if_pos this]; rfl
  · rfl
def rnF (a : Nat) (r : RnE) : List HP := if r.live then [Tx r.b a r.rt r.xs r.q r.S, Own 121 2 (en2 r.sn) r.sa r.sc, Sh 89 4 (ch4 r.acts) r.la r.lc] else []
theorem rnF_t {a : Nat} {r : RnE} (h : r.live = true) : rnF a r = [Tx r.b a r.rt r.xs r.q r.S, Own 121 2 (en2 r.sn) r.sa r.sc, Sh 89 4 (ch4 r.acts) r.la r.lc] := if_pos h
theorem rnF_f {a : Nat} {r : RnE} (h : r.live = false) : rnF a r = [] := if_neg (by rw [h]; decide)
theorem fam_dead {a n : Nat} : (List.replicate n Rn0).flatMap (rnF a) = [] := by
  induction n with
  | zero => rfl
  | succ n ih => rw [List.replicate_succ, List.flatMap_cons, ih]; rfl
theorem fam_same {a : Nat} {g w : World} {L : List HP} : ∀ {rs : List RnE} {i : Nat} {r r' : RnE}, rnF a r = rnF a r' → (St g (Fam (rnF a) (rs.set i r) :: L) w ↔ St g (Fam (rnF a) (rs.set i r') :: L) w) := by
  intro rs i r r' h
  have e : ∀ (rs : List RnE) (i : Nat), (rs.set i r).flatMap (rnF a) = (rs.set i r').flatMap (rnF a) := by
    intro rs
    induction rs with
    | nil => intro i; rfl
    | cons x rs ih =>
      intro i
      cases i with
      | zero => rw [List.set_cons_zero, List.set_cons_zero, List.flatMap_cons, List.flatMap_cons, h]
      | succ i => rw [List.set_cons_succ, List.set_cons_succ, List.flatMap_cons, List.flatMap_cons, ih]
  unfold Fam
  rw [e]
def rnB (r : RnE) (x : Nat) : RnE := { r with st := true, b := x, sn := [], sa := none, sc := 0 }
def rnA (r : RnE) (acts : List A4) (la : Option Addr) (lc : Nat) : RnE := { r with acts := acts, la := la, lc := lc }
def rnS (r : RnE) (sn : Kvs) (sa : Option Addr) (sc : Nat) : RnE := { r with sn := sn, sa := sa, sc := sc }
def rnL (r : RnE) (rt : Int) (xs : List WE) (q : Nat) (S : Kvs) (ts : Tr) : RnE := { r with live := true, held := true, rt := rt, xs := xs, q := q, S := S, ts := ts }
def rnD (r : RnE) (h : Bool) : RnE := { r with live := false, held := h }
def RnT (rs : List RnE) : List Int := (rs.filter fun r => r.held).map RnE.rt
theorem RnT_set : ∀ {rs : List RnE} {i : Nat} {r r' : RnE}, rs[i]? = some r → r.held = false → r'.held = true → (RnT (rs.set i r')).Perm (r'.rt :: RnT rs)
  | [], _, _, _, h, _, _ => by cases h
  | x :: rs, 0, r, r', h, h1, h2 => by
    have e : x = r := by simpa using h
    subst e
    unfold RnT
    rw [List.set_cons_zero, List.filter_cons_of_pos (by simpa using h2), List.filter_cons_of_neg (by rw [h1]; decide)]
    exact List.Perm.refl _
  | x :: rs, i + 1, r, r', h, h1, h2 => by
    have ih := RnT_set (rs := rs) (i := i) (by simpa using h) h1 h2
    unfold RnT at ih ⊢
    rw [List.set_cons_succ]
    cases hx : x.held with
    | true =>
      rw [List.filter_cons_of_pos (by simpa using hx), List.filter_cons_of_pos (by simpa using hx)]
      exact (List.Perm.cons _ ih).trans (List.Perm.swap _ _ _)
    | false => rw [List.filter_cons_of_neg (by rw [hx]; decide), List.filter_cons_of_neg (by rw [hx]; decide)]; exact ih
theorem set_back {rs : List RnE} {i : Nat} {r r' : RnE} (h : rs[i]? = some r) : (rs.set i r').set i r = rs := by
  rw [List.set_set]
  apply List.ext_getElem?
  intro j
  rw [List.getElem?_set]
  split
  · rename_i hj; subst hj
    have := (List.getElem?_eq_some_iff.1 h).1
    rw [if_pos this, h]
  · rfl
theorem set_get {rs : List RnE} {i : Nat} {r r' : RnE} (h : rs[i]? = some r) : (rs.set i r')[i]? = some r' := by
  have := (List.getElem?_eq_some_iff.1 h).1
  rw [List.getElem?_set, if_pos rfl, if_pos this]
theorem set_ne {rs : List RnE} {i j : Nat} {r' x : RnE} (h : (rs.set i r')[j]? = some x) (hne : j ≠ i) : rs[j]? = some x := by
  rwa [List.getElem?_set, if_neg fun e => hne e.symm] at h
theorem RnT_out {rs : List RnE} {i : Nat} {r r' : RnE} (h : rs[i]? = some r) (h1 : r.held = true) (h2 : r'.held = false) : (RnT rs).Perm (r.rt :: RnT (rs.set i r')) := by
  have := RnT_set (rs := rs.set i r') (i := i) (r := r') (r' := r) (set_get h) h2 h1
  rwa [set_back h] at this
theorem RnT_keep {rs : List RnE} {i : Nat} {r r' : RnE} (h : rs[i]? = some r) (h1 : r.held = r'.held) (h2 : r.rt = r'.rt) : RnT (rs.set i r') = RnT rs := by
  induction rs generalizing i with
  | nil => rfl
  | cons x rs ih =>
    cases i with
    | zero =>
      have e : x = r := by simpa using h
      subst e
      unfold RnT
      rw [List.set_cons_zero, List.filter_cons, List.filter_cons, ← h1]
      split
      · rw [List.map_cons, List.map_cons, h2]
      · rfl
    | succ i =>
      have := ih (i := i) (by simpa using h)
      unfold RnT at this ⊢
      rw [List.set_cons_succ, List.filter_cons, List.filter_cons]
      split
      · rw [List.map_cons, List.map_cons, this]
      · exact this
theorem RnT_len (rs : List RnE) : (RnT rs).length ≤ rs.length := by
  unfold RnT; rw [List.length_map]; exact List.length_filter_le _ _
theorem RnT_rep (n : Nat) : RnT (List.replicate n Rn0) = [] := by
  unfold RnT
  rw [List.filter_eq_nil_iff.2 fun x hx => by rw [(List.mem_replicate.1 hx).2]; decide]; rfl
end Go.V
/-! ## Bl -/
namespace Go.V
open Go Go.RowKit
theorem used_le {A : AM} {R : List Int} (h : ARf A R) (T : Int → Tr) (hT : ∀ r ∈ R, Is A (T r) r) : A.s.cap - A.s.free ≤ ((R.map fun r => (T r).n).foldr (· + ·) 0 : Nat) := by
  have h1 := AM.cnt_live h.s
  have hsub : ∀ j ∈ A.live, j ∈ R.flatMap fun r => ixs A (T r) r := fun j hj => by
    obtain ⟨h0, h2⟩ := (A.mem_live j).1 hj
    have h3 := (SM.ok_rng h.s h0 h2).1
    refine reach h (fun j => j ∈ R.flatMap fun r => ixs A (T r) r) (fun x hx hne => List.mem_flatMap.2 ⟨x, hx, ixs_root (hT x hx) hne⟩) (fun j _ _ hj c hc hne => ?_) j h3 h2
    obtain ⟨r, hr, hj⟩ := List.mem_flatMap.1 hj
    exact List.mem_flatMap.2 ⟨r, hr, ixs_kid (T r) r (hT r hr) j hj c hc hne⟩
  have h4 := nd_le A.live_nodup hsub
  have h5 : ∀ (l : List Int), (∀ r ∈ l, Is A (T r) r) → (l.flatMap fun r => ixs A (T r) r).length = (l.map fun r => (T r).n).foldr (· + ·) 0 := by
    intro l
    induction l with
    | nil => intro _; rfl
    | cons r l ih => intro hl; rw [List.flatMap_cons, List.length_append, ixs_len A (hl r (by simp)), ih (fun x hx => hl x (by simp [hx]))]; rfl
  rw [h5 R hT] at h4
  omega
end Go.V
/-! ## Y8 -/
namespace Go.Proofs.YtbeacjcmdijdmaaGreat
open Go Go.V Go.RowKit Go.Maps
structure RunOk (A : AM) (r : RnE) : Prop where
  st : r.st = true
  held : r.held = true
  is : Is A r.ts r.rt
  srt : Srt r.ts.ls
  n : r.ts.n ≤ 94
  al : r.acts.length ≤ 8
  ar : ∀ c ∈ r.acts, i64R c.1 ∧ i64R c.2.1 ∧ i64R c.2.2.1 ∧ i64R c.2.2.2
  pt : PT 8 r.xs r.q (runQ r.ts.ls r.acts)
  S : r.S = (runQ r.ts.ls r.acts).S
  sn : r.sn = (runQ r.ts.ls r.acts).sn
  snl : r.sn.length ≤ 3000
structure SerI (rs : List RnE) (A : AM) (hd : Int) (th : Tr) (nm : Nat) : Prop where
  ref : ARf A (hd :: RnT rs)
  is : Is A th hd
  ok : th.ok
  srt : Srt th.ls
  n : th.n ≤ nm
  cap : 3000 ≤ A.s.cap
  small : ∀ r ∈ RnT rs, ∃ t, Is A t r ∧ t.n ≤ 94
  run : ∀ r ∈ rs, r.live = true → RunOk A r
  zero : ∀ r ∈ rs, r.st = false → r.live = false ∧ r.held = false ∧ r.sn = [] ∧ r.sa = none ∧ r.sc = 0
  len : rs.length ≤ 8
theorem sum94 {T : Int → Tr} : ∀ L : List Int, (∀ r ∈ L, (T r).n ≤ 94) → ((L.map fun r => (T r).n).foldr (· + ·) 0) ≤ 94 * L.length
  | [], _ => Nat.le_refl _
  | r :: L, h => by
    have ih := sum94 L fun x hx => h x (List.mem_cons_of_mem _ hx)
    have h1 := h r (List.mem_cons_self ..)
    rw [List.map_cons, List.foldr_cons, List.length_cons]; omega
theorem SerI.room {rs : List RnE} {A : AM} {hd : Int} {th : Tr} {nm : Nat} (h : SerI rs A hd th nm) (hn : nm ≤ 94) : 2000 ≤ A.s.free := by
  classical
  have hx : ∀ r ∈ hd :: RnT rs, ∃ t, Is A t r ∧ t.n ≤ 94 := fun r hr => by
    rcases List.mem_cons.1 hr with rfl | hr
    · exact ⟨th, h.is, by have := h.n; omega⟩
    · exact h.small r hr
  let T : Int → Tr := fun r => if hx : ∃ t, Is A t r ∧ t.n ≤ 94 then Classical.choose hx else .nil
  have hT : ∀ r ∈ hd :: RnT rs, Is A (T r) r ∧ (T r).n ≤ 94 := fun r hr => by
    have e : T r = Classical.choose (hx r hr) := dif_pos (hx r hr)
    rw [e]; exact Classical.choose_spec (hx r hr)
  have h1 := used_le h.ref T fun r hr => (hT r hr).1
  have h2 := sum94 (T := T) (hd :: RnT rs) fun r hr => (hT r hr).2
  have h3 := RnT_len rs
  have h4 := h.len; have h5 := h.cap
  rw [List.length_cons] at h2
  omega
theorem RunOk.mv {A B : AM} {r : RnE} (h : RunOk A r) (hi : Is B r.ts r.rt) : RunOk B r := ⟨h.st, h.held, hi, h.srt, h.n, h.al, h.ar, h.pt, h.S, h.sn, h.snl⟩
theorem mem_RT {rs : List RnE} {r : RnE} (h : r ∈ rs) (hh : r.held = true) : r.rt ∈ RnT rs := List.mem_map.2 ⟨r, List.mem_filter.2 ⟨h, hh⟩, rfl⟩
section
variable {rs : List RnE} {A : AM} {hd : Int} {th : Tr} {nm i : Nat} {r r' : RnE}
theorem SerI.start (h : SerI rs A hd th nm) (hr : rs[i]? = some r) (h1 : r.st = false) (hf : ARf (A.ret hd) (hd :: hd :: RnT rs)) (hn : nm ≤ 94) (hrt : r'.rt = hd) (hok : RunOk (A.ret hd) r') : SerI (rs.set i r') (A.ret hd) hd th nm := by
  have hz := h.zero r (List.mem_of_getElem? hr) h1
  have hp := RnT_set hr hz.2.1 hok.held
  rw [hrt] at hp
  refine ⟨hf.perm (List.Perm.cons _ hp.symm), h.is.ret hd, h.ok, h.srt, h.n, by rw [(AM.ret_same A hd).1]; exact h.cap, fun x hx => ?_, fun x hx hl => ?_, fun x hx hs => ?_, by rw [List.length_set]; exact h.len⟩
  · rcases List.mem_cons.1 (hp.mem_iff.1 hx) with rfl | hx
    · exact ⟨th, h.is.ret _, by have := h.n; omega⟩
    · obtain ⟨t, h2, h3⟩ := h.small x hx
      exact ⟨t, h2.ret hd, h3⟩
  · rcases List.mem_or_eq_of_mem_set hx with hx | rfl
    · have := h.run x hx hl; exact this.mv (this.is.ret hd)
    · exact hok
  · rcases List.mem_or_eq_of_mem_set hx with hx | rfl
    · exact h.zero x hx hs
    · rw [hok.st] at hs; cases hs
theorem SerI.conf (h : SerI rs A hd th nm) (hr : rs[i]? = some r) (hl : r.live = true) : SerI (rs.set i (rnD r true)) A hd th nm := by
  have hk := h.run r (List.mem_of_getElem? hr) hl
  have hR : RnT (rs.set i (rnD r true)) = RnT rs := RnT_keep hr hk.held rfl
  refine ⟨by rw [hR]; exact h.ref, h.is, h.ok, h.srt, h.n, h.cap, by rw [hR]; exact h.small, fun x hx hx2 => ?_, fun x hx hs => ?_, by rw [List.length_set]; exact h.len⟩
  · rcases List.mem_or_eq_of_mem_set hx with hx | rfl
    · exact h.run x hx hx2
    · cases hx2
  · rcases List.mem_or_eq_of_mem_set hx with hx | rfl
    · exact h.zero x hx hs
    · have hs2 : r.st = false := hs
      rw [hk.st] at hs2; cases hs2
theorem SerI.done {B C : AM} {j : Int} {tn : Tr} {c m : Nat} (h : SerI rs A hd th nm) (hr : rs[i]? = some r) (hl : r.live = true) (hT : TOp A B (hd :: RnT (rs.set i (rnD r false))) j tn c) (hR : Rl B C (j :: RnT (rs.set i (rnD r false)))) (hok : tn.ok) (hs : Srt tn.ls) (hn : tn.n ≤ m) : SerI (rs.set i (rnD r false)) C j tn m := by
  have hk := h.run r (List.mem_of_getElem? hr) hl
  have hp := RnT_out (r' := rnD r false) hr hk.held rfl
  have kp : ∀ {x : Int} {t : Tr}, x ∈ RnT (rs.set i (rnD r false)) → Is A t x → Is C t x := fun {x t} hx hi => hR.kp.is x (List.mem_cons_of_mem _ hx) _ (hT.kp.is x (List.mem_cons_of_mem _ hx) _ hi)
  refine ⟨hR.ref, hR.kp.is j (List.mem_cons_self ..) _ hT.is, hok, hs, hn, ?_, fun x hx => ?_, fun x hx hx2 => ?_, fun x hx hs => ?_, by rw [List.length_set]; exact h.len⟩
  · have h1 := h.cap
    have h2 : A.s.cap = (A.s.used.length : Int) - 1 := rfl
    have h3 : C.s.cap = (C.s.used.length : Int) - 1 := rfl
    have h4 := hT.cap; have h5 := hR.cap
    omega
  · obtain ⟨t, h1, h2⟩ := h.small x (hp.mem_iff.2 (List.mem_cons_of_mem _ hx))
    exact ⟨t, kp hx h1, h2⟩
  · rcases List.mem_or_eq_of_mem_set hx with hx1 | rfl
    · have h1 := h.run x hx1 hx2
      exact h1.mv (kp (mem_RT hx h1.held) h1.is)
    · cases hx2
  · rcases List.mem_or_eq_of_mem_set hx with hx | rfl
    · exact h.zero x hx hs
    · have hs2 : r.st = false := hs
      rw [hk.st] at hs2; cases hs2
end
theorem agr_of {S : Kvs} {ts th : Tr} (hs : Srt ts.ls) (hh : Srt th.ls) (h : ¬ Conf S ts th) : Agr S ts.ls th.ls := fun k ⟨s, hsm, h1, h2⟩ =>
  (inR_all hs hh s.1 s.2).1 (Classical.not_not.1 h s hsm) k h1 h2
theorem dn_keep {rs : List RnE} {k p : Nat} (h : 1 ≤ k → k < p → ∀ r, rs[k - 1]? = some r → r.st = true) (hc : 1 ≤ k → p = k → ∀ r, rs[p - 1]? = some r → r.st = true) : 1 ≤ k → k < p + 1 → ∀ r, rs[k - 1]? = some r → r.st = true := fun h1 h2 r hr => by
  by_cases e : p = k
  · exact hc h1 e r (by rw [e]; exact hr)
  · exact h h1 (by omega) r hr
theorem dn_set {rs : List RnE} {k p : Nat} {r0 r' : RnE} (h : 1 ≤ k → k < p → ∀ r, rs[k - 1]? = some r → r.st = true) (hr0 : rs[p - 1]? = some r0) (hs : r'.st = true) : 1 ≤ k → k < p + 1 → ∀ r, (rs.set (p - 1) r')[k - 1]? = some r → r.st = true := fun h1 h2 r hr => by
  by_cases e : k - 1 = p - 1
  · rw [e, set_get hr0] at hr
    rw [← Option.some.inj hr]; exact hs
  · exact h h1 (by omega) r (set_ne hr e)
theorem lv_set {rs : List RnE} {k i : Nat} {r0 r' : RnE} (h : ∀ (j : Nat) (r : RnE), rs[j]? = some r → k ≤ j + 1 → r.st = true → r.live = true) (hr0 : rs[i]? = some r0) (hs : r'.live = true) : ∀ (j : Nat) (r : RnE), (rs.set i r')[j]? = some r → k ≤ j + 1 → r.st = true → r.live = true := fun j r hr hk hst => by
  by_cases e : j = i
  · subst e; rw [set_get hr0] at hr
    rw [← Option.some.inj hr]; exact hs
  · exact h j r (set_ne hr e) hk hst
theorem lv_out {rs : List RnE} {k : Nat} {r' : RnE} (h1 : 1 ≤ k) (h : ∀ (j : Nat) (r : RnE), rs[j]? = some r → k ≤ j + 1 → r.st = true → r.live = true) : ∀ (j : Nat) (r : RnE), (rs.set (k - 1) r')[j]? = some r → k + 1 ≤ j + 1 → r.st = true → r.live = true := fun j r hr hk hst => h j r (set_ne hr (fun (e : j = k - 1) => by omega)) (by omega) hst
theorem SerI.mono {rs : List RnE} {A : AM} {hd : Int} {th : Tr} {n m : Nat} (h : SerI rs A hd th n) (hm : n ≤ m) : SerI rs A hd th m := ⟨h.ref, h.is, h.ok, h.srt, Nat.le_trans h.n hm, h.cap, h.small, h.run, h.zero, h.len⟩
theorem rdA_len (l : Kvs) (s : TS) (a : A4) : (rdA l s a).length ≤ l.length + s.M.length + 2 := by
  unfold rdA
  split
  · have h1 := List.length_filter_le (inK a.2.1 a.2.2.2) (lwA s.M l)
    have h2 := lwA_len s.M l
    unfold btw; omega
  · split
    · exact Nat.zero_le _
    · split
      · exact Nat.zero_le _
      · split
        · have := seenE_len a.2.2.2 (lget a.2.2.2 (lwA s.M l)); omega
        · have := seenE_len a.2.1 (lget a.2.1 (lwA s.M l)); omega
theorem ch4_tk (l : List A4) (n : Nat) : (ch4 l).take n = ch4 (l.take n) := by unfold ch4; rw [List.map_take]
theorem enRn_at0 {l : List RnE} {k : Nat} {r : RnE} (h : l[k]? = some r) (h1 : r.sn = []) (h2 : r.sa = none) (h3 : r.sc = 0) : (enRn l)[k]? = some [.pointer (rnP r.st r.b), .slice r.la (ch4 r.acts).length r.lc, .slice none 0 0] := by
  rw [enRn_at h, h1, h2, h3]; rfl
theorem Ser0 {A : AM} {hd : Int} {th : Tr} {n nm : Nat} (h1 : ARf A [hd]) (h2 : Is A th hd) (h3 : th.ok) (h4 : Srt th.ls) (h5 : th.n ≤ nm) (h6 : 3000 ≤ A.s.cap) (hn : n ≤ 8) : SerI (List.replicate n Rn0) A hd th nm :=
  ⟨by rw [RnT_rep]; exact h1, h2, h3, h4, h5, h6, fun r hr => (by rw [RnT_rep] at hr; cases hr), fun r hr hl => (by rw [(List.mem_replicate.1 hr).2] at hl; cases hl), fun r hr _ => (by rw [(List.mem_replicate.1 hr).2]; exact ⟨rfl, rfl, rfl, rfl, rfl⟩), by rw [List.length_replicate]; exact hn⟩
theorem PT.mono {n m : Nat} {xs : List WE} {q : Nat} {s : TS} (h : PT n xs q s) (hm : n ≤ m) : PT m xs q s := ⟨h.w, h.rS, Nat.le_trans h.sl hm, Nat.le_trans h.ml hm, h.z⟩
theorem com_fine {A A2 : AM} {R0 : List Int} {ts th : Tr} {M : Wrs} {S : Kvs} {hd i e : Int} {en : Bool} (hC : ComA A R0 ts th M S hd A2 i e en) (he : ¬ e = 10) (hf : ((th.n : Int) + M.length + 4 * ((Tr.mxH (th.n + M.length) : Int) + 2)) ≤ A.s.free) : e = 0 ∧ ¬ Conf S ts th ∧ TOp A A2 R0 i (wAll (wWork th M) th) (wSum (wWork th M) th) := by
  rcases hC with ⟨_, h1, _⟩ | ⟨h0, ⟨h1, _, _, h2, _⟩ | ⟨_, _, _, _, _, h1⟩⟩
  · exact absurd h1 he
  · exact ⟨h1, h0, h2⟩
  · omega
theorem com_stay {A A2 : AM} {R0 : List Int} {ts th : Tr} {M : Wrs} {S : Kvs} {hd i e : Int} {en : Bool} (hC : ComA A R0 ts th M S hd A2 i e en) (he : e = 10) : A = A2 := by
  rcases hC with ⟨_, _, _, _, h1⟩ | ⟨_, ⟨h1, _⟩ | ⟨h1, _⟩⟩
  · exact h1.symm
  · rw [he] at h1; cases h1
  · rw [he] at h1; cases h1
set_option maxHeartbeats 4000000 in
set_option maxRecDepth 8192 in
theorem law_tser {g w : World} {L : List HP} (l : Kvs) (u : Option Addr) (d : Nat) (q : Int) (js : List Jb) (ja : Option Addr) (jc : Nat) (hq : 0 ≤ q ∧ q ≤ 18446744073709551615) (hjs : ∀ z ∈ js, JbOk z) (hjl : js.length ≤ maxLen) (hS : St g (Sh 121 2 (en2 l) u d :: Sh 83 2 (enJb js) ja jc :: Shs jbF js :: L) w) :
    Sp Tryz.prog 6 [.slice u (List.length (en2 l)) d, .int .u64 q, .slice ja (List.length (enJb js)) jc] w (fun v w' => v = .bool true ∧ St g (L) w') := by
  refine Sp.enter Tryz.func6 rfl (by kernel_rfl) (by kernel_rfl) ?_
  have _ := hq
  refine WC.seq <| WC.region <| WL.r 1 rfl <| WL.nil <| WC.seq <| WC.region ?_
  have hel := enJb_len js; have hmx0 : js.length ≤ 9223372036854775807 := hjl
  refine WL.r 1 rfl <| WL.call rfl rfl (kt_list (most := 30) (hm := (by omega)) (hS := hS)) rfl ?_
  clear hS; rintro _ w ⟨a1, c1, rfl, hS⟩
  replace hS := hS.n4 L (a0 := Own 121 2 (en2 (mkL l 30)) a1 c1) rfl
  refine WL.r 1 rfl <| WL.nil <| WC.seq <| WC.region ?_
  have hml := mkL_srt l 30; have hmn := en2_len (mkL l 30)
  replace hS := (hS.at_ 0 rfl).share
  replace hS := hS.n4 L (a0 := Sh 121 2 (en2 (mkL l 30)) a1 c1) rfl
  refine WL.reb 7 (.slice a1 (en2 (mkL l 30)).length c1) rfl <| WL.r 2 rfl <| WL.call rfl rfl (kt_grow (l := mkL l 30) (q := q) (sp := 3000) (hl := (by omega)) (hs := (by omega)) (hq := (by omega)) (hS := hS)) rfl ?_
  clear hS; rintro _ w ⟨a2, A1, i1, t1, rfl, hS, f1, f2, f3, f4, f5⟩
  replace hS := hS.n5 L (a0 := Arn a2 A1) rfl
  refine WL.r 7 rfl <| WL.nil ?_
  as_aux_lemma =>
  refine WC.seq <| WC.seq <| WC.region <| WL.call rfl rfl (awake26_spec   (hS := hS)) rfl ?_
  clear hS; rintro _ w ⟨rfl, hS⟩
  replace hS := hS.n5 L rfl
  refine WL.r 2 rfl <| WL.ung rfl rfl rfl <| WL.r 1 rfl <| WL.ung rfl rfl rfl <| WL.r 3 rfl <| WL.ung rfl rfl rfl <| WL.r 1 rfl <| WL.ung rfl rfl rfl <| WL.r 1 rfl <| WL.ung rfl rfl rfl <| WL.r 2 rfl <| WL.nil ?_
  refine WC.ifP rfl (fun hbig => ?_) (fun hbig => ?_)
  · refine WC.seq <| WC.region <| WL.call rfl rfl (awake26_spec   (hS := hS)) rfl ?_
    clear hS; rintro _ w ⟨rfl, hS⟩
    replace hS := hS.n5 L rfl
    refine WL.r 1 rfl <| WL.ung rfl rfl rfl <| WL.r 3 rfl <| WL.nil ?_
    as_aux_lemma =>
    refine WC.ret ?_
    refine ⟨[.bool true], rfl, ?_⟩
    replace hS := (hS.sel 5 [] rfl)
    exact ⟨rfl, hS⟩
  · refine WC.skip <| WC.seq <| WC.region ?_
    have htn : t1.n ≤ 30 := (by rw [← Tr.ls_len, f4]; exact hml.2); have hts : Srt t1.ls := (by rw [f4]; exact hml.1); have hlt := Tr.ls_len t1; have hjn : js.length ≤ 8 := (by omega); have hcl := AM.cnt_live (A := A1) f1.s
    refine WL.reb 7 (.slice a1 (en2 t1.ls).length c1) (congrArg (fun z : Kvs => Value.slice a1 (en2 z).length c1) f4.symm) <| WL.r 2 rfl <| WL.make rfl rfl (v := (List.length (enJb js) : Int)) (v' := (List.length (enJb js) : Int)) (js.length) (js.length) el_77 hS rfl (by omega) rfl (by omega) (by omega) (Rm.of (by omega) (by decide)) (fun b1 w hS => ?_)
    replace hS := hS.n6 L (a0 := Own 81 3 (List.replicate (List.length js) [.pointer none, .slice none 0 0, .slice none 0 0]) (some ⟨b1, 0, none⟩) (List.length js)) rfl
    refine WL.r 1 rfl <| WL.nil ?_
    as_aux_lemma =>
    refine WC.seq <| WC.seq <| WC.region <| WL.r 1 rfl <| WL.nil <| WC.block ?_
    rw [enRn_rep, ← f4] at hS; replace hS := hS.fam0 (f := rnF a2) (xs := List.replicate js.length Rn0) fam_dead
    replace hS := hS.n7 L (a0 := Fam (rnF a2) (List.replicate (List.length js) Rn0)) (a1 := Own 81 3 (enRn (List.replicate (List.length js) Rn0)) (some ⟨b1, 0, none⟩) (List.length js)) (a3 := Sh 121 2 (en2 t1.ls) a1 c1) rfl
    refine WC.loop [2, 7, 8, 9, 11, 12] (fun kM vs w => ∃ (k : Nat) (A : AM) (hd : Int) (th : Tr) (nl : Kvs) (na : Option Addr) (nc : Nat) (rs : List RnE), vs = [.slice ja (List.length (enJb js)) jc, .slice na (List.length (en2 nl)) nc, .pointer (some ⟨a2, 0, none⟩), .int .u32 hd, .slice (some ⟨b1, 0, none⟩) (List.length js) (List.length js), .int .i64 (k : Int)] ∧ St g (Fam (rnF a2) rs :: Own 81 3 (enRn rs) (some ⟨b1, 0, none⟩) (List.length js) :: Arn a2 A :: Sh 121 2 (en2 nl) na nc :: Sh 121 2 (en2 l) u d :: Sh 83 2 (enJb js) ja jc :: Shs jbF js :: L) w ∧ (k ≤ js.length + 1) ∧ (nl = th.ls) ∧ (rs.length = js.length) ∧ (SerI rs A hd th (30 + 8 * k)) ∧ (∀ (j : Nat) (r : RnE), rs[j]? = some r → k ≤ j + 1 → r.st = true → r.live = true) ∧ (js.length + 1 - k) = kM) ((List.length js) + 1 - 0) ⟨0, A1, i1, t1, t1.ls, a1, c1, List.replicate js.length Rn0, rfl, hS, (Nat.zero_le _), (rfl), (List.length_replicate), (Ser0 f1 f2 f3 hts (by omega) (by omega) hjn), (fun j r hr _ hs => by rw [(List.mem_replicate.1 (List.mem_of_getElem? hr)).2] at hs; cases hs), rfl⟩ ?_
    clear hS; rintro _ _ w j ⟨k, A, hd, th, nl, na, nc, rs, rfl, hS, hk, hnl, hrl, hI, hlv, rfl⟩
    refine WC.seq <| WC.seq <| WC.region <| WL.r 4 rfl <| WL.nil <| WC.ifP rfl (fun cd1 => ?_) (fun cd1 => ?_)
    · refine WC.skip <| WC.seq <| WC.block <| WC.seq <| WC.seq <| WC.region <| WL.r 2 rfl <| WL.nw 59 rfl (w64 (by omega)) ?_
      refine WL.r 1 rfl <| WL.nil ?_
      as_aux_lemma =>
      refine WC.block <| WC.loop [2, 7, 8, 9, 11, 12, 13, 52, 53, 54, 55, 58, 59] (fun kM vs w => ∃ (p : Nat) (AA : AM) (rs2 : List RnE), vs = [.slice ja (List.length (enJb js)) jc, .slice na (List.length (en2 nl)) nc, .pointer (some ⟨a2, 0, none⟩), .int .u32 hd, .slice (some ⟨b1, 0, none⟩) (List.length js) (List.length js), .int .i64 (k : Int), .int .i64 ((p : Int) - 1), .int .i64 (k : Int), .slice ja (List.length (enJb js)) jc, .int .i64 (List.length (enJb js) : Int), .bool (decide ((k : Int) ≤ (List.length (enJb js) : Int))), .int .i64 (k : Int), .int .i64 ((k : Int) - 1)] ∧ St g (Fam (rnF a2) rs2 :: Own 81 3 (enRn rs2) (some ⟨b1, 0, none⟩) (List.length js) :: Arn a2 AA :: Sh 121 2 (en2 nl) na nc :: Sh 121 2 (en2 l) u d :: Sh 83 2 (enJb js) ja jc :: Shs jbF js :: L) w ∧ (k ≤ p ∧ p ≤ js.length + 1) ∧ (rs2.length = js.length) ∧ (SerI rs2 AA hd th (30 + 8 * k)) ∧ (∀ (j : Nat) (r : RnE), rs2[j]? = some r → k ≤ j + 1 → r.st = true → r.live = true) ∧ (1 ≤ k → k < p → ∀ r, rs2[k - 1]? = some r → r.st = true) ∧ (js.length + 1 - p) = kM) ((List.length js) + 1 - k) ⟨k, A, rs, rfl, hS, (⟨Nat.le_refl _, hk⟩), (hrl), (hI), (hlv), (fun _ h => absurd h (by omega)), rfl⟩ ?_
      clear hS; rintro _ _ w j ⟨p, AA, rs2, rfl, hS, hp, hrl2, hI2, hlv2, hdn, rfl⟩
      refine WC.seq <| WC.seq <| WC.region <| WL.r 4 rfl <| WL.nil <| WC.ifP rfl (fun cd2 => ?_) (fun cd2 => ?_)
      · refine WC.skip <| WC.seq <| WC.block <| WC.seq <| WC.seq <| WC.cut [2, 7, 8, 9, 11, 12, 13, 52, 53, 54, 55, 58, 59, 60, 61, 62, 63, 90] (fun vs w => ∃ (c : Bool), vs = [.slice ja (List.length (enJb js)) jc, .slice na (List.length (en2 nl)) nc, .pointer (some ⟨a2, 0, none⟩), .int .u32 hd, .slice (some ⟨b1, 0, none⟩) (List.length js) (List.length js), .int .i64 (k : Int), .int .i64 ((p : Int) - 1), .int .i64 (k : Int), .slice ja (List.length (enJb js)) jc, .int .i64 (List.length (enJb js) : Int), .bool (decide ((k : Int) ≤ (List.length (enJb js) : Int))), .int .i64 (k : Int), .int .i64 ((k : Int) - 1), .int .i64 ((p : Int) - 1), .slice ja (List.length (enJb js)) jc, .int .i64 (List.length (enJb js) : Int), .bool (decide (((p : Int) - 1) < (List.length (enJb js) : Int))), .bool c] ∧ St g (Fam (rnF a2) rs2 :: Own 81 3 (enRn rs2) (some ⟨b1, 0, none⟩) (List.length js) :: Arn a2 AA :: Sh 121 2 (en2 nl) na nc :: Sh 121 2 (en2 l) u d :: Sh 83 2 (enJb js) ja jc :: Shs jbF js :: L) w ∧ (c = false → 1 ≤ p ∧ ∀ r, rs2[p - 1]? = some r → r.st = false) ∧ (c = true → 1 ≤ k → p = k → ∀ r, rs2[p - 1]? = some r → r.st = true)) ?_ ?_
        · refine WC.region <| WL.r 3 rfl ?_
          by_cases cg1 : ((p : Int) - 1) < 0
          · refine WL.reb 68 (.bool true) (congrArg Value.bool (decide_eq_true cg1)) <| WL.skp rfl rfl rfl rfl <| WL.skp rfl rfl rfl rfl <| WL.skp rfl rfl rfl rfl <| WL.skp rfl rfl rfl rfl <| WL.skp rfl rfl rfl rfl <| WL.skp rfl rfl rfl rfl <| WL.r 2 rfl <| WL.skp rfl rfl rfl rfl <| WL.skp rfl rfl rfl rfl <| WL.skp rfl rfl rfl rfl <| WL.skp rfl rfl rfl rfl ?_
            refine WL.skU rfl rfl rfl <| WL.skU rfl rfl rfl <| WL.skU rfl rfl rfl <| WL.skU rfl rfl rfl <| WL.skU rfl rfl rfl <| WL.skU rfl rfl rfl <| WL.skU rfl rfl rfl <| WL.skU rfl rfl rfl <| WL.skp rfl rfl rfl rfl <| WL.r 1 rfl <| WL.nil ?_
            exact ⟨true, rfl, hS, (fun h => by cases h), (fun _ h1 h2 => by omega)⟩
          · refine WL.reb 68 (.bool false) (congrArg Value.bool (decide_eq_false cg1)) <| WL.ung rfl rfl rfl <| WL.r 1 rfl <| WL.ung rfl rfl rfl <| WL.r 1 rfl <| WL.ung rfl rfl rfl ?_
            obtain ⟨r, hr⟩ : ∃ r, rs2[p - 1]? = some r := ⟨_, List.getElem?_eq_getElem (by omega)⟩
            refine WL.ix rfl rfl (i := (p : Int) - 1) (p - 1) el_77 rfl rfl (by omega) (by omega) (hS.rdO 1 rfl (enRn_at hr)).1 ?_
            refine WL.ung rfl rfl rfl <| WL.r 1 rfl <| WL.ung rfl rfl rfl <| WL.run 1 [.pointer (rnP r.st r.b)] rfl (by exact (hS.rdO 1 rfl (enRn_at hr)).2 0 _ rfl) ?_
            refine WL.ung rfl rfl rfl ?_
            by_cases hp1 : r.st = true
            · refine WL.reb 73 (.pointer (some ⟨r.b, 0, none⟩)) (congrArg Value.pointer (rnP_t hp1)) <| WL.r 3 rfl <| WL.skp rfl rfl rfl rfl <| WL.skp rfl rfl rfl rfl <| WL.skp rfl rfl rfl rfl <| WL.skp rfl rfl rfl rfl <| WL.skU rfl rfl rfl <| WL.skU rfl rfl rfl <| WL.skU rfl rfl rfl <| WL.skU rfl rfl rfl <| WL.skU rfl rfl rfl <| WL.skU rfl rfl rfl ?_
              refine WL.skU rfl rfl rfl <| WL.skU rfl rfl rfl <| WL.skp rfl rfl rfl rfl <| WL.r 1 rfl <| WL.nil ?_
              exact ⟨true, rfl, hS, (fun h => by cases h), (fun _ _ _ r' hr' => by rw [hr] at hr'; rw [← Option.some.inj hr']; exact hp1)⟩
            · refine WL.reb 73 (.pointer none) (congrArg Value.pointer (rnP_f (Bool.eq_false_iff.2 hp1))) <| WL.r 3 rfl <| WL.ung rfl rfl rfl <| WL.r 1 rfl <| WL.ung rfl rfl rfl <| WL.r 1 rfl <| WL.ung rfl rfl rfl <| WL.r 1 rfl <| WL.ung rfl rfl rfl <| WL.r 1 rfl ?_
              by_cases cg2 : (k : Int) ≤ ((p : Int) - 1)
              · refine WL.reb 80 (.bool true) (congrArg Value.bool (decide_eq_true cg2)) <| WL.ung rfl rfl rfl <| WL.r 1 rfl <| WL.ung rfl rfl rfl <| WL.r 1 rfl <| WL.ung rfl rfl rfl ?_
                obtain ⟨z, hz⟩ : ∃ z, js[p - 1]? = some z := ⟨_, List.getElem?_eq_getElem (by omega)⟩; have hzk := hjs z (List.mem_of_getElem? hz)
                refine WL.ix rfl rfl (i := (p : Int) - 1) (p - 1) el_73 rfl rfl (by omega) (by omega) (hS.rdS 5 rfl (enJb_at hz)).1 ?_
                refine WL.ung rfl rfl rfl <| WL.r 1 rfl <| WL.ung rfl rfl rfl <| WL.run 1 [.int .i64 z.st] rfl (by exact (hS.rdS 5 rfl (enJb_at hz)).2 0 _ rfl) ?_
                refine WL.ung rfl rfl rfl <| WL.call rfl rfl (md_spec (k := z.st) (n := 9) (hk := hzk.st) (hn := (by decide)) (hS := hS)) rfl ?_
                clear hS; rintro _ w ⟨rfl, hS⟩
                replace hS := hS.n7 L rfl
                refine WL.ung rfl rfl rfl <| WL.r 1 rfl <| WL.ung rfl rfl rfl <| WL.r 1 rfl <| WL.ung rfl rfl rfl <| WL.r 2 rfl <| WL.nil ?_
                exact ⟨decide ((k : Int) < (z.st % 9)), rfl, hS, (fun _ => ⟨by omega, fun r' hr' => by rw [hr] at hr'; rw [← Option.some.inj hr']; exact Bool.eq_false_iff.2 hp1⟩), (fun _ _ h2 => by omega)⟩
              · refine WL.reb 80 (.bool false) (congrArg Value.bool (decide_eq_false cg2)) <| WL.skp rfl rfl rfl rfl <| WL.skp rfl rfl rfl rfl <| WL.skp rfl rfl rfl rfl <| WL.skp rfl rfl rfl rfl <| WL.skp rfl rfl rfl rfl <| WL.skp rfl rfl rfl rfl <| WL.skp rfl rfl rfl rfl <| WL.skp rfl rfl rfl rfl <| WL.ung rfl rfl rfl <| WL.r 2 rfl <| WL.nil ?_
                exact ⟨false, rfl, hS, (fun _ => ⟨by omega, fun r' hr' => by rw [hr] at hr'; rw [← Option.some.inj hr']; exact Bool.eq_false_iff.2 hp1⟩), (fun h => by cases h)⟩
        clear hS; rintro _ w j ⟨c, rfl, hS, hcf, hct⟩
        refine WC.if_ rfl (fun hcc => ?_) (fun hcc => ?_)
        · refine WC.exit <| WC.region <| WL.r 2 rfl <| WL.reb 65 (.int .i64 (((p + 1 : Nat) : Int) - 1)) (congrArg (Value.int .i64) (by rw [w64 (by omega)]; omega)) ?_
          refine WL.r 1 rfl <| WL.nil ?_
          exact ⟨_, by omega, p + 1, AA, rs2, rfl, hS, (by omega), (hrl2), (hI2), (hlv2), (dn_keep hdn (hct hcc)), rfl⟩
        · refine WC.skip <| WC.seq <| WC.region ?_
          obtain ⟨hp9, hst9⟩ := hcf hcc; obtain ⟨r, hr⟩ : ∃ r, rs2[p - 1]? = some r := ⟨_, List.getElem?_eq_getElem (by omega)⟩; have hst := hst9 r hr; obtain ⟨hz1, hz2, hz3, hz4, hz5⟩ := hI2.zero r (List.mem_of_getElem? hr) hst; obtain ⟨z, hz⟩ : ∃ z, js[p - 1]? = some z := ⟨_, List.getElem?_eq_getElem (by omega)⟩; have hzk := hjs z (List.mem_of_getElem? hz); have hRl := RnT_len rs2; have hI9 := hI2.len; have hin := hI2.n; have hils := Tr.ls_len th; have hzl : z.acts.length ≤ 9223372036854775807 := hzk.len
          refine WL.r 2 rfl <| WL.call rfl rfl (tx_begin (R := hd :: RnT rs2) (i := hd) (hA := hI2.ref) (hi := hI2.is.ref) (hz := (by simp only [List.length_cons]; omega)) (hS := (hS.sel 3 [2, 0, 0] rfl))) rfl ?_
          clear hS; rintro _ w ⟨x1, rfl, hS, f6⟩
          replace hS := hS.n8 L (a0 := Tx x1 a2 hd [] 0 []) (a1 := Arn a2 (AA.ret hd)) rfl
          refine WL.r 5 rfl <| WL.nil ?_
          as_aux_lemma =>
          refine WC.seq <| WC.seq <| WC.region <| WL.r 2 rfl <| WL.rG 4 rfl (fun j => ?_)
          refine WL.nil <| WC.ifF rfl (by rfl) ?_
          refine WC.skip <| WC.seq <| WC.region <| WL.r 3 rfl <| WL.ix rfl rfl (i := (p : Int) - 1) (p - 1) el_77 rfl rfl (by omega) (by omega) (hS.rdO 3 rfl (enRn_at0 hr hz3 hz4 hz5)).1 ?_
          refine WL.r 1 rfl <| WL.stE rfl rfl rfl 3 (p - 1) 0 [.pointer (rnP r.st r.b), .slice r.la (List.length (ch4 r.acts)) r.lc, .slice none 0 0] (enRn (rs2.set (p - 1) (rnB r x1))) hS rfl (enRn_at0 hr hz3 hz4 hz5) rfl rfl rfl rfl rfl (en_put0 rfl) (fun w hS => ?_)
          replace hS := hS.n8 L (a3 := Own 81 3 (enRn (rs2.set (p - 1) (rnB r x1))) (some ⟨b1, 0, none⟩) (List.length js)) rfl
          refine WL.nil <| WC.seq <| WC.plan [([0, 1, 2, 3, 7, 8, 4, 9, 5, 10, 6, 11, 12, 13, 14, 15, 16], some (17, []))] (by kernel_rfl) (by kernel_rfl) ?_
          obtain ⟨ac, hac⟩ : ∃ ac, z.acts.take (min z.acts.length 8) = ac := ⟨_, rfl⟩; have hacl : ac.length = min z.acts.length 8 := (by rw [← hac, List.length_take]; omega); have har : ∀ c ∈ ac, i64R c.1 ∧ i64R c.2.1 ∧ i64R c.2.2.1 ∧ i64R c.2.2.2 := (fun c hc => hzk.acts c (by rw [← hac] at hc; exact List.mem_of_mem_take hc)); have hze := ch4_len z.acts; have hce := ch4_len ac
          replace hS : St g (Sh 89 4 (ch4 z.acts) z.a z.c :: Tx x1 a2 hd [] 0 [] :: Arn a2 (AA.ret hd) :: Fam (rnF a2) rs2 :: Own 81 3 (enRn (rs2.set (p - 1) (rnB r x1))) (some ⟨b1, 0, none⟩) (List.length js) :: Sh 121 2 (en2 nl) na nc :: Sh 121 2 (en2 l) u d :: Sh 83 2 (enJb js) ja jc :: Shs jbF js :: L) w := hS.shsGet 7 rfl (List.mem_of_getElem? hz)
          refine WQ.r 6 rfl <| WQ.ix rfl rfl (i := (p : Int) - 1) (p - 1) el_73 rfl rfl (by omega) (by omega) (hS.rdS 7 rfl (enJb_at hz)).1 ?_
          refine WQ.ix rfl rfl (i := (p : Int) - 1) (p - 1) el_73 rfl rfl (by omega) (by omega) (hS.rdS 7 rfl (enJb_at hz)).1 ?_
          refine WQ.run 6 [.slice z.a (List.length (ch4 z.acts)) z.c, .slice z.a (List.length (ch4 z.acts)) z.c] rfl (by exact ⟨(hS.rdS 7 rfl (enJb_at hz)).2 1 _ rfl, (hS.rdS 7 rfl (enJb_at hz)).2 1 _ rfl⟩) ?_
          refine WQ.slHi rfl rfl (v := min (List.length (ch4 z.acts) : Int) 8) 0 (min z.acts.length 8) (ch4 ac) el_79 hS rfl rfl rfl (by omega) (by omega) (by rw [← hac, ch4_tk]) (fun a3 qa3 hS => ?_)
          replace hS := hS.n10 L (a0 := Sh 89 4 (ch4 ac) a3 z.c) (a1 := Sh 89 4 (ch4 z.acts) z.a z.c) rfl
          refine WQ.ix rfl rfl (i := (p : Int) - 1) (p - 1) el_77 rfl rfl (by omega) (by omega) (hS.rdO 5 rfl (enRn_at (set_get hr))).1 ?_
          refine WQ.r 1 rfl <| WQ.nil ?_
          intro m1
          replace hS := hS.drewN m1; generalize hwm1 : World.drewN _ _ = w at *; clear hwm1
          refine WL.stE rfl rfl rfl 5 (p - 1) 1 [.pointer (some ⟨x1, 0, none⟩), .slice r.la (List.length (ch4 r.acts)) r.lc, .slice none 0 0] (enRn (rs2.set (p - 1) (rnA (rnB r x1) ac a3 z.c))) hS rfl (enRn_at (set_get hr)) rfl rfl rfl rfl rfl (en_put rfl) (fun w hS => ?_)
          replace hS := hS.n10 L (a5 := Own 81 3 (enRn (rs2.set (p - 1) (rnA (rnB r x1) ac a3 z.c))) (some ⟨b1, 0, none⟩) (List.length js)) rfl
          refine WL.nil ?_
          refine ⟨by exact trivial, ?_⟩
          intro m2
          replace hS := hS.drewN m2; generalize hwm2 : World.drewN _ _ = w at *; clear hwm2
          as_aux_lemma =>
          refine WC.seq <| WC.region <| WL.r 1 rfl <| WL.nil <| WC.block ?_
          replace hS := hS.nil_ 121 2
          refine WC.loop [2, 7, 8, 9, 11, 12, 13, 14, 15, 16, 52, 53, 54, 55, 58, 59, 60, 61, 62, 63, 90, 91, 92, 93, 94, 95, 96, 97, 98, 99, 102, 103, 104, 105, 106, 107, 108, 109, 110, 111, 112, 113, 114, 115, 116, 117, 118, 119, 120, 121, 122, 123, 124] (fun kM vs w => ∃ (j : Nat) (s : TS) (sn : Kvs) (sa : Option Addr) (sc : Nat) (xs : List WE) (qq : Nat), vs = [.slice ja (List.length (enJb js)) jc, .slice na (List.length (en2 nl)) nc, .pointer (some ⟨a2, 0, none⟩), .int .u32 hd, .slice (some ⟨b1, 0, none⟩) (List.length js) (List.length js), .int .i64 (k : Int), .int .i64 ((p : Int) - 1), .pointer (some ⟨x1, 0, none⟩), .int .i64 0, .int .i64 (j : Int), .int .i64 (k : Int), .slice ja (List.length (enJb js)) jc, .int .i64 (List.length (enJb js) : Int), .bool (decide ((k : Int) ≤ (List.length (enJb js) : Int))), .int .i64 (k : Int), .int .i64 ((k : Int) - 1), .int .i64 ((p : Int) - 1), .slice ja (List.length (enJb js)) jc, .int .i64 (List.length (enJb js) : Int), .bool (decide (((p : Int) - 1) < (List.length (enJb js) : Int))), .bool c, .tuple #[.pointer (some ⟨x1, 0, none⟩), .int .i64 0], .pointer (some ⟨a2, 0, none⟩), .int .u32 hd, .tuple #[.pointer (some ⟨x1, 0, none⟩), .int .i64 0], .pointer (some ⟨x1, 0, none⟩), .int .i64 0, .int .i64 0, .bool (decide (0 ≠ 0)), .bool (decide (0 ≠ 0)), .bool (bif (decide (0 ≠ 0)) then true else false), .slice (some ⟨b1, 0, none⟩) (List.length js) (List.length js), .int .i64 ((p : Int) - 1), .pointer (some ⟨x1, 0, none⟩), .pointer (some ⟨bo (some ⟨b1, 0, none⟩), (oo (some ⟨b1, 0, none⟩)) + ((p - 1) * 3), none⟩), .pointer (some ⟨bo (some ⟨b1, 0, none⟩), (oo (some ⟨b1, 0, none⟩)) + ((p - 1) * 3), none⟩), .slice (some ⟨b1, 0, none⟩) (List.length js) (List.length js), .int .i64 ((p : Int) - 1), .slice ja (List.length (enJb js)) jc, .int .i64 ((p : Int) - 1), .pointer (some ⟨bo ja, (oo ja) + ((p - 1) * 2), none⟩), .pointer (some ⟨bo ja, ((oo ja) + ((p - 1) * 2)) + 1, none⟩), .slice z.a (List.length (ch4 z.acts)) z.c, .slice ja (List.length (enJb js)) jc, .int .i64 ((p : Int) - 1), .pointer (some ⟨bo ja, (oo ja) + ((p - 1) * 2), none⟩), .pointer (some ⟨bo ja, ((oo ja) + ((p - 1) * 2)) + 1, none⟩), .slice z.a (List.length (ch4 z.acts)) z.c, .int .i64 (List.length (ch4 z.acts) : Int), .int .i64 (min (List.length (ch4 z.acts) : Int) 8), .slice a3 (List.length (ch4 ac)) z.c, .pointer (some ⟨bo (some ⟨b1, 0, none⟩), (oo (some ⟨b1, 0, none⟩)) + ((p - 1) * 3), none⟩), .pointer (some ⟨bo (some ⟨b1, 0, none⟩), ((oo (some ⟨b1, 0, none⟩)) + ((p - 1) * 3)) + 1, none⟩)] ∧ St g (Own 121 2 (en2 sn) sa sc :: Sh 89 4 (ch4 ac) a3 z.c :: Sh 89 4 (ch4 z.acts) z.a z.c :: Tx x1 a2 hd xs qq s.S :: Arn a2 (AA.ret hd) :: Fam (rnF a2) rs2 :: Own 81 3 (enRn (rs2.set (p - 1) (rnS (rnA (rnB r x1) ac a3 z.c) sn sa sc))) (some ⟨b1, 0, none⟩) (List.length js) :: Sh 121 2 (en2 nl) na nc :: Sh 121 2 (en2 l) u d :: Sh 83 2 (enJb js) ja jc :: Shs jbF js :: L) w ∧ (j ≤ ac.length) ∧ (s = runQ th.ls (ac.take j)) ∧ (sn = s.sn) ∧ (PT j xs qq s) ∧ (sn.length ≤ 300 * j) ∧ (ac.length - j) = kM) ((List.length ac) - 0) ⟨0, TS0, [], none, 0, [], 0, rfl, hS, (Nat.zero_le _), (rfl), (rfl), (PT.nil), (Nat.zero_le _), rfl⟩ ?_
          clear hS; rintro _ _ w j ⟨j, s, sn, sa, sc, xs, qq, rfl, hS, hj, hs, hsn, hPT, hsl, rfl⟩
          refine WC.seq <| WC.seq <| WC.region <| WL.r 3 rfl <| WL.ix rfl rfl (i := (p : Int) - 1) (p - 1) el_77 rfl rfl (by omega) (by omega) (hS.rdO 6 rfl (enRn_at (set_get hr))).1 ?_
          refine WL.run 4 [.slice a3 (List.length (ch4 ac)) z.c] rfl (by exact (hS.rdO 6 rfl (enRn_at (set_get hr))).2 1 _ rfl) ?_
          refine WL.nil <| WC.ifP rfl (fun cd3 => ?_) (fun cd3 => ?_)
          · refine WC.skip <| WC.seq <| WC.block <| WC.seq <| WC.region ?_
            obtain ⟨c9, hcj⟩ : ∃ c, ac[j]? = some c := ⟨_, List.getElem?_eq_getElem (by omega)⟩; have hck := har c9 (List.mem_of_getElem? hcj); have hrl9 := rdA_len th.ls s c9; have hml9 := hPT.ml; have hsne := en2_len sn
            refine WL.r 3 rfl <| WL.ix rfl rfl (i := (p : Int) - 1) (p - 1) el_77 rfl rfl (by omega) (by omega) (hS.rdO 6 rfl (enRn_at (set_get hr))).1 ?_
            refine WL.run 3 [.slice a3 (List.length (ch4 ac)) z.c] rfl (by exact (hS.rdO 6 rfl (enRn_at (set_get hr))).2 1 _ rfl) ?_
            refine WL.ix rfl rfl (i := (j : Int)) (j) el_79 rfl rfl (by omega) (by omega) (hS.rdS 1 rfl (ch4_at hcj)).1 ?_
            refine WL.ldC rfl rfl [.int .i64 c9.1, .int .i64 c9.2.1, .int .i64 c9.2.2.1, .int .i64 c9.2.2.2] ag_89 rfl (hS.rdS 1 rfl (ch4_at hcj)).2 <| WL.call rfl rfl (act26 (A := AA.ret hd) (RA := hd :: hd :: RnT rs2) (t := th) (n := j) (s := s) (c := c9) (hP := hPT) (hn := (by omega)) (hA := f6) (hi9 := (hI2.is.ret hd)) (hs := hI2.srt) (htn := (by omega)) (hc := hck) (hS := (hS.sel 5 [3, 3, 0, 0, 0] rfl))) rfl ?_
            clear hS; rintro _ w ⟨xs1, q1, ra1, rc1, rfl, hS, f7⟩
            replace hS := hS.n12 L (a0 := Own 121 2 (en2 (rdA th.ls s c9)) ra1 rc1) (a1 := Tx x1 a2 hd xs1 q1 (actT th.ls s c9).S) rfl
            refine WL.r 5 rfl <| WL.nil ?_
            as_aux_lemma =>
            refine WC.seq <| WC.seq <| WC.region <| WL.r 2 rfl <| WL.nil <| WC.ifF rfl rfl <| WC.skip <| WC.seq <| WC.region <| WL.r 2 rfl <| WL.ix rfl rfl (i := (p : Int) - 1) (p - 1) el_77 rfl rfl (by omega) (by omega) (hS.rdO 7 rfl (enRn_at (set_get hr))).1 ?_
            refine WL.run 3 [.slice sa (List.length (en2 sn)) sc] rfl (by exact (hS.rdO 7 rfl (enRn_at (set_get hr))).2 2 _ rfl) ?_
            refine WL.app rfl rfl 3 (en2 (sn ++ (rdA th.ls s c9))) el_49 hS rfl (hS.srcO 0 rfl) (en2_app _ _).symm (Rm.of (by first | omega | (simp <;> omega)) (by decide)) rfl rfl (fun a4 c2 w hS => ?_)
            replace hS := hS.n12 L (a3 := Own 121 2 (en2 (sn ++ (rdA th.ls s c9))) a4 c2) rfl
            refine WL.r 1 rfl <| WL.nil <| WC.region <| WL.r 3 rfl <| WL.ix rfl rfl (i := (p : Int) - 1) (p - 1) el_77 rfl rfl (by omega) (by omega) (hS.rdO 7 rfl (enRn_at (set_get hr))).1 ?_
            refine WL.r 1 rfl <| WL.stE rfl rfl rfl 7 (p - 1) 2 [.pointer (some ⟨x1, 0, none⟩), .slice a3 (List.length (ch4 ac)) z.c, .slice sa (List.length (en2 sn)) sc] (enRn (rs2.set (p - 1) (rnS (rnA (rnB r x1) ac a3 z.c) (sn ++ (rdA th.ls s c9)) a4 c2))) hS rfl (enRn_at (set_get hr)) rfl rfl rfl rfl rfl (en_put rfl) (fun w hS => ?_)
            replace hS := hS.n12 L (a7 := Own 81 3 (enRn (rs2.set (p - 1) (rnS (rnA (rnB r x1) ac a3 z.c) (sn ++ (rdA th.ls s c9)) a4 c2))) (some ⟨b1, 0, none⟩) (List.length js)) rfl
            refine WL.nil <| WC.region <| WL.r 2 rfl <| WL.nw 134 rfl (w64 (by omega)) ?_
            refine WL.r 1 rfl <| WL.nil ?_
            exact ⟨_, by omega, j + 1, actT th.ls s c9, sn ++ (rdA th.ls s c9), a4, c2, xs1, q1, rfl, (hS.sel 6 [3, 3, 3, 1, 1] rfl), (by omega), (by rw [runT_snoc hcj, ← hs]), (by rw [act_sn, ← hsn]), (f7), (by rw [List.length_append]; omega), rfl⟩
          · refine WC.exit <| WC.region <| WL.r 2 rfl <| WL.reb 65 (.int .i64 (((p + 1 : Nat) : Int) - 1)) (congrArg (Value.int .i64) (by rw [w64 (by omega)]; omega)) ?_
            refine WL.r 1 rfl <| WL.nil ?_
            have e9 : ac.take j = ac := List.take_of_length_le (by omega)
            rw [e9] at hs
            have hRK : RunOk (AA.ret hd) (rnL (rnS (rnA (rnB r x1) ac a3 z.c) sn sa sc) hd xs qq s.S th) := ⟨rfl, rfl, hI2.is.ret hd, hI2.srt, (by show th.n ≤ 94; omega), (by show ac.length ≤ 8; omega), har, (by show PT 8 xs qq (runQ th.ls ac); rw [← hs]; exact hPT.mono (by omega)), (by show s.S = (runQ th.ls ac).S; rw [← hs]), (by show sn = (runQ th.ls ac).sn; rw [← hs]; exact hsn), (by show sn.length ≤ 3000; omega)⟩
            rw [en_same (l := rs2) (i := p - 1) (r := rnS (rnA (rnB r x1) ac a3 z.c) sn sa sc) (r' := (rnL (rnS (rnA (rnB r x1) ac a3 z.c) sn sa sc) hd xs qq s.S th)) rfl] at hS
            replace hS := St.famIn (f := rnF a2) (xs := rs2) (i := p - 1) (x := r) (y := (rnL (rnS (rnA (rnB r x1) ac a3 z.c) sn sa sc) hd xs qq s.S th)) (by rw [rnF_t rfl]; exact hS.sel 7 [3, 0, 0, 2, 2, 1] rfl) hr (rnF_f hz1)
            replace hS := hS.n7 L (a0 := Fam (rnF a2) (rs2.set (p - 1) (rnL (rnS (rnA (rnB r x1) ac a3 z.c) sn sa sc) hd xs qq s.S th))) (a1 := Own 81 3 (enRn (rs2.set (p - 1) (rnL (rnS (rnA (rnB r x1) ac a3 z.c) sn sa sc) hd xs qq s.S th))) (some ⟨b1, 0, none⟩) (List.length js)) (a2 := Arn a2 (AA.ret hd)) rfl
            exact ⟨_, by omega, p + 1, AA.ret hd, rs2.set (p - 1) (rnL (rnS (rnA (rnB r x1) ac a3 z.c) sn sa sc) hd xs qq s.S th), rfl, hS, (by omega), (by rw [List.length_set]; exact hrl2), (hI2.start hr hst f6 (by omega) rfl hRK), (lv_set hlv2 hr rfl), (dn_set hdn hr rfl), rfl⟩
      · refine WC.exit <| WC.seq <| WC.seq <| WC.region <| WL.r 2 rfl <| WL.nil <| WC.ifP rfl (fun hk0 => ?_) (fun hk0 => ?_)
        · refine WC.exit <| WC.region <| WL.r 2 rfl <| WL.nw 57 rfl (w64 (by omega)) ?_
          refine WL.r 1 rfl <| WL.nil ?_
          exact ⟨_, by omega, k + 1, AA, hd, th, nl, na, nc, rs2, rfl, hS, (by omega), (hnl), (hrl2), (hI2.mono (by omega)), (fun j r hr hk9 hs9 => hlv2 j r hr (by omega) hs9), rfl⟩
        · refine WC.skip <| WC.seq <| WC.region ?_
          obtain ⟨r, hr⟩ : ∃ r, rs2[k - 1]? = some r := ⟨_, List.getElem?_eq_getElem (by omega)⟩; have hst := hdn (by omega) (by omega) r hr; have hlv9 := hlv2 (k - 1) r hr (by omega) hst; have hRK := hI2.run r (List.mem_of_getElem? hr) hlv9; have hsne := en2_len r.sn; have hin := hI2.n; have hI9 := hI2.len
          refine WL.r 3 rfl <| WL.nw 166 rfl (w64 (by omega)) ?_
          refine WL.ix rfl rfl (i := (k : Int) - 1) (k - 1) el_77 rfl rfl (by omega) (by omega) (hS.rdO 1 rfl (enRn_atT hr hst)).1 ?_
          refine WL.ldC rfl rfl [.pointer (some ⟨r.b, 0, none⟩), .slice r.la (List.length (ch4 r.acts)) r.lc, .slice r.sa (List.length (en2 r.sn)) r.sc] ag_81 rfl (hS.rdO 1 rfl (enRn_atT hr hst)).2 <| WL.new rfl rfl zv_81 hS (fun b2 w hS => ?_)
          refine WL.stF rfl rfl rfl 0 hS rfl rfl rfl rfl rfl ag_81 (fun w hS => ?_)
          replace hS := hS.n8 L (a0 := cel b2 #[.pointer (some ⟨r.b, 0, none⟩), .slice r.la (List.length (ch4 r.acts)) r.lc, .slice r.sa (List.length (en2 r.sn)) r.sc] 81) rfl
          refine WL.nil ?_
          as_aux_lemma =>
          refine WC.seq <| WC.region ?_
          have hpr := RnT_out (r' := rnD r false) hr hRK.held rfl; have hA9 : ARf AA (r.rt :: hd :: RnT (rs2.set (k - 1) (rnD r false))) := hI2.ref.perm ((List.Perm.cons hd hpr).trans (List.Perm.swap _ _ _)); have hRl := RnT_len (rs2.set (k - 1) (rnD r false)); rw [List.length_set] at hRl; have hroom := hI2.room (by omega); have hml9 := hRK.pt.ml; have hsl9 := hRK.pt.sl; have hSr := hRK.S; have hmx9 := Tr.mxH_le (th.n + (runQ r.ts.ls r.acts).M.length); have hsl8 : r.S.length ≤ 8 := (by rw [hSr]; exact hsl9); have hrn9 := hRK.n; have hils := Tr.ls_len th
          replace hS := St.famOut (f := rnF a2) (xs := rs2) (i := k - 1) (x := r) (y := rnD r false) (hS.sel 2 [1, 0] rfl) hr (rnF_f rfl)
          rw [rnF_t hlv9] at hS
          replace hS := hS.sel 5 [4, 0, 0, 0, 0] rfl
          replace hS := hS.n11 L (a1 := Tx r.b a2 r.rt r.xs r.q r.S) (a2 := Own 121 2 (en2 r.sn) r.sa r.sc) (a3 := Sh 89 4 (ch4 r.acts) r.la r.lc) (a4 := Fam (rnF a2) (rs2.set (k - 1) (rnD r false))) rfl
          refine WL.run 3 [.pointer (some ⟨r.b, 0, none⟩)] rfl (by exact hS.ld 0 rfl rfl) ?_
          refine WL.call rfl rfl (tx_any (x := r.b) (rt := r.rt) (xs := r.xs) (q := r.q) (S := r.S) (M := (runQ r.ts.ls r.acts).M) (R := hd :: (RnT (rs2.set (k - 1) (rnD r false)))) (hd := hd) (ts := r.ts) (th := th) (hW := hRK.pt.w) (hA := hA9) (hts := hRK.is) (hth := hI2.is) (hss := hRK.srt) (hsh := hI2.srt) (hok := hI2.ok) (hn := (by omega)) (hm := (by omega)) (hSl := (by omega)) (hR := (by simp only [List.length_cons]; omega)) (hS := (hS.sel 7 [1, 5, 0, 0, 0, 0, 0] rfl))) rfl ?_
          clear hS; rintro _ w ⟨A2, i2, e1, en1, rfl, hS, f6⟩
          replace hS := hS.n11 L (a0 := Tz r.b a2 r.rt r.S en1) (a1 := Arn a2 A2) rfl
          refine WL.r 5 rfl <| WL.nil <| WC.seq <| WC.seq <| WC.region <| WL.r 2 rfl <| WL.nil <| WC.ifP rfl (fun hcfl => ?_) (fun hcfl => ?_)
          · refine WC.exit <| WC.region <| WL.r 2 rfl <| WL.nw 57 rfl (w64 (by omega)) ?_
            refine WL.r 1 rfl <| WL.nil ?_
            have hAA := com_stay f6 hcfl
            rw [← hAA] at hS
            rw [en_self (l := rs2) (i := k - 1) (r := r) (r' := rnD r true) hr rfl] at hS
            replace hS := (fam_same (rs := rs2) (i := k - 1) (r := rnD r false) (r' := rnD r true) rfl).1 (hS.sel 7 [5, 5, 1] rfl)
            replace hS := hS.n7 L (a0 := Fam (rnF a2) (rs2.set (k - 1) (rnD r true))) (a1 := Own 81 3 (enRn (rs2.set (k - 1) (rnD r true))) (some ⟨b1, 0, none⟩) (List.length js)) (a2 := Arn a2 AA) rfl
            exact ⟨_, by omega, k + 1, AA, hd, th, nl, na, nc, (rs2.set (k - 1) (rnD r true)), rfl, hS, (by omega), (hnl), (by rw [List.length_set]; exact hrl2), ((hI2.conf hr hlv9).mono (by omega)), (lv_out (by omega) hlv2), rfl⟩
          · refine WC.skip <| WC.seq <| WC.region ?_
            subst hnl
            obtain ⟨he0, hnc, hT⟩ := com_fine f6 hcfl (by omega); subst he0; have hser := ser_ok hRK.srt hI2.srt r.acts (agr_of hRK.srt hI2.srt (by rw [← hSr]; exact hnc)); rw [← hRK.sn] at hser; have hs1 : (serR th.ls r.acts).1 = lwA (runQ r.ts.ls r.acts).M th.ls := (by rw [hser]); have hs2 : (serR th.ls r.acts).2 = r.sn := (by rw [hser]); have hwl : (wAll (wWork th (runQ r.ts.ls r.acts).M) th).ls = (serR th.ls r.acts).1 := (by rw [wAll_ls _ hI2.srt, work_view hI2.srt hRK.pt.w.srt, hs1]); have hal9 := hRK.al; have hsnl9 := hRK.snl
            refine WL.run 3 [.slice r.la (List.length (ch4 r.acts)) r.lc] rfl (by exact hS.ld 2 rfl rfl) ?_
            refine WL.call rfl rfl (serial26 (l := th.ls) (acts := r.acts) (la := r.la) (lc := r.lc) (hs := hI2.srt) (hl := (by omega)) (hal := (by omega)) (hc := hRK.ar) (hS := (hS.sel 8 [7, 4, 0, 0, 0, 0, 0, 0] rfl))) rfl ?_
            clear hS; rintro _ w ⟨a3, a4, c2, c3, rfl, hS⟩
            replace hS := hS.n13 L (a0 := Sh 121 2 (en2 (serR th.ls r.acts).1) a3 c2) (a1 := Own 121 2 (en2 (serR th.ls r.acts).2) a4 c3) (a2 := Sh 121 2 (en2 th.ls) na nc) rfl
            refine WL.r 5 rfl <| WL.nil ?_
            as_aux_lemma =>
            refine WC.seq <| WC.seq <| WC.region <| WL.r 3 rfl <| WL.reb 187 (.bool false) (congrArg Value.bool (decide_eq_false (by decide))) ?_
            refine WL.ung rfl rfl rfl <| WL.r 1 rfl <| WL.ung rfl rfl rfl <| WL.r 1 rfl <| WL.ung rfl rfl rfl <| WL.run 1 [.slice r.sa (List.length (en2 r.sn)) r.sc] rfl (by exact hS.ld 6 rfl rfl) ?_
            refine WL.ung rfl rfl rfl ?_
            replace hS := (hS.at_ 1 rfl).share
            replace hS := hS.n13 L (a0 := Sh 121 2 (en2 (serR th.ls r.acts).2) a4 c3) rfl
            replace hS := (hS.at_ 7 rfl).share
            replace hS := hS.n13 L (a0 := Sh 121 2 (en2 r.sn) r.sa r.sc) rfl
            refine WL.call rfl rfl (same9 (xs := (serR th.ls r.acts).2) (ys := r.sn) (b := r.sa) (d := r.sc) (hl := (by rw [hs2]; omega)) (hS := (hS.sel 2 [1, 0] rfl))) rfl ?_
            clear hS; rintro _ w ⟨rfl, hS⟩
            replace hS := hS.n13 L rfl
            refine WL.ung rfl rfl rfl <| WL.r 1 rfl <| WL.prop 192 rfl (bnot (dd _)) <| WL.r 2 rfl <| WL.reb 194 (.bool false) (congrArg Value.bool (decide_eq_false ((fun h => h hs2)))) <| WL.ung rfl rfl rfl <| WL.r 1 rfl <| WL.ung rfl rfl rfl <| WL.call rfl rfl (ar_dump  (hA := hT.ref.toAWf) (hS := (hS.sel 7 [6, 0, 0, 0, 0, 0, 0] rfl))) rfl ?_
            clear hS; rintro _ w ⟨a5, c4, a6, c5, rfl, hS⟩
            replace hS := hS.n15 L (a0 := Own 174 11 (sls (AM.dmp A2)) a5 c4) (a1 := Own 64 1 (u32s (SM.order A2.s)) a6 c5) rfl
            refine WL.ung rfl rfl rfl <| WL.r 1 rfl <| WL.ung rfl rfl rfl <| WL.r 1 rfl <| WL.ung rfl rfl rfl ?_
            replace hS := (hS.at_ 0 rfl).share
            replace hS := hS.n15 L (a0 := Sh 174 11 (sls (AM.dmp A2)) a5 c4) rfl
            refine WL.call rfl rfl (t7_tree (A := A2) (R := i2 :: hd :: (RnT (rs2.set (k - 1) (rnD r false)))) (fa := a6) (fc := c5) (i := i2) (t := wAll (wWork th (runQ r.ts.ls r.acts).M) th) (l := (serR th.ls r.acts).1) (hA := hT.ref) (hi := hT.is) (hs := (by rw [hwl, hs1]; exact lwA_srt _ hI2.srt)) (hb := wAll_ok _ hI2.ok) (hl := hwl) (hS := (hS.sel 6 [0, 4, 0, 0, 0, 0] rfl))) rfl ?_
            clear hS; rintro _ w ⟨rfl, hS⟩
            replace hS := hS.n15 L rfl
            refine WL.ung rfl rfl rfl <| WL.r 2 rfl <| WL.nil ?_
            as_aux_lemma =>
            refine WC.ifF rfl rfl <| WC.skip <| WC.seq <| WC.region <| WL.r 2 rfl <| WL.call rfl rfl (tr_rel (R := i2 :: (RnT (rs2.set (k - 1) (rnD r false)))) (i := hd) (hA := hT.ref.sw) (hR := (by simp only [List.length_cons]; omega)) (hS := (hS.sel 4 [3, 0, 0, 0] rfl))) rfl ?_
            clear hS; rintro _ w ⟨A3, f7, rfl, hS, f8, f9⟩
            replace hS := hS.n15 L (a0 := Arn a2 A3) rfl
            refine WL.nil <| WC.region <| WL.r 4 rfl <| WL.nil <| WC.region <| WL.r 2 rfl <| WL.nw 57 rfl (w64 (by omega)) ?_
            refine WL.r 1 rfl <| WL.nil ?_
            have hwn := wAll_n (wWork th (runQ r.ts.ls r.acts).M) th; have hwk := wWork_len th (runQ r.ts.ls r.acts).M
            rw [en_self (l := rs2) (i := k - 1) (r := r) (r' := rnD r false) hr rfl] at hS
            replace hS := hS.sel 12 [10, 10, 0, 1] rfl
            replace hS := hS.n7 L (a1 := Own 81 3 (enRn (rs2.set (k - 1) (rnD r false))) (some ⟨b1, 0, none⟩) (List.length js)) rfl
            exact ⟨_, by omega, k + 1, A3, i2, wAll (wWork th (runQ r.ts.ls r.acts).M) th, (serR th.ls r.acts).1, a3, c2, (rs2.set (k - 1) (rnD r false)), rfl, hS, (by omega), (hwl.symm), (by rw [List.length_set]; exact hrl2), (hI2.done hr hlv9 hT f8 (wAll_ok _ hI2.ok) (by rw [hwl, hs1]; exact lwA_srt _ hI2.srt) (by omega)), (lv_out (by omega) hlv2), rfl⟩
    · refine WC.exit <| WC.seq <| WC.region <| WL.r 1 rfl <| WL.nil <| WC.ret ?_
      refine ⟨[.bool true], rfl, ?_⟩
      replace hS := (hS.sel 7 [] rfl)
      exact ⟨rfl, hS⟩
end Go.Proofs.YtbeacjcmdijdmaaGreat
/-! ## Argp -/
namespace Go.Proofs.YtbeacjcmdijdmaaGreat
open Go Go.V Go.RowKit
set_option maxRecDepth 100000
section
variable {H : Type} {enc : TypeId × Value → H} {w : World} {cs : List Value}
theorem rd_int (h : Rdc enc Tryz.prog w 3 cs) : ∃ n, cs = [.int .i64 n] ∧ (-9223372036854775808 ≤ n ∧ n ≤ 9223372036854775807) := by
  obtain ⟨n, h1, h2, h3⟩ := h.int (k := .i64) (by kernel_rfl)
  exact ⟨n, h1, h2, h3⟩
theorem one1 {x : List Value} {v : Value} (h : x = [v]) (h1 : v.oneCell' = true) : x.length = 1 ∧ ∀ u ∈ x, u.oneCell' = true := by
  subst h; exact ⟨rfl, fun u hu => by simp at hu; subst hu; exact h1⟩
end
end Go.Proofs.YtbeacjcmdijdmaaGreat
/-! ## Argv -/
namespace Go.Proofs.YtbeacjcmdijdmaaGreat
open Go Go.V Go.RowKit
set_option maxRecDepth 100000
theorem rdf_121 {H : Type} {enc : TypeId × Value → H} {w : World} {cs : List Value} (h : Rdc enc Tryz.prog w 121 cs) : ∃ c0 c1 : Value, cs = [c0, c1] ∧ Rdc enc Tryz.prog w 2 [c0] ∧ Rdc enc Tryz.prog w 2 [c1] := by
  obtain ⟨hl, hf⟩ := Rdc.struct h Tryz.underlying121
  rw [show Tryz.prog.cellsOf 121 = 2 by kernel_rfl] at hl
  match cs, hl with
  | [c0, c1], _ =>
    have f0 : Rdc enc Tryz.prog w 2 (([c0, c1].drop 0).take (Tryz.prog.cellsOf 2)) := hf 0 _ rfl
    rw [show Tryz.prog.cellsOf 2 = 1 by kernel_rfl] at f0
    have f1 : Rdc enc Tryz.prog w 2 (([c0, c1].drop 1).take (Tryz.prog.cellsOf 2)) := hf 1 _ rfl
    rw [show Tryz.prog.cellsOf 2 = 1 by kernel_rfl] at f1
    exact ⟨c0, c1, rfl, f0, f1⟩
section
variable {H : Type} {enc : TypeId × Value → H} {w : World} {cs : List Value}
theorem rd_i64 (h : Rdc enc Tryz.prog w 2 cs) : ∃ n, cs = [.int .i64 n] ∧ Ir n := by
  obtain ⟨n, h1, h2, h3⟩ := h.int (k := .i64) (by kernel_rfl)
  exact ⟨n, h1, h2, h3⟩
theorem rd_u64 (h : Rdc enc Tryz.prog w 23 cs) : ∃ n, cs = [.int .u64 n] ∧ 0 ≤ n ∧ n ≤ 18446744073709551615 := by
  obtain ⟨n, h1, h2, h3⟩ := h.int (k := .u64) (by kernel_rfl)
  exact ⟨n, h1, h2, h3⟩
theorem rd_ent (h : Rdc enc Tryz.prog w 121 cs) : ∃ x : Int × Int, cs = [.int .i64 x.1, .int .i64 x.2] ∧ Ir x.1 ∧ Ir x.2 := by
  obtain ⟨c0, c1, rfl, h0, h1⟩ := rdf_121 h
  obtain ⟨a, e0, w0⟩ := rd_i64 h0
  obtain ⟨b, e1, w1⟩ := rd_i64 h1
  cases e0; cases e1
  exact ⟨(a, b), rfl, w0, w1⟩
theorem rd_ents (h : Rdc enc Tryz.prog w 49 cs) : ∃ (l : List (Int × Int)) (a : Option Addr) (c : Nat), cs = [.slice a (en2 l).length c] ∧ (∀ x ∈ l, Ir x.1 ∧ Ir x.2) ∧ l.length ≤ maxLen ∧ ∀ e, Hw w (Sh e 2 (en2 l) a c) := by
  obtain ⟨a, c, ls, h1, h2, h3, h4⟩ := Rdc.slice (e := 121) (size := 2) h (by kernel_rfl) (by kernel_rfl) (by decide) (fun x hx => by
    obtain ⟨n, hn, _⟩ := rd_ent hx
    subst hn; exact ⟨rfl, fun u hu => by simp at hu; rcases hu with rfl | rfl <;> rfl⟩)
  obtain ⟨m, rfl, hm⟩ := map_of (fun x : Int × Int => [Value.int .i64 x.1, Value.int .i64 x.2]) (fun x => Ir x.1 ∧ Ir x.2) ls (fun x hx => by
    obtain ⟨n, hn, hb⟩ := rd_ent (h3 x hx)
    exact ⟨n, hn, hb⟩)
  exact ⟨m, a, c, h1, hm, by simpa using h2, h4⟩
end
end Go.Proofs.YtbeacjcmdijdmaaGreat
/-! ## Argt -/
namespace Go.Proofs.YtbeacjcmdijdmaaGreat
open Go Go.V Go.RowKit
set_option maxRecDepth 100000
theorem rdf_89 {H : Type} {enc : TypeId × Value → H} {w : World} {cs : List Value} (h : Rdc enc Tryz.prog w 89 cs) : ∃ c0 c1 c2 c3 : Value, cs = [c0, c1, c2, c3] ∧ Rdc enc Tryz.prog w 3 [c0] ∧ Rdc enc Tryz.prog w 2 [c1] ∧ Rdc enc Tryz.prog w 2 [c2] ∧ Rdc enc Tryz.prog w 2 [c3] := by
  obtain ⟨hl, hf⟩ := Rdc.struct h Tryz.underlying89
  rw [show Tryz.prog.cellsOf 89 = 4 by kernel_rfl] at hl
  match cs, hl with
  | [c0, c1, c2, c3], _ =>
    have f0 : Rdc enc Tryz.prog w 3 (([c0, c1, c2, c3].drop 0).take (Tryz.prog.cellsOf 3)) := hf 0 _ rfl
    rw [show Tryz.prog.cellsOf 3 = 1 by kernel_rfl] at f0
    have f1 : Rdc enc Tryz.prog w 2 (([c0, c1, c2, c3].drop 1).take (Tryz.prog.cellsOf 2)) := hf 1 _ rfl
    rw [show Tryz.prog.cellsOf 2 = 1 by kernel_rfl] at f1
    have f2 : Rdc enc Tryz.prog w 2 (([c0, c1, c2, c3].drop 2).take (Tryz.prog.cellsOf 2)) := hf 2 _ rfl
    rw [show Tryz.prog.cellsOf 2 = 1 by kernel_rfl] at f2
    have f3 : Rdc enc Tryz.prog w 2 (([c0, c1, c2, c3].drop 3).take (Tryz.prog.cellsOf 2)) := hf 3 _ rfl
    rw [show Tryz.prog.cellsOf 2 = 1 by kernel_rfl] at f3
    exact ⟨c0, c1, c2, c3, rfl, f0, f1, f2, f3⟩
section
variable {H : Type} {enc : TypeId × Value → H} {w : World} {cs : List Value}
theorem rd_act (h : Rdc enc Tryz.prog w 89 cs) : ∃ x : Int × Int × Int × Int, cs = [.int .i64 x.1, .int .i64 x.2.1, .int .i64 x.2.2.1, .int .i64 x.2.2.2] ∧ i64R x.1 ∧ i64R x.2.1 ∧ i64R x.2.2.1 ∧ i64R x.2.2.2 := by
  obtain ⟨c0, c1, c2, c3, rfl, h0, h1, h2, h3⟩ := rdf_89 h
  obtain ⟨a, e0, w0⟩ := rd_int h0
  obtain ⟨b, e1, w1⟩ := rd_i64 h1
  obtain ⟨c, e2, w2⟩ := rd_i64 h2
  obtain ⟨d, e3, w3⟩ := rd_i64 h3
  cases e0; cases e1; cases e2; cases e3
  exact ⟨(a, b, c, d), rfl, w0, w1, w2, w3⟩
theorem rd_acts (h : Rdc enc Tryz.prog w 79 cs) : ∃ (l : List (Int × Int × Int × Int)) (a : Option Addr) (c : Nat), cs = [.slice a (ch4 l).length c] ∧ (∀ x ∈ l, i64R x.1 ∧ i64R x.2.1 ∧ i64R x.2.2.1 ∧ i64R x.2.2.2) ∧ l.length ≤ maxLen ∧ ∀ e, Hw w (Sh e 4 (ch4 l) a c) := by
  obtain ⟨a, c, ls, h1, h2, h3, h4⟩ := Rdc.slice (e := 89) (size := 4) h (by kernel_rfl) (by kernel_rfl) (by decide) (fun x hx => by
    obtain ⟨n, hn, _⟩ := rd_act hx
    subst hn; exact ⟨rfl, fun u hu => by simp at hu; rcases hu with rfl | rfl | rfl | rfl <;> rfl⟩)
  obtain ⟨m, rfl, hm⟩ := map_of (fun x : Int × Int × Int × Int => [Value.int .i64 x.1, Value.int .i64 x.2.1, Value.int .i64 x.2.2.1, Value.int .i64 x.2.2.2]) (fun x => i64R x.1 ∧ i64R x.2.1 ∧ i64R x.2.2.1 ∧ i64R x.2.2.2) ls (fun x hx => by
    obtain ⟨n, hn, hb⟩ := rd_act (h3 x hx)
    exact ⟨n, hn, hb⟩)
  exact ⟨m, a, c, h1, hm, by simpa using h2, h4⟩
end
end Go.Proofs.YtbeacjcmdijdmaaGreat
/-! ## Argj -/
namespace Go.Proofs.YtbeacjcmdijdmaaGreat
open Go Go.V Go.RowKit
set_option maxRecDepth 100000
theorem rdf_83 {H : Type} {enc : TypeId × Value → H} {w : World} {cs : List Value} (h : Rdc enc Tryz.prog w 83 cs) : ∃ c0 c1 : Value, cs = [c0, c1] ∧ Rdc enc Tryz.prog w 3 [c0] ∧ Rdc enc Tryz.prog w 79 [c1] := by
  obtain ⟨hl, hf⟩ := Rdc.struct h Tryz.underlying83
  rw [show Tryz.prog.cellsOf 83 = 2 by kernel_rfl] at hl
  match cs, hl with
  | [c0, c1], _ =>
    have f0 : Rdc enc Tryz.prog w 3 (([c0, c1].drop 0).take (Tryz.prog.cellsOf 3)) := hf 0 _ rfl
    rw [show Tryz.prog.cellsOf 3 = 1 by kernel_rfl] at f0
    have f1 : Rdc enc Tryz.prog w 79 (([c0, c1].drop 1).take (Tryz.prog.cellsOf 79)) := hf 1 _ rfl
    rw [show Tryz.prog.cellsOf 79 = 1 by kernel_rfl] at f1
    exact ⟨c0, c1, rfl, f0, f1⟩
section
variable {H : Type} {enc : TypeId × Value → H} {w : World} {cs : List Value}
theorem rd_job (h : Rdc enc Tryz.prog w 83 cs) : ∃ z : Jb, cs = jbC z ∧ JbOk z ∧ ∀ A ∈ jbF z, Hw w A := by
  obtain ⟨c0, c1, rfl, h0, h1⟩ := rdf_83 h
  obtain ⟨n, e0, w0⟩ := rd_int h0
  obtain ⟨l, a, c, e1, w1, m1, s1⟩ := rd_acts h1
  cases e0; cases e1
  refine ⟨⟨n, l, a, c⟩, rfl, ⟨w0, w1, m1⟩, fun A hA => ?_⟩
  simp only [jbF, List.mem_singleton] at hA
  subst hA; exact s1 _
theorem rd_jobs (h : Rdc enc Tryz.prog w 73 cs) : ∃ (l : List Jb) (a : Option Addr) (c : Nat), cs = [.slice a (enJb l).length c] ∧ (∀ z ∈ l, JbOk z) ∧ l.length ≤ maxLen ∧ (∀ e, Hw w (Sh e 2 (enJb l) a c)) ∧ Hw w (Shs jbF l) := by
  obtain ⟨a, c, ls, h1, h2, h3, h4⟩ := Rdc.slice (e := 83) (size := 2) h (by kernel_rfl) (by kernel_rfl) (by decide) (fun x hx => by
    obtain ⟨n, hn, _⟩ := rd_job hx
    subst hn; exact enJb_ok [n] _ (List.mem_singleton.2 rfl))
  obtain ⟨m, rfl, hm⟩ := map_of jbC (fun z => JbOk z ∧ ∀ A ∈ jbF z, Hw w A) ls (fun x hx => by
    obtain ⟨n, hn, hb⟩ := rd_job (h3 x hx)
    exact ⟨n, hn, hb⟩)
  refine ⟨m, a, c, ?_, fun z hz => (hm z hz).1, by simpa using h2, h4, fun r hr z hz => ?_⟩
  · rw [h1, enJb_len, List.length_map]
  have h5 := (hm z hz).2
  have : ∀ M : List HP, (∀ A ∈ M, Hw w A) → All M (fun _ => none) r := by
    intro M
    induction M with
    | nil => exact fun _ => trivial
    | cons A M ih => exact fun hM => ⟨fun _ => none, fun _ => none, Sub.refl _, Sub.refl _, Dj.none _, hM A (List.mem_cons_self ..) r hr, ih fun B hB => hM B (List.mem_cons_of_mem _ hB)⟩
  exact this _ h5
end
end Go.Proofs.YtbeacjcmdijdmaaGreat
/-! ## Jtz -/
namespace Go.Proofs.YtbeacjcmdijdmaaGreat
open Go Go.V Go.RowKit Go.ChangeShapes Go.WideShapes
set_option maxRecDepth 100000
theorem tser_calls {H : Type} {enc : TypeId × Value → H} {W : World} {base : Nat} {args : List Value} (h : AOk enc Tryz.prog W base [49, 23, 73] args) :
    Calls Tryz.prog 6 args.toArray W fun e W' => e = .returned (.bool true) ∧ Below W.heap.size W W' := by
  obtain ⟨v0, vs0, rfl, k0, r0, h⟩ := h.cons
  obtain ⟨v1, vs1, rfl, k1, r1, h⟩ := h.cons
  obtain ⟨v2, vs2, rfl, k2, r2, h⟩ := h.cons
  obtain rfl := h.nil
  obtain ⟨l0, a0, c0, e0, _, _, s0⟩ := rd_ents r0
  obtain ⟨n1, e1, h1⟩ := rd_u64 r1
  obtain ⟨l2, a2, c2, e2, h2, m2, s2, t2⟩ := rd_jobs r2
  obtain rfl := okv_one (okv_slice k0 Tryz.underlying49) e0
  obtain rfl := okv_one (okv_int k1 Tryz.underlying23) e1
  obtain rfl := okv_one (okv_slice k2 Tryz.underlying73) e2
  have hS := St.start W
  have hS := t2.add hS
  have hS := (s2 83).add hS
  have hS := (s0 121).add hS
  exact law_calls (law_tser l0 a0 c0 n1 l2 a2 c2 h1 h2 m2 hS)
theorem tser_lifted (os : Os) (started : os.Started) (H : Type) (enc : TypeId × Value → H) :
    ReturnsInHanded {} Tryz.checked os 6 .any (Rows.txnSerializesSpec.pre6 enc Tryz.prog Tryz.f6 Rows.txnSerializesRow.domain false) (Rows.txnSerializesSpec.post enc Tryz.prog Tryz.f6 false true false false) := by
  refine returnsInHanded_of_change (C := Tryz.checked) (by kernel_rfl) started (by kernel_rfl) Tryz.func6
    (ChangeSpec.witness6 (enc := enc) (C := Tryz.checked) false ⟨#[], #[.slice none 0 0, .int .u64 0, .slice none 0 0], []⟩ 8 (by kernel_rfl) (by kernel_rfl) (by kernel_rfl) (by kernel_rfl)) ?_
  intro W base args ds gs before hval0 hW _ _
  have hval : ∀ (j : Nat) t v, Tryz.f6.params[j]? = some t → args[j]? = some v → Value.okWide Tryz.prog W .any base t v := hval0
  have hW0 := hW
  obtain ⟨p, q, hA0, _⟩ := hW
  have hA : DataW.TrodAll enc Tryz.prog W 0 (fun _ => true) true Tryz.f6.params.toList args.toList ds p := hA0
  rw [Tryz.params6] at hA hval
  clear hA0 hval0
  have hc := tser_calls (AOk.args hA hval)
  rw [Array.toArray_toList] at hc
  refine hc.mono fun e W' ⟨he, hb⟩ => ⟨_, he, ?_⟩
  refine law_post rfl hW0 (by kernel_rfl) ?_ (by kernel_rfl) Tryz.underlying4 ?_ hb
  · exact fun t ht => by
      simp only [Tryz.params6, List.mem_cons, List.not_mem_nil, or_false] at ht
      rcases ht with rfl | rfl | rfl <;> exact ⟨by kernel_rfl, of_decide_eq_true (by kernel_rfl)⟩
  · intro hd
    match ds, hd with
    | [d1, d2, d3], _ => exact ⟨rfl, rfl, rfl⟩
theorem tser_holds : Rows.TxnSerializesSaid :=
  OpenClaim.holds_of_wide 6 Tryz.f6 rfl rfl rfl rfl rfl rfl rfl ⟨rfl, rfl, rfl, rfl, rfl⟩ rfl rfl rfl rfl rfl (by kernel_rfl) Tryz.func6 tser_closed
    (of_decide_eq_true (by kernel_rfl)) (by unfold Func.isWrapper; first | (rw [if_pos (by decide +kernel)]; kernel_rfl) | (rw [if_neg (by decide +kernel)]; exact ⟨rfl, rfl⟩))
    (fun os started H enc _ => tser_lifted os started H enc)
end Go.Proofs.YtbeacjcmdijdmaaGreat
