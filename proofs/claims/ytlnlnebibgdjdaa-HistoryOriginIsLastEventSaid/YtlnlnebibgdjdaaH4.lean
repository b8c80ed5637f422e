/-
  Histories: Log.
  Conditions: the chain's trees are ascending.
-/
import Derived.Test.YtlnlnebibgdjdaaH3
namespace Go.Proofs.Ytlnlnebibgdjdaa
open Go Go.V Go.RowKit

/-- the change of one key -/
def logC (k : Int) (o n : Option Int) : List Chg := if (¬ ((o.isSome == n.isSome) = true)) ∨ o.getD 0 ≠ n.getD 0 then [(if o.isSome = false then 1 else if n.isSome = false then 2 else 3, k, o.getD 0, n.getD 0)] else []
theorem opt_same {o n : Option Int} : ((¬ ((o.isSome == n.isSome) = true)) ∨ o.getD 0 ≠ n.getD 0) ↔ o ≠ n := by
  cases o <;> cases n <;> simp
theorem asc_one : ∀ {D : List Chg} {c : Chg}, (D.Pairwise fun a b => a.2.1 < b.2.1) → c ∈ D → inR c.2.1 c.2.1 D = [c]
  | [], _, _, h => by cases h
  | d :: D, c, hd, hc => by
    obtain ⟨h1, h2⟩ := List.pairwise_cons.1 hd
    unfold inR
    rcases List.mem_cons.1 hc with rfl | hc
    · rw [List.filter_cons_of_pos (by simp), List.filter_eq_nil_iff.2 fun x hx => by have := h1 x hx; simp; omega]
    · have h3 := h1 c hc
      rw [List.filter_cons_of_neg (by simp; omega)]
      exact asc_one h2 hc
theorem inR_log {l r : Kvs} (hl : Srt l) (hr : Srt r) (k : Int) : inR k k (dif l r) = logC k (lget k l) (lget k r) := by
  by_cases h : lget k l = lget k r
  · rw [(inR_one hl hr k).2 h]
    unfold logC
    rw [if_neg fun hc => opt_same.1 hc h]
  · obtain ⟨c, hc, rfl⟩ := (dif_get l r hl hr k).2 h
    rw [asc_one (dif_asc l r hl hr) hc]
    unfold logC
    rw [if_pos (opt_same.2 h)]
    have hk := dif_ok l r hl hr c hc
    obtain ⟨c1, c2, c3, c4⟩ := c
    have h1 := hk.new
    have h2 := hk.old
    have z1 := hk.z1
    have z2 := hk.z2
    simp only at h1 h2 z1 z2
    rcases hk.kd with e | e | e <;> simp only at e <;> subst e
    · rw [h1, h2]; simp [z1 rfl]
    · rw [h1, h2]; simp [z2 rfl]
    · rw [h1, h2]; simp
theorem hev_log {Ls : List Kvs} (h : LOk Ls) (k : Int) (j : Nat) : hev k k Ls (j + 1) = hev k k Ls j ++ evA j (logC k (lget k (lsB Ls j)) (lget k (lsA Ls j))) := by
  rw [hev_succ, ← inR_log (h.b j).1 (h.a j).1 k]; rfl
theorem lg0 {k : Int} {o n : Option Int} (h : ¬ ((¬ ((o.isSome == n.isSome) = true)) ∨ o.getD 0 ≠ n.getD 0)) : logC k o n = [] := if_neg h
theorem lg1 {k : Int} {o n : Option Int} (h : (¬ ((o.isSome == n.isSome) = true)) ∨ o.getD 0 ≠ n.getD 0) (h1 : o.isSome = false) : logC k o n = [(1, k, o.getD 0, n.getD 0)] := by
  unfold logC; rw [if_pos h, if_pos h1]
theorem lg2 {k : Int} {o n : Option Int} (h : (¬ ((o.isSome == n.isSome) = true)) ∨ o.getD 0 ≠ n.getD 0) (h1 : o.isSome = true) (h2 : n.isSome = false) : logC k o n = [(2, k, o.getD 0, n.getD 0)] := by
  unfold logC; rw [if_pos h, if_neg (by rw [h1]; decide), if_pos h2]
theorem lg3 {k : Int} {o n : Option Int} (h : (¬ ((o.isSome == n.isSome) = true)) ∨ o.getD 0 ≠ n.getD 0) (h1 : o.isSome = true) (h2 : n.isSome = true) : logC k o n = [(3, k, o.getD 0, n.getD 0)] := by
  unfold logC; rw [if_pos h, if_neg (by rw [h1]; decide), if_neg (by rw [h2]; decide)]
theorem hi_log {g w : World} {L : List HP} (a : Nat) (A : AM) (R : List Int) (Ls : List Kvs) (rs : List Int) (u : Option Addr) (d : Nat) (key : Int) (hA : ARf A R) (hT : RTs A Ls rs) (hL : LOk Ls) (hn : rs.length ≤ 100) (hS : St g (Arn a A :: Sh 40 1 (u32s rs) u d :: L) w) :
    Sp Try.prog 31 [.pointer (some ⟨a, 0, none⟩), .slice u (List.length (u32s rs)) d, .int .i64 key] w (fun v w' => ∃ (a2 : Option Addr) (c2 : Nat), v = .slice a2 (List.length (ev5 (hev key key Ls (List.length rs)))) c2 ∧ St g (Own 63 5 (ev5 (hev key key Ls (List.length rs))) a2 c2 :: Arn a A :: Sh 40 1 (u32s rs) u d :: L) w') := by
  refine Sp.enter Try.func31 rfl (by kernel_rfl) (by kernel_rfl) ?_
  have _ := hn
  refine WC.seq ?_
  refine WC.region ?_
  refine WL.r 1 rfl ?_
  refine WL.nil ?_
  refine WC.seq ?_
  refine WC.region ?_
  have hul := u32s_len rs
  refine WL.r 1 rfl ?_
  refine WL.nil ?_
  refine WC.seq ?_
  refine WC.region ?_
  refine WL.r 2 rfl ?_
  refine WL.nil ?_
  refine WC.seq ?_
  refine WC.seq ?_
  refine WC.region ?_
  refine WL.r 3 rfl ?_
  refine WL.nil ?_
  refine WC.block ?_
  replace hS := hS.nil_ 63 5
  refine WC.loop [0, 2, 6, 7, 8, 9, 15, 16, 17] (fun kM vs w => ∃ (k : Nat) (out : List Ev) (ua : Option Addr) (uc : Nat), vs = [.pointer (some ⟨a, 0, none⟩), .int .i64 key, .slice none 0 0, .slice ua (List.length (ev5 out)) uc, .int .i64 ((lget key (lsB Ls k)).getD 0), .bool (lget key (lsB Ls k)).isSome, .slice u (List.length (u32s rs)) d, .int .i64 (List.length (u32s rs) : Int), .int .i64 (k : Int)] ∧ St g (Own 63 5 (ev5 out) ua uc :: Arn a A :: Sh 40 1 (u32s rs) u d :: L) w ∧ (k ≤ rs.length) ∧ (out = hev key key Ls k) ∧ (rs.length - k) = kM) ((List.length rs) - 0) ⟨0, [], none, 0, rfl, hS, (Nat.zero_le _), (rfl), rfl⟩ ?_
  clear hS; rintro _ _ w j ⟨k, out, ua, uc, rfl, hS, hk, ho, rfl⟩
  refine WC.seq ?_
  refine WC.region ?_
  refine WL.r 1 rfl ?_
  refine WL.nil ?_
  as_aux_lemma =>
    refine WC.seq ?_
    refine WC.ifP rfl (fun cd1 => ?_) (fun cd1 => ?_)
    · refine WC.skip ?_
      refine WC.seq ?_
      refine WC.block ?_
      refine WC.seq ?_
      refine WC.region ?_
      refine WL.r 1 rfl ?_
      obtain ⟨r, hr⟩ : ∃ r, rs[k]? = some r := ⟨_, List.getElem?_eq_getElem (by omega)⟩; obtain ⟨ty, hy1, _, hy3⟩ := hT.get k r hr; have ha := hL.a k; have hel := hev_len (lo := key) (hi := key) hL k; rw [← ho] at hel; have hoe := ev5_len out; have hg : Tr.get key ty = lget key (lsA Ls k) := (by rw [Tr.get_ls key ty (by rw [hy3]; exact ha.1), hy3])
      refine WL.ix rfl rfl (i := (k : Int)) (k) el_54 rfl rfl (by omega) (by omega) (hS.rdS 2 rfl (u32s_at hr)).1 ?_
      refine WL.run 3 [.int .u32 r] rfl (by exact (hS.rdS 2 rfl (u32s_at hr)).2 0 _ rfl) ?_
      refine WL.nil ?_
      refine WC.seq ?_
      refine WC.region ?_
      refine WL.r 3 rfl ?_
      refine WL.call rfl rfl (lk_get (a := a) (A := A) (R := R) (i := r) (k := key) (t := ty) (hA := hA) (hi := hy1) (hS := (hS.sel 2 [1, 0] rfl))) rfl ?_
      clear hS; rintro _ w ⟨rfl, hS⟩
      replace hS : St g (Arn a A :: Own 63 5 (ev5 out) ua uc :: Sh 40 1 (u32s rs) u d :: L) w := hS
      refine WL.r 5 rfl ?_
      refine WL.nil ?_
      refine WC.seq ?_
      refine WC.region ?_
      refine WL.reb 12 (.int .i64 ((lget key (lsA Ls k)).getD 0)) (congrArg (fun z : Option Int => Value.int .i64 (z.getD 0)) hg) ?_
      refine WL.reb 13 (.bool (lget key (lsA Ls k)).isSome) (congrArg (fun z : Option Int => Value.bool z.isSome) hg) ?_
      refine WL.r 3 rfl ?_
      refine WL.build rfl rfl (cs := [.int .i64 3, .int .i64 key, .int .i64 ((lget key (lsB Ls k)).getD 0), .int .i64 ((lget key (lsA Ls k)).getD 0)]) zv_61 rfl rfl ?_
      refine WL.new rfl rfl zv_61 hS (fun b1 w hS => ?_)
      refine WL.stF rfl rfl rfl 0 hS rfl rfl rfl rfl rfl ag_61 (fun w hS => ?_)
      replace hS : St g (cel b1 #[.int .i64 3, .int .i64 key, .int .i64 ((lget key (lsB Ls k)).getD 0), .int .i64 ((lget key (lsA Ls k)).getD 0)] 61 :: Arn a A :: Own 63 5 (ev5 out) ua uc :: Sh 40 1 (u32s rs) u d :: L) w := hS
      refine WL.nil ?_
      as_aux_lemma =>
        refine WC.seq ?_
        refine WC.block ?_
        refine WC.seq ?_
        refine WC.region ?_
        refine WL.r 2 rfl ?_
        refine WL.r 1 rfl ?_
        refine WL.nil ?_
        refine WC.if_ rfl (fun h1 => ?_) (fun h1 => ?_)
        · refine WC.region ?_
          refine WL.r 1 rfl ?_
          refine WL.st rfl rfl rfl 0 hS rfl rfl rfl rfl rfl rfl (fun w hS => ?_)
          replace hS : St g (cel b1 #[.int .i64 1, .int .i64 key, .int .i64 ((lget key (lsB Ls k)).getD 0), .int .i64 ((lget key (lsA Ls k)).getD 0)] 61 :: Arn a A :: Own 63 5 (ev5 out) ua uc :: Sh 40 1 (u32s rs) u d :: L) w := hS
          refine WL.nil ?_
          refine WC.seq ?_
          refine WC.seq ?_
          refine WC.region ?_
          refine WL.r 3 rfl ?_
          refine WL.rG 5 rfl (fun j => ?_)
          refine WL.prop 48 rfl (bor (bnot (dv _)) (dd _)) ?_
          refine WL.nil ?_
          refine WC.ifP rfl (fun hc => ?_) (fun hc => ?_)
          · refine WC.region ?_
            refine WL.r 2 rfl ?_
            refine WL.ldF rfl rfl 0 hS rfl rfl ag_61 ?_
            refine WL.build rfl rfl (cs := [.int .i64 (k : Int), .int .i64 1, .int .i64 key, .int .i64 ((lget key (lsB Ls k)).getD 0), .int .i64 ((lget key (lsA Ls k)).getD 0)]) zv_63 rfl rfl ?_
            refine WL.lit rfl rfl (ev5 [((k : Int), 1, key, (lget key (lsB Ls k)).getD 0, (lget key (lsA Ls k)).getD 0)]) el_58 hS (by exact ⟨rfl, rfl⟩) (ev5_ok _) rfl (by decide) (fun b2 w hS => ?_)
            refine WL.app rfl rfl 3 (ev5 (out ++ [((k : Int), 1, key, (lget key (lsB Ls k)).getD 0, (lget key (lsA Ls k)).getD 0)])) el_58 hS rfl (hS.srcO 0 rfl) (ev5_app _ _).symm (Rm.of (by first | omega | (simp <;> omega)) (by decide)) rfl rfl (fun a1 c1 w hS => ?_)
            replace hS : St g (Own 63 5 (ev5 [((k : Int), 1, key, (lget key (lsB Ls k)).getD 0, (lget key (lsA Ls k)).getD 0)]) (some ⟨b2, 0, none⟩) (List.length (ev5 [((k : Int), 1, key, (lget key (lsB Ls k)).getD 0, (lget key (lsA Ls k)).getD 0)])) :: cel b1 #[.int .i64 1, .int .i64 key, .int .i64 ((lget key (lsB Ls k)).getD 0), .int .i64 ((lget key (lsA Ls k)).getD 0)] 61 :: Arn a A :: Own 63 5 (ev5 (out ++ [((k : Int), 1, key, (lget key (lsB Ls k)).getD 0, (lget key (lsA Ls k)).getD 0)])) a1 c1 :: Sh 40 1 (u32s rs) u d :: L) w := hS
            refine WL.r 1 rfl ?_
            refine WL.nil ?_
            as_aux_lemma =>
              refine WC.region ?_
              refine WL.reb 12 (.int .i64 ((lget key (lsB Ls (k + 1))).getD 0)) rfl ?_
              refine WL.reb 13 (.bool (lget key (lsB Ls (k + 1))).isSome) rfl ?_
              refine WL.r 4 rfl ?_
              refine WL.nil ?_
              refine WC.region ?_
              refine WL.r 1 rfl ?_
              refine WL.nw 57 rfl (w64 (by omega)) ?_
              refine WL.r 1 rfl ?_
              refine WL.nil ?_
              exact ⟨_, by omega, k + 1, out ++ [((k : Int), 1, key, (lget key (lsB Ls k)).getD 0, (lget key (lsA Ls k)).getD 0)], a1, c1, rfl, (hS.sel 4 [3, 2] rfl), (by omega), (by rw [hev_log hL, ← ho, lg1 hc (by simpa using h1)]; rfl), rfl⟩
          · refine WC.skip ?_
            refine WC.region ?_
            refine WL.reb 12 (.int .i64 ((lget key (lsB Ls (k + 1))).getD 0)) rfl ?_
            refine WL.reb 13 (.bool (lget key (lsB Ls (k + 1))).isSome) rfl ?_
            refine WL.r 4 rfl ?_
            refine WL.nil ?_
            as_aux_lemma =>
              refine WC.region ?_
              refine WL.r 1 rfl ?_
              refine WL.nw 57 rfl (w64 (by omega)) ?_
              refine WL.r 1 rfl ?_
              refine WL.nil ?_
              exact ⟨_, by omega, k + 1, out, ua, uc, rfl, (hS.sel 3 [2, 1] rfl), (by omega), (by rw [hev_log hL, ← ho, lg0 hc]; simp [evA]), rfl⟩
        · refine WC.seq ?_
          refine WC.region ?_
          refine WL.r 2 rfl ?_
          refine WL.r 1 rfl ?_
          refine WL.nil ?_
          refine WC.if_ rfl (fun h2 => ?_) (fun h2 => ?_)
          · refine WC.region ?_
            refine WL.r 1 rfl ?_
            refine WL.st rfl rfl rfl 0 hS rfl rfl rfl rfl rfl rfl (fun w hS => ?_)
            replace hS : St g (cel b1 #[.int .i64 2, .int .i64 key, .int .i64 ((lget key (lsB Ls k)).getD 0), .int .i64 ((lget key (lsA Ls k)).getD 0)] 61 :: Arn a A :: Own 63 5 (ev5 out) ua uc :: Sh 40 1 (u32s rs) u d :: L) w := hS
            refine WL.nil ?_
            refine WC.seq ?_
            refine WC.seq ?_
            refine WC.region ?_
            refine WL.r 3 rfl ?_
            refine WL.rG 5 rfl (fun j => ?_)
            refine WL.prop 48 rfl (bor (bnot (dv _)) (dd _)) ?_
            refine WL.nil ?_
            as_aux_lemma =>
              refine WC.ifP rfl (fun hc => ?_) (fun hc => ?_)
              · refine WC.region ?_
                refine WL.r 2 rfl ?_
                refine WL.ldF rfl rfl 0 hS rfl rfl ag_61 ?_
                refine WL.build rfl rfl (cs := [.int .i64 (k : Int), .int .i64 2, .int .i64 key, .int .i64 ((lget key (lsB Ls k)).getD 0), .int .i64 ((lget key (lsA Ls k)).getD 0)]) zv_63 rfl rfl ?_
                refine WL.lit rfl rfl (ev5 [((k : Int), 2, key, (lget key (lsB Ls k)).getD 0, (lget key (lsA Ls k)).getD 0)]) el_58 hS (by exact ⟨rfl, rfl⟩) (ev5_ok _) rfl (by decide) (fun b2 w hS => ?_)
                refine WL.app rfl rfl 3 (ev5 (out ++ [((k : Int), 2, key, (lget key (lsB Ls k)).getD 0, (lget key (lsA Ls k)).getD 0)])) el_58 hS rfl (hS.srcO 0 rfl) (ev5_app _ _).symm (Rm.of (by first | omega | (simp <;> omega)) (by decide)) rfl rfl (fun a1 c1 w hS => ?_)
                replace hS : St g (Own 63 5 (ev5 [((k : Int), 2, key, (lget key (lsB Ls k)).getD 0, (lget key (lsA Ls k)).getD 0)]) (some ⟨b2, 0, none⟩) (List.length (ev5 [((k : Int), 2, key, (lget key (lsB Ls k)).getD 0, (lget key (lsA Ls k)).getD 0)])) :: cel b1 #[.int .i64 2, .int .i64 key, .int .i64 ((lget key (lsB Ls k)).getD 0), .int .i64 ((lget key (lsA Ls k)).getD 0)] 61 :: Arn a A :: Own 63 5 (ev5 (out ++ [((k : Int), 2, key, (lget key (lsB Ls k)).getD 0, (lget key (lsA Ls k)).getD 0)])) a1 c1 :: Sh 40 1 (u32s rs) u d :: L) w := hS
                refine WL.r 1 rfl ?_
                refine WL.nil ?_
                refine WC.region ?_
                refine WL.reb 12 (.int .i64 ((lget key (lsB Ls (k + 1))).getD 0)) rfl ?_
                refine WL.reb 13 (.bool (lget key (lsB Ls (k + 1))).isSome) rfl ?_
                refine WL.r 4 rfl ?_
                refine WL.nil ?_
                refine WC.region ?_
                refine WL.r 1 rfl ?_
                refine WL.nw 57 rfl (w64 (by omega)) ?_
                refine WL.r 1 rfl ?_
                refine WL.nil ?_
                exact ⟨_, by omega, k + 1, out ++ [((k : Int), 2, key, (lget key (lsB Ls k)).getD 0, (lget key (lsA Ls k)).getD 0)], a1, c1, rfl, (hS.sel 4 [3, 2] rfl), (by omega), (by rw [hev_log hL, ← ho, lg2 hc (by simpa using h1) (by simpa using h2)]; rfl), rfl⟩
              · refine WC.skip ?_
                refine WC.region ?_
                refine WL.reb 12 (.int .i64 ((lget key (lsB Ls (k + 1))).getD 0)) rfl ?_
                refine WL.reb 13 (.bool (lget key (lsB Ls (k + 1))).isSome) rfl ?_
                refine WL.r 4 rfl ?_
                refine WL.nil ?_
                refine WC.region ?_
                refine WL.r 1 rfl ?_
                refine WL.nw 57 rfl (w64 (by omega)) ?_
                refine WL.r 1 rfl ?_
                refine WL.nil ?_
                exact ⟨_, by omega, k + 1, out, ua, uc, rfl, (hS.sel 3 [2, 1] rfl), (by omega), (by rw [hev_log hL, ← ho, lg0 hc]; simp [evA]), rfl⟩
          · refine WC.skip ?_
            refine WC.seq ?_
            refine WC.seq ?_
            refine WC.region ?_
            refine WL.r 3 rfl ?_
            refine WL.rG 5 rfl (fun j => ?_)
            refine WL.prop 48 rfl (bor (bnot (dv _)) (dd _)) ?_
            refine WL.nil ?_
            refine WC.ifP rfl (fun hc => ?_) (fun hc => ?_)
            · refine WC.region ?_
              refine WL.r 2 rfl ?_
              refine WL.ldF rfl rfl 0 hS rfl rfl ag_61 ?_
              refine WL.build rfl rfl (cs := [.int .i64 (k : Int), .int .i64 3, .int .i64 key, .int .i64 ((lget key (lsB Ls k)).getD 0), .int .i64 ((lget key (lsA Ls k)).getD 0)]) zv_63 rfl rfl ?_
              refine WL.lit rfl rfl (ev5 [((k : Int), 3, key, (lget key (lsB Ls k)).getD 0, (lget key (lsA Ls k)).getD 0)]) el_58 hS (by exact ⟨rfl, rfl⟩) (ev5_ok _) rfl (by decide) (fun b2 w hS => ?_)
              refine WL.app rfl rfl 3 (ev5 (out ++ [((k : Int), 3, key, (lget key (lsB Ls k)).getD 0, (lget key (lsA Ls k)).getD 0)])) el_58 hS rfl (hS.srcO 0 rfl) (ev5_app _ _).symm (Rm.of (by first | omega | (simp <;> omega)) (by decide)) rfl rfl (fun a1 c1 w hS => ?_)
              replace hS : St g (Own 63 5 (ev5 [((k : Int), 3, key, (lget key (lsB Ls k)).getD 0, (lget key (lsA Ls k)).getD 0)]) (some ⟨b2, 0, none⟩) (List.length (ev5 [((k : Int), 3, key, (lget key (lsB Ls k)).getD 0, (lget key (lsA Ls k)).getD 0)])) :: cel b1 #[.int .i64 3, .int .i64 key, .int .i64 ((lget key (lsB Ls k)).getD 0), .int .i64 ((lget key (lsA Ls k)).getD 0)] 61 :: Arn a A :: Own 63 5 (ev5 (out ++ [((k : Int), 3, key, (lget key (lsB Ls k)).getD 0, (lget key (lsA Ls k)).getD 0)])) a1 c1 :: Sh 40 1 (u32s rs) u d :: L) w := hS
              refine WL.r 1 rfl ?_
              refine WL.nil ?_
              as_aux_lemma =>
                refine WC.region ?_
                refine WL.reb 12 (.int .i64 ((lget key (lsB Ls (k + 1))).getD 0)) rfl ?_
                refine WL.reb 13 (.bool (lget key (lsB Ls (k + 1))).isSome) rfl ?_
                refine WL.r 4 rfl ?_
                refine WL.nil ?_
                refine WC.region ?_
                refine WL.r 1 rfl ?_
                refine WL.nw 57 rfl (w64 (by omega)) ?_
                refine WL.r 1 rfl ?_
                refine WL.nil ?_
                exact ⟨_, by omega, k + 1, out ++ [((k : Int), 3, key, (lget key (lsB Ls k)).getD 0, (lget key (lsA Ls k)).getD 0)], a1, c1, rfl, (hS.sel 4 [3, 2] rfl), (by omega), (by rw [hev_log hL, ← ho, lg3 hc (by simpa using h1) (by simpa using h2)]; rfl), rfl⟩
            · refine WC.skip ?_
              refine WC.region ?_
              refine WL.reb 12 (.int .i64 ((lget key (lsB Ls (k + 1))).getD 0)) rfl ?_
              refine WL.reb 13 (.bool (lget key (lsB Ls (k + 1))).isSome) rfl ?_
              refine WL.r 4 rfl ?_
              refine WL.nil ?_
              as_aux_lemma =>
                refine WC.region ?_
                refine WL.r 1 rfl ?_
                refine WL.nw 57 rfl (w64 (by omega)) ?_
                refine WL.r 1 rfl ?_
                refine WL.nil ?_
                exact ⟨_, by omega, k + 1, out, ua, uc, rfl, (hS.sel 3 [2, 1] rfl), (by omega), (by rw [hev_log hL, ← ho, lg0 hc]; simp [evA]), rfl⟩
    · refine WC.exit ?_
      refine WC.seq ?_
      refine WC.region ?_
      refine WL.r 2 rfl ?_
      refine WL.nil ?_
      refine WC.ret ?_
      refine ⟨[.slice ua (List.length (ev5 out)) uc], rfl, ?_⟩
      have hk9 : k = rs.length := (by omega); subst hk9; subst ho; exact ⟨_, _, rfl, hS⟩
end Go.Proofs.Ytlnlnebibgdjdaa
