/-
  The row of TxnCommits: for every input the law returns true, and the arguments read as before.
  Conditions: none.
-/
import Derived.Test.YtbeacjcmdijdmaaGreatZtcE
import Derived.Test.YtbeacjcmdijdmaaGreatJtcq
/-! ## Eql -/
namespace Go.V
open Go Go.RowKit
def eqFL (P : Program) (e : TypeId) : List Field → Nat → List FK → Bool
  | [f], i, [] => f.offset == i && f.name != "_" && f.type == e
  | f :: g :: fs, i, k :: ks => f.offset == i && f.name != "_" && decide (fkind P f.type = k) && decide (k ≠ .no) && !isAggB P f.type && (P.underlying f.type).isSome && eqFL P e (g :: fs) (i + 1) ks
  | _, _, _ => false
structure EqL (P : Program) (t e : TypeId) (ks1 ks2 : List FK) : Prop where
  und : P.underlying t = some (.struct (P.fieldsOf t))
  held : P.stoodInHeld t = false
  guard : P.eqGuardType P.depth t = false
  eund : P.underlying e = some (.struct (P.fieldsOf e))
  eheld : P.stoodInHeld e = false
  efs : eqF P (P.fieldsOf e).toList 0 ks2 = true
  agg : isAggB P e = true
  sz : szN P e ks2.length = true
  pos : 0 < ks2.length
  fs : eqFL P e (P.fieldsOf t).toList 0 ks1 = true
section
variable {P : Program} {T : Tab} [hT : TabOk P T] {n : Nat} {os l : List Oper} {F : Fm} {w g : World} {t e : TypeId} {ks1 ks2 : List FK}
theorem ext_drop {X : Array Value} {i m : Nat} {zs : List Value} (h : X.toList.drop i = zs) (hm : zs.length = m) : X.extract i (i + m) = zs.toArray := by
  apply Array.toList_inj.1
  rw [Array.toList_extract, List.extract_eq_take_drop, h]
  rw [Nat.add_sub_cancel_left, ← hm, List.take_length]
theorem run_eqFL (d : Nat) (X Y : Array Value) (zx zy : List Value) (eund : P.underlying e = some (.struct (P.fieldsOf e))) (eheld : P.stoodInHeld e = false) (efs : eqF P (P.fieldsOf e).toList 0 ks2 = true) (agg : isAggB P e = true) (sz : szN P e ks2.length = true) (pos : 0 < ks2.length) (kz : zx.map tyv = ks2) (ky : zy.map tyv = ks2) :
    ∀ (fs : List Field) (i : Nat) (ks : List FK) (xs ys : List Value), eqFL P e fs i ks = true → X.toList.drop i = xs ++ zx → Y.toList.drop i = ys ++ zy → xs.map tyv = ks → ys.map tyv = ks →
    (Op.eqFields (d + 2) X Y fs).run P w = .ok (vEqs (xs ++ zx) (ys ++ zy)) w
  | [], _, ks, _, _, h, _, _, _, _ => by cases ks <;> simp [eqFL] at h
  | [f], i, [], xs, ys, h, hx, hy, kx, kyy => by
    have hx0 : xs = [] := List.map_eq_nil_iff.1 kx
    have hy0 : ys = [] := List.map_eq_nil_iff.1 kyy
    subst hx0; subst hy0
    simp only [List.nil_append] at hx hy ⊢
    simp only [eqFL, Bool.and_eq_true, beq_iff_eq, bne_iff_ne] at h
    obtain ⟨⟨h1, h2⟩, h3⟩ := h
    have lx : zx.length = ks2.length := by rw [← kz, List.length_map]
    have ly : zy.length = ks2.length := by rw [← ky, List.length_map]
    have hp : ∀ (Z : Array Value) (zs : List Value), Z.toList.drop i = zs → zs.length = ks2.length → (part f.type Z f.offset).run P w = .ok (.agg zs.toArray) w := fun Z zs hz hl => by
      rw [h1, h3]
      simp only [part, Sem.run_bind, run_isAgg w (show (P.underlying e).isSome = true by rw [eund]; rfl), agg, Result.andThen_ok, if_true, run_sizeOf w (szN_ex sz), Sem.run_pure]
      rw [ext_drop hz hl]
    have he : (Op.equalIn (d + 2) f.type (.agg zx.toArray) (.agg zy.toArray)).run P w = .ok (vEqs zx zy) w := by
      rw [h3, run_equalIn_agg (P := P) w (d + 1) e _ _ eund eheld]
      exact run_eqFields (P := P) (w := w) d zx.toArray zy.toArray _ 0 ks2 zx zy efs (by simp) (by simp) kz ky
    simp only [Op.eqFields, ne_eq, h2, not_false_eq_true, if_true, Sem.run_bind, hp X zx hx lx, hp Y zy hy ly, he, Result.andThen_ok, Sem.run_ite, Sem.run_pure]
    cases vEqs zx zy <;> simp
  | f :: g :: fs, i, [], xs, ys, h, hx, hy, kx, kyy => by simp [eqFL] at h
  | [f], i, k :: ks, xs, ys, h, hx, hy, kx, kyy => by simp [eqFL] at h
  | f :: g :: fs, i, k :: ks, xs, ys, h, hx, hy, kx, kyy => by
    simp only [eqFL, Bool.and_eq_true, beq_iff_eq, bne_iff_ne, Bool.not_eq_true', decide_eq_true_eq] at h
    obtain ⟨⟨⟨⟨⟨⟨h1, h2⟩, h3⟩, h4⟩, h5⟩, h6⟩, h7⟩ := h
    match xs, kx with
    | x :: xs, kx =>
      match ys, kyy with
      | y :: ys, kyy =>
        simp only [List.map_cons, List.cons.injEq] at kx kyy
        have hX : X[i]? = some x := by
          have : (X.toList.drop i)[0]? = some x := by rw [hx]; rfl
          simpa using this
        have hY : Y[i]? = some y := by
          have : (Y.toList.drop i)[0]? = some y := by rw [hy]; rfl
          simpa using this
        have px : (part f.type X f.offset).run P w = .ok x w := by
          rw [h1]; simp [part, run_isAgg w h6, h5, hX]
        have py : (part f.type Y f.offset).run P w = .ok y w := by
          rw [h1]; simp [part, run_isAgg w h6, h5, hY]
        have hx2 : X.toList.drop (i + 1) = xs ++ zx := by rw [← List.drop_drop, hx]; rfl
        have hy2 : Y.toList.drop (i + 1) = ys ++ zy := by rw [← List.drop_drop, hy]; rfl
        have ih := run_eqFL d X Y zx zy eund eheld efs agg sz pos kz ky (g :: fs) (i + 1) ks xs ys h7 hx2 hy2 kx.2 kyy.2
        have he := run_vEq (P := P) (w := w) (d + 1) f.type x y (by rw [kx.1, h3]) (by rw [kyy.1, h3]) (by rw [h3]; exact h4)
        rw [Op.eqFields]
        simp only [ne_eq, h2, not_false_eq_true, if_true, Sem.run_bind, px, py, he, Result.andThen_ok, Sem.run_ite, ih]
        have hne : ∃ a b, xs ++ zx = a :: b := by
          cases hz : xs ++ zx with
          | nil =>
            have h8 := (List.append_eq_nil_iff.1 hz).2
            have e1 : zx.length = ks2.length := by rw [← kz, List.length_map]
            rw [h8] at e1; simp only [List.length_nil] at e1; omega
          | cons a b => exact ⟨a, b, rfl⟩
        obtain ⟨a, b, hab⟩ := hne
        have hv2 : vEqs (x :: xs ++ zx) (y :: ys ++ zy) = (bif vEq x y then vEqs (xs ++ zx) (ys ++ zy) else false) := by
          show vEqs (x :: (xs ++ zx)) (y :: (ys ++ zy)) = _
          rw [hab]; rfl
        rw [hv2]
        cases hv : vEq x y <;> simp
theorem run_eqL (hE : EqL P t e ks1 ks2) {xs1 ys1 xs2 ys2 : List Value} (kx : xs1.map tyv = ks1) (ky : ys1.map tyv = ks1) (kx2 : xs2.map tyv = ks2) (ky2 : ys2.map tyv = ks2) (w : World) :
    (Op.equalIn 10000 t (.agg (xs1 ++ xs2).toArray) (.agg (ys1 ++ ys2).toArray)).run P w = .ok (vEqs (xs1 ++ xs2) (ys1 ++ ys2)) w := by
  rw [run_equalIn_agg (P := P) w 9999 t _ _ hE.und hE.held]
  exact run_eqFL (P := P) (w := w) 9997 _ _ xs2 ys2 hE.eund hE.eheld hE.efs hE.agg hE.sz hE.pos kx2 ky2 _ 0 ks1 xs1 ys1 hE.fs (by simp) (by simp) kx ky
theorem WL.neL {K : Kt} {o : Oper} {yt : TypeId} {x y : Operand} {xs1 ys1 xs2 ys2 : List Value} (hg : o.guard = none) (ho : o.op = .binOp .neq t x y yt) (hE : EqL P t e ks1 ks2) (hx : ev F x = .agg (xs1 ++ xs2).toArray) (hy : ev F y = .agg (ys1 ++ ys2).toArray) (kx : xs1.map tyv = ks1) (ky : ys1.map tyv = ks1) (kx2 : xs2.map tyv = ks2) (ky2 : ys2.map tyv = ks2)
    (hk : WL P n os l K (updo F o.dst (.bool (!vEqs (xs1 ++ xs2) (ys1 ++ ys2)))) w) : WL P n os (o :: l) K F w := by
  refine WL.val hg (fun hok => ?_) hk
  have e1 := okX_at (F := F) hok (x := x) (by simp [ho, Op.operands])
  have e2 := okX_at (F := F) hok (x := y) (by simp [ho, Op.operands])
  simp only [execOp, ho, e1, e2, hx, hy, Sem.run_bind, run_eqGuard_agg w _ _ _ _ _ _ hE.guard, run_neq_struct, run_eqL hE kx ky kx2 ky2 w, Result.andThen_ok, Sem.run_pure]
theorem WQ.neL {K : Fm → Prop} {o : Oper} {yt : TypeId} {x y : Operand} {xs1 ys1 xs2 ys2 : List Value} (hg : o.guard = none) (ho : o.op = .binOp .neq t x y yt) (hE : EqL P t e ks1 ks2) (hx : ev F x = .agg (xs1 ++ xs2).toArray) (hy : ev F y = .agg (ys1 ++ ys2).toArray) (kx : xs1.map tyv = ks1) (ky : ys1.map tyv = ks1) (kx2 : xs2.map tyv = ks2) (ky2 : ys2.map tyv = ks2)
    (hk : WQ P n os l w K (updo F o.dst (.bool (!vEqs (xs1 ++ xs2) (ys1 ++ ys2))))) : WQ P n os (o :: l) w K F := by
  refine WQ.val hg (fun hok mm => ?_) hk
  generalize hw0 : w.drewN mm = w0
  clear hw0
  have e1 := okX_at (F := F) hok (x := x) (by simp [ho, Op.operands])
  have e2 := okX_at (F := F) hok (x := y) (by simp [ho, Op.operands])
  simp only [execOp, ho, e1, e2, hx, hy, Sem.run_bind, run_eqGuard_agg w0 _ _ _ _ _ _ hE.guard, run_neq_struct, run_eqL hE kx ky kx2 ky2 w0, Result.andThen_ok, Sem.run_pure]
end
end Go.V
/-! ## Sd -/
namespace Go.Proofs.YtbeacjcmdijdmaaGreat
open Go Go.V Go.RowKit
theorem eql_174 : EqL Tryz.prog 174 172 [.bool, .int .i64, .int .u32] [.int .i64, .int .i64, .int .u32, .int .u32, .int .i64, .int .i64, .int .i64, .int .i64] := ⟨by kernel_rfl, by kernel_rfl, by kernel_rfl, by kernel_rfl, by kernel_rfl, by kernel_rfl, by kernel_rfl, by kernel_rfl, by decide, by kernel_rfl⟩
set_option maxRecDepth 8192 in
theorem sameSS {g w : World} {L : List HP} (xs ys : List SlE) (a b : Option Addr) (c d : Nat) (he : xs = ys) (hl : xs.length ≤ 1000000000) (hS : St g (Sh 174 11 (sls xs) a c :: Sh 174 11 (sls ys) b d :: L) w) :
    Sp Tryz.prog 125 [.slice a (List.length (sls xs)) c, .slice b (List.length (sls ys)) d] w (fun v w' => v = .bool true ∧ St g (Sh 174 11 (sls xs) a c :: Sh 174 11 (sls ys) b d :: L) w') := by
  refine Sp.enter Tryz.func125 rfl (by kernel_rfl) (by kernel_rfl) ?_
  have _ := hl
  refine WC.seq <| WC.region <| WL.r 1 rfl <| WL.nil <| WC.seq <| WC.seq <| WC.region ?_
  subst he; have hxl := sls_len xs
  refine WL.r 5 rfl <| WL.nil <| WC.ifF rfl (decide_eq_false ((fun h => h rfl))) <| WC.skip <| WC.seq <| WC.seq <| WC.region <| WL.r 1 rfl <| WL.nil <| WC.block <| WC.loop [0, 1, 5] (fun kM vs w => ∃ (k : Nat), vs = [.slice a (List.length (sls xs)) c, .slice b (List.length (sls xs)) d, .int .i64 (k : Int)] ∧ St g (Sh 174 11 (sls xs) a c :: Sh 174 11 (sls xs) b d :: L) w ∧ (k ≤ xs.length) ∧ (xs.length - k) = kM) ((List.length xs) - 0) ⟨0, rfl, hS, (Nat.zero_le _), rfl⟩ ?_
  clear hS; rintro _ _ w j ⟨k, rfl, hS, hk, rfl⟩
  refine WC.seq <| WC.seq <| WC.region <| WL.r 4 rfl <| WL.nil ?_
  as_aux_lemma =>
  refine WC.ifP rfl (fun cd1 => ?_) (fun cd1 => ?_)
  · refine WC.skip <| WC.seq <| WC.block <| WC.seq <| WC.plan [([0, 1, 4, 5, 2, 6, 3, 7, 8], none)] (by kernel_rfl) (by kernel_rfl) ?_
    refine WQ.r 4 rfl ?_
    obtain ⟨x, hx⟩ : ∃ x, xs[k]? = some x := ⟨_, List.getElem?_eq_getElem (by omega)⟩
    refine WQ.ix rfl rfl (i := (k : Int)) (k) el_60 rfl rfl (by omega) (len_of (sls_at hx)) (hS.rdS 0 rfl (sls_at hx)).1 ?_
    refine WQ.ix rfl rfl (i := (k : Int)) (k) el_60 rfl rfl (by omega) (len_of (sls_at hx)) (hS.rdS 1 rfl (sls_at hx)).1 ?_
    refine WQ.ldC rfl rfl [.bool x.al, .int .i64 x.cn, .int .u32 x.ge, .int .i64 x.nd.key, .int .i64 x.nd.val, .int .u32 x.nd.lf, .int .u32 x.nd.rg, .int .i64 x.nd.size, .int .i64 x.nd.sum, .int .i64 x.nd.mn, .int .i64 x.nd.mx] ag_174 rfl (hS.rdS 0 rfl (sls_at hx)).2 <| WQ.ldC rfl rfl [.bool x.al, .int .i64 x.cn, .int .u32 x.ge, .int .i64 x.nd.key, .int .i64 x.nd.val, .int .u32 x.nd.lf, .int .u32 x.nd.rg, .int .i64 x.nd.size, .int .i64 x.nd.sum, .int .i64 x.nd.mn, .int .i64 x.nd.mx] ag_174 rfl (hS.rdS 1 rfl (sls_at hx)).2 <| WQ.neL rfl rfl eql_174 (xs1 := [.bool x.al, .int .i64 x.cn, .int .u32 x.ge]) (ys1 := [.bool x.al, .int .i64 x.cn, .int .u32 x.ge]) (xs2 := [.int .i64 x.nd.key, .int .i64 x.nd.val, .int .u32 x.nd.lf, .int .u32 x.nd.rg, .int .i64 x.nd.size, .int .i64 x.nd.sum, .int .i64 x.nd.mn, .int .i64 x.nd.mx]) (ys2 := [.int .i64 x.nd.key, .int .i64 x.nd.val, .int .u32 x.nd.lf, .int .u32 x.nd.rg, .int .i64 x.nd.size, .int .i64 x.nd.sum, .int .i64 x.nd.mn, .int .i64 x.nd.mx]) rfl rfl rfl rfl rfl rfl <| WQ.prop 25 rfl (bnot (band (dd _) (band (dd _) (band (dd _) (band (dd _) (band (dd _) (band (dd _) (band (dd _) (band (dd _) (band (dd _) (band (dd _) (dd _)))))))))))) <| WQ.nil ?_
    intro m1
    replace hS := hS.drewN m1; generalize hwm1 : World.drewN _ _ = w at *; clear hwm1
    refine WC.ifF rfl (decide_eq_false ((fun h => h ⟨rfl, rfl, rfl, rfl, rfl, rfl, rfl, rfl, rfl, rfl, rfl⟩))) <| WC.skip <| WC.region <| WL.r 2 rfl <| WL.nw 16 rfl (w64 (by omega)) ?_
    refine WL.r 1 rfl <| WL.nil ?_
    exact ⟨_, by omega, k + 1, rfl, hS, (by omega), rfl⟩
  · refine WC.exit <| WC.seq <| WC.region <| WL.r 1 rfl <| WL.nil <| WC.ret ?_
    refine ⟨[.bool true], rfl, ?_⟩
    exact ⟨rfl, hS⟩
set_option maxRecDepth 8192 in
theorem sameU32 {g w : World} {L : List HP} (xs ys : List Int) (a b : Option Addr) (c d : Nat) (he : xs = ys) (hl : xs.length ≤ 1000000000) (hS : St g (Sh 64 1 (u32s xs) a c :: Sh 64 1 (u32s ys) b d :: L) w) :
    Sp Tryz.prog 126 [.slice a (List.length (u32s xs)) c, .slice b (List.length (u32s ys)) d] w (fun v w' => v = .bool true ∧ St g (Sh 64 1 (u32s xs) a c :: Sh 64 1 (u32s ys) b d :: L) w') := by
  refine Sp.enter Tryz.func126 rfl (by kernel_rfl) (by kernel_rfl) ?_
  have _ := hl
  refine WC.seq <| WC.region <| WL.r 1 rfl <| WL.nil <| WC.seq <| WC.seq <| WC.region ?_
  subst he; have hxl := u32s_len xs
  refine WL.r 5 rfl <| WL.nil <| WC.ifF rfl (decide_eq_false ((fun h => h rfl))) <| WC.skip <| WC.seq <| WC.seq <| WC.region <| WL.r 1 rfl <| WL.nil <| WC.block <| WC.loop [0, 1, 5] (fun kM vs w => ∃ (k : Nat), vs = [.slice a (List.length (u32s xs)) c, .slice b (List.length (u32s xs)) d, .int .i64 (k : Int)] ∧ St g (Sh 64 1 (u32s xs) a c :: Sh 64 1 (u32s xs) b d :: L) w ∧ (k ≤ xs.length) ∧ (xs.length - k) = kM) ((List.length xs) - 0) ⟨0, rfl, hS, (Nat.zero_le _), rfl⟩ ?_
  clear hS; rintro _ _ w j ⟨k, rfl, hS, hk, rfl⟩
  refine WC.seq <| WC.seq <| WC.region <| WL.r 4 rfl <| WL.nil ?_
  as_aux_lemma =>
  refine WC.ifP rfl (fun cd1 => ?_) (fun cd1 => ?_)
  · refine WC.skip <| WC.seq <| WC.block <| WC.seq <| WC.plan [([0, 1, 4, 5, 2, 6, 3, 7, 8], none)] (by kernel_rfl) (by kernel_rfl) ?_
    refine WQ.r 4 rfl ?_
    obtain ⟨x, hx⟩ : ∃ x, xs[k]? = some x := ⟨_, List.getElem?_eq_getElem (by omega)⟩
    refine WQ.ix rfl rfl (i := (k : Int)) (k) el_32 rfl rfl (by omega) (len_of (u32s_at hx)) (hS.rdS 0 rfl (u32s_at hx)).1 ?_
    refine WQ.ix rfl rfl (i := (k : Int)) (k) el_32 rfl rfl (by omega) (len_of (u32s_at hx)) (hS.rdS 1 rfl (u32s_at hx)).1 ?_
    refine WQ.run 3 [.int .u32 x, .int .u32 x] rfl (by exact ⟨(hS.rdS 0 rfl (u32s_at hx)).2 0 _ rfl, (hS.rdS 1 rfl (u32s_at hx)).2 0 _ rfl⟩) ?_
    refine WQ.nil ?_
    intro m1
    replace hS := hS.drewN m1; generalize hwm1 : World.drewN _ _ = w at *; clear hwm1
    refine WC.ifF rfl (decide_eq_false ((fun h => h rfl))) <| WC.skip <| WC.region <| WL.r 2 rfl <| WL.nw 16 rfl (w64 (by omega)) ?_
    refine WL.r 1 rfl <| WL.nil ?_
    exact ⟨_, by omega, k + 1, rfl, hS, (by omega), rfl⟩
  · refine WC.exit <| WC.seq <| WC.region <| WL.r 1 rfl <| WL.nil <| WC.ret ?_
    refine ⟨[.bool true], rfl, ?_⟩
    exact ⟨rfl, hS⟩
set_option maxRecDepth 8192 in
theorem same_dump {g w : World} {L : List HP} (xs ys : List SlE) (fs gs : List Int) (a b a' b' : Option Addr) (c d c' d' : Nat) (he : xs = ys) (hf : fs = gs) (hl : xs.length ≤ 1000000000) (hm : fs.length ≤ 1000000000) (hS : St g (Sh 174 11 (sls xs) a c :: Sh 64 1 (u32s fs) b d :: Sh 174 11 (sls ys) a' c' :: Sh 64 1 (u32s gs) b' d' :: L) w) :
    Sp Tryz.prog 50 [.agg #[.slice a (List.length (sls xs)) c, .slice b (List.length (u32s fs)) d], .agg #[.slice a' (List.length (sls ys)) c', .slice b' (List.length (u32s gs)) d']] w (fun v w' => v = .bool true ∧ St g (L) w') := by
  refine Sp.enter Tryz.func50 rfl (by kernel_rfl) (by kernel_rfl) ?_
  refine WC.seq <| WC.region <| WL.box rfl rfl #[.slice a (List.length (sls xs)) c, .slice b (List.length (u32s fs)) d] hS rfl rfl (fun b1 w hS => ?_)
  refine WL.box rfl rfl #[.slice a' (List.length (sls ys)) c', .slice b' (List.length (u32s gs)) d'] hS rfl rfl (fun b2 w hS => ?_)
  refine WL.r 1 rfl <| WL.nil <| WC.seq <| WC.region <| WL.run 4 [.slice a (List.length (sls xs)) c, .slice a' (List.length (sls ys)) c'] rfl (by exact ⟨hS.ld 1 rfl rfl, hS.ld 0 rfl rfl⟩) ?_
  refine WL.call rfl rfl (sameSS (xs := xs) (ys := ys) (he := he) (hl := hl) (hS := (hS.sel 5 [2, 3, 0, 0, 0] rfl))) rfl ?_
  clear hS; rintro _ w ⟨rfl, hS⟩
  replace hS := hS.n6 L (a2 := cel b2 #[.slice a' (List.length (sls ys)) c', .slice b' (List.length (u32s gs)) d'] 62) (a3 := cel b1 #[.slice a (List.length (sls xs)) c, .slice b (List.length (u32s fs)) d] 62) rfl
  refine WL.r 1 rfl <| WL.ung rfl rfl rfl <| WL.r 1 rfl <| WL.ung rfl rfl rfl <| WL.run 1 [.slice b (List.length (u32s fs)) d] rfl (by exact hS.ld 3 rfl rfl) ?_
  refine WL.ung rfl rfl rfl <| WL.r 1 rfl <| WL.ung rfl rfl rfl <| WL.run 1 [.slice b' (List.length (u32s gs)) d'] rfl (by exact hS.ld 2 rfl rfl) ?_
  refine WL.ung rfl rfl rfl <| WL.call rfl rfl (sameU32  (he := hf) (hl := hm) (hS := (hS.sel 6 [4, 4, 0, 0, 0, 0] rfl))) rfl ?_
  clear hS; rintro _ w ⟨rfl, hS⟩
  replace hS := hS.n6 L rfl
  refine WL.r 2 rfl <| WL.nil ?_
  as_aux_lemma =>
  refine WC.ret ?_
  refine ⟨[.bool true], rfl, ?_⟩
  replace hS := (hS.sel 6 [] rfl)
  exact ⟨rfl, hS⟩
end Go.Proofs.YtbeacjcmdijdmaaGreat
/-! ## Y6 -/
namespace Go.Proofs.YtbeacjcmdijdmaaGreat
open Go Go.V Go.RowKit Go.Maps
set_option maxRecDepth 8192 in
theorem spare26 {g w : World} {L : List HP} (n need : Int) (hn : 0 ≤ n ∧ n ≤ 65535) (hd : 0 ≤ need ∧ need ≤ 1000) (hS : St g (L) w) :
    Sp Tryz.prog 45 [.int .u16 n, .int .i64 need] w (fun v w' => ∃ (s : Int), v = .int .i64 s ∧ St g (L) w' ∧ (0 ≤ s ∧ s ≤ 2000)) := by
  refine Sp.enter Tryz.func45 rfl (by kernel_rfl) (by kernel_rfl) ?_
  refine WC.seq <| WC.region <| WL.r 1 rfl <| WL.nil <| WC.seq <| WC.seq <| WC.region <| WL.r 2 rfl <| WL.reb 6 (.int .u16 (n % 4)) (congrArg (Value.int .u16) (Int.tmod_eq_emod_of_nonneg (a := n) (by omega))) ?_
  refine WL.r 1 rfl <| WL.nil <| WC.ifP rfl (fun cd1 => ?_) (fun cd1 => ?_)
  · refine WC.seq <| WC.region ?_
    obtain ⟨m, rfl⟩ : ∃ m : Nat, need = Int.ofNat m := ⟨need.toNat, by simp; omega⟩; have hml : m ≤ 1000 := (by simp at hd; omega)
    refine WL.r 2 rfl <| WL.nw 9 rfl (w64 (by omega)) ?_
    refine WL.r 2 rfl <| WL.reb 11 (.int .i64 (Int.ofNat (m + 2))) (congrArg (Value.int .i64) (by rw [w64 (by simp; omega)]; simp)) ?_
    refine WL.r 1 rfl <| WL.r 1 rfl <| WL.nil <| WC.ret ?_
    refine ⟨[.int .i64 (Int.tmod n (Int.ofNat (m + 2)))], rfl, ?_⟩
    have h1 := Int.emod_nonneg n (b := Int.ofNat (m + 2)) (by simp; omega); have h2 := Int.emod_lt_of_pos n (b := Int.ofNat (m + 2)) (by simp; omega); exact ⟨_, rfl, hS, by rw [Int.tmod_eq_emod_of_nonneg hn.1]; simp at h1 h2 ⊢; omega⟩
  · refine WC.skip <| WC.seq <| WC.region <| WL.r 3 rfl <| WL.reb 15 (.int .u16 (n % 9)) (congrArg (Value.int .u16) (Int.tmod_eq_emod_of_nonneg (a := n) (by omega))) ?_
    refine WL.r 1 rfl <| WL.nw 16 rfl (w64 (by omega)) ?_
    refine WL.r 1 rfl <| WL.nw 17 rfl (w64 (by omega)) ?_
    refine WL.r 1 rfl <| WL.nil <| WC.ret ?_
    refine ⟨[.int .i64 (need + (n % 9))], rfl, ?_⟩
    exact ⟨_, rfl, hS, by omega⟩
theorem mx60 : ∀ m, m ≤ 60 → Tr.mxH m ≤ 12 := by decide
theorem spr (n m : Nat) (h1 : n ≤ 6) (h2 : m ≤ 12) : ∃ X : Nat, ((n : Int) + 1) * (4 * ((m : Int) + 2)) = (X : Int) ∧ (8 ≤ X ∧ X ≤ 392) ∧ X = (n + 1) * (4 * (m + 2)) := by
  refine ⟨(n + 1) * (4 * (m + 2)), by rw [Int.natCast_mul, Int.natCast_add, Int.natCast_mul, Int.natCast_add]; rfl, ⟨Nat.le_trans (by decide) (Nat.mul_le_mul (show 1 ≤ n + 1 by omega) (show 8 ≤ 4 * (m + 2) by omega)), ?_⟩, rfl⟩
  exact Nat.le_trans (Nat.mul_le_mul (show n + 1 ≤ 7 by omega) (show 4 * (m + 2) ≤ 56 by omega)) (by decide)
theorem spr_up {n k I : Nat} (h : k < n) : (n + 1 - k) * I = (n + 1 - (k + 1)) * I + I := by
  rw [show n + 1 - k = (n + 1 - (k + 1)) + 1 by omega, Nat.succ_mul]
theorem spr_le {n k I : Nat} (h : k ≤ n) : I ≤ (n + 1 - k) * I := by
  have := Nat.mul_le_mul_right I (show 1 ≤ n + 1 - k by omega)
  omega
theorem com_flt {A A2 : AM} {R0 : List Int} {ts th : Tr} {M : Wrs} {R : Kvs} {hd i e e2 : Int} {en : Bool} (hs : Srt ts.ls) (hh : Srt th.ls) (hM : wSrt M) (hC : ComA A R0 ts th M (rdL R) hd A2 i e en) (hF : FltP ts.ls th.ls R M A.s.free e2) : e = e2 := by
  have hc : Conf (rdL R) ts th ↔ ConfK R ts.ls th.ls := conf_iff hs hh
  have hl := Tr.ls_len th
  rcases hC with ⟨h1, h2, _⟩ | ⟨h1, h2⟩
  · rcases hF with ⟨_, h4⟩ | ⟨h3, _⟩
    · rw [h2, h4]
    · exact absurd (hc.1 h1) h3
  · rcases hF with ⟨h3, _⟩ | ⟨_, h4⟩
    · exact absurd (hc.2 h3) h1
    · rw [hl] at h4
      rcases h2 with ⟨h5, _, h6, _⟩ | ⟨h5, _, _, _, h6, h7⟩
      · rcases h4 with ⟨h8, h9, _⟩ | ⟨_, h8⟩
        · rcases h6 with h6 | h6
          · exact absurd ((work_nil hh hM).2 h6) h8
          · omega
        · rw [h5, h8]
      · rcases h4 with ⟨_, _, h8⟩ | ⟨h8, _⟩
        · rw [h5, h8]
        · exact absurd ⟨fun h9 => h6 ((work_nil hh hM).1 h9), h7⟩ h8
theorem com_err {A A2 : AM} {R0 : List Int} {ts th : Tr} {M : Wrs} {S : Kvs} {hd i e : Int} {en : Bool} (hC : ComA A R0 ts th M S hd A2 i e en) (he : e ≠ 0) : A = A2 ∧ 0 = i ∧ false = en := by
  rcases hC with ⟨_, _, h1, h2, h3⟩ | ⟨_, ⟨h1, _⟩ | ⟨_, h1, h2, h3, _⟩⟩
  · exact ⟨h3.symm, h1.symm, h2.symm⟩
  · exact absurd h1 he
  · exact ⟨h3.symm, h1.symm, h2.symm⟩
theorem com_ok {A A2 : AM} {R0 : List Int} {ts th : Tr} {M : Wrs} {S : Kvs} {hd i e : Int} {en : Bool} (hC : ComA A R0 ts th M S hd A2 i e en) (he : ¬ e ≠ 0) : true = en ∧ TOp A A2 R0 i (wAll (wWork th M) th) (wSum (wWork th M) th) ∧ (wWork th M = [] → i = hd) := by
  have he := Classical.not_not.1 he
  rcases hC with ⟨_, h1, _⟩ | ⟨_, ⟨_, h1, _, h2, h3⟩ | ⟨h1, _⟩⟩
  · rw [he] at h1; cases h1
  · exact ⟨h1.symm, h2, h3⟩
  · rw [he] at h1; cases h1
structure HdI (rt : Int) (t1 : Tr) (n0 k F : Nat) (B : AM) (hd : Int) (th : Tr) : Prop where
  ref : ARf B [hd, rt]
  is : Is B th hd
  ok : th.ok
  srt : Srt th.ls
  n : th.n ≤ n0 + k
  old : Is B t1 rt
  fr : (F : Int) ≤ B.s.free
theorem HdI.step {rt : Int} {t1 th : Tr} {n0 k F I c : Nat} {B B2 C : AM} {hd j k1 v1 : Int} (h : HdI rt t1 n0 k (F + I) B hd th) (hT : TOp B B2 [hd, rt] j (Tr.ins k1 v1 th) c) (hc : c ≤ I) (hR : Rl B2 C [j, rt]) : HdI rt t1 n0 (k + 1) F C j (Tr.ins k1 v1 th) := by
  refine ⟨hR.ref, hR.kp.is j (by simp) _ hT.is, Tr.ins_ok _ _ _ h.ok, by rw [Tr.ins_ls _ _ _ h.srt]; exact lins_srt h.srt, ?_, hR.kp.is rt (by simp) _ (hT.kp.is rt (by simp) _ h.old), ?_⟩
  · have h1 := Tr.ins_n k1 v1 th
    have h2 := h.n
    split at h1 <;> omega
  · have h1 := hT.fr; have h2 := hR.fr; have h3 := h.fr
    omega
set_option maxHeartbeats 4000000 in
set_option maxRecDepth 8192 in
theorem law_tcm {g w : World} {L : List HP} (l ed : Kvs) (u ea : Option Addr) (d ec : Nat) (q fr : Int) (ls : List (Int × Int × Int × Int)) (la : Option Addr) (lc : Nat) (hq : 0 ≤ q ∧ q ≤ 18446744073709551615) (hfr : 0 ≤ fr ∧ fr ≤ 65535) (hls : ∀ z ∈ ls, i64R z.1 ∧ i64R z.2.1 ∧ i64R z.2.2.1 ∧ i64R z.2.2.2) (hll : ls.length ≤ maxLen) (hel9 : ed.length ≤ maxLen) (hS : St g (Sh 121 2 (en2 l) u d :: Sh 121 2 (en2 ed) ea ec :: Sh 89 4 (ch4 ls) la lc :: L) w) :
    Sp Tryz.prog 8 [.slice u (List.length (en2 l)) d, .slice ea (List.length (en2 ed)) ec, .int .u64 q, .slice la (List.length (ch4 ls)) lc, .int .u16 fr] w (fun v w' => v = .bool true ∧ St g (L) w') := by
  refine Sp.enter Tryz.func8 rfl (by kernel_rfl) (by kernel_rfl) ?_
  have _ := hq
  refine WC.seq <| WC.region <| WL.r 1 rfl <| WL.nil <| WC.seq <| WC.region ?_
  have hel := ch4_len ls; have hmx0 : ls.length ≤ 9223372036854775807 := hll; have hmx1 : ed.length ≤ 9223372036854775807 := hel9; have hed := en2_len ed
  refine WL.r 1 rfl <| WL.call rfl rfl (kt_list (most := 50) (hm := (by omega)) (hS := hS)) rfl ?_
  clear hS; rintro _ w ⟨a1, c1, rfl, hS⟩
  replace hS := hS.n4 L (a0 := Own 121 2 (en2 (mkL l 50)) a1 c1) rfl
  refine WL.r 1 rfl <| WL.nil <| WC.seq <| WC.region ?_
  have hml := mkL_srt l 50; have hmn := en2_len (mkL l 50); obtain ⟨ne, hne, hne6⟩ : ∃ ne : Nat, min ((List.length (en2 ed) : Nat) : Int) 6 = (ne : Int) ∧ ne ≤ 6 := ⟨(min ((List.length (en2 ed) : Nat) : Int) 6).toNat, by omega, by omega⟩; have hned : ne ≤ ed.length := (by omega)
  refine WL.r 3 rfl <| WL.reb 42 (.int .i64 (ne : Int)) (congrArg (Value.int .i64) (by exact hne)) ?_
  refine WL.r 1 rfl <| WL.nil <| WC.seq <| WC.region ?_
  have hmxa := Tr.mxH_le ((((List.length (en2 (mkL l 50)) : Nat) : Int) + (ne : Int) + 20).toNat); have hmxb := mx60 ((mkL l 50).length + ne + 1) (by omega); obtain ⟨X, hX1, hX2, hX3⟩ := spr ne (Tr.mxH ((mkL l 50).length + ne + 1)) hne6 hmxb
  replace hS := (hS.at_ 0 rfl).share
  replace hS := hS.n4 L (a0 := Sh 121 2 (en2 (mkL l 50)) a1 c1) rfl
  refine WL.reb 11 (.slice a1 (en2 (mkL l 50)).length c1) rfl <| WL.r 4 rfl <| WL.nw 46 rfl (w64 (by omega)) ?_
  refine WL.call rfl rfl (r8_apply (n := (List.length (en2 (mkL l 50)) : Int) + (ne : Int)) (m := 20) (hn := (by omega)) (hm := (by decide)) (hS := hS)) rfl ?_
  clear hS; rintro _ w ⟨rfl, hS⟩
  replace hS := hS.n4 L rfl
  refine WL.r 1 rfl <| WL.nil ?_
  as_aux_lemma =>
  refine WC.seq <| WC.region <| WL.r 4 rfl <| WL.call rfl rfl (spare26 (n := fr) (need := ((List.length (en2 (mkL l 50)) : Int) + (ne : Int)) + 20 + 4 * ((Tr.mxH (((List.length (en2 (mkL l 50)) : Int) + (ne : Int)) + 20).toNat : Int) + 2)) (hn := hfr) (hd := (by omega)) (hS := hS)) rfl ?_
  clear hS; rintro _ w ⟨s1, rfl, hS, f1⟩
  replace hS := hS.n4 L rfl
  refine WL.r 2 rfl <| WL.nw 55 rfl (w64 (by omega)) ?_
  refine WL.r 4 rfl <| WL.reb 59 (.int .i64 (((List.length (mkL l 50)) + ne : Nat) : Int)) (congrArg (Value.int .i64) (by rw [w64 (by omega)]; omega)) ?_
  refine WL.call rfl rfl (r8_ins (n := ((List.length (mkL l 50)) + ne : Nat)) (hn := (by omega)) (hS := hS)) rfl ?_
  clear hS; rintro _ w ⟨rfl, hS⟩
  replace hS := hS.n4 L rfl
  refine WL.r 1 rfl <| WL.reb 61 (.int .i64 (X : Int)) (congrArg (Value.int .i64) (by rw [hX1, w64 (by omega)])) ?_
  refine WL.r 1 rfl <| WL.nw 62 rfl (w64 (by omega)) ?_
  refine WL.call rfl rfl (kt_grow (l := mkL l 50) (q := q) (sp := s1 + (X : Int)) (hl := (by omega)) (hs := (by omega)) (hq := (by omega)) (hS := hS)) rfl ?_
  clear hS; rintro _ w ⟨a2, A1, i1, t1, rfl, hS, f2, f3, f4, f5, f6⟩
  replace hS := hS.n5 L (a0 := Arn a2 A1) rfl
  refine WL.r 7 rfl <| WL.nil <| WC.seq <| WC.seq <| WC.region <| WL.call rfl rfl (awake26_spec   (hS := hS)) rfl ?_
  clear hS; rintro _ w ⟨rfl, hS⟩
  replace hS := hS.n5 L rfl
  refine WL.r 2 rfl <| WL.ung rfl rfl rfl <| WL.r 1 rfl <| WL.ung rfl rfl rfl <| WL.r 3 rfl <| WL.ung rfl rfl rfl <| WL.r 1 rfl <| WL.ung rfl rfl rfl <| WL.r 1 rfl <| WL.ung rfl rfl rfl <| WL.r 2 rfl <| WL.nil ?_
  as_aux_lemma =>
  refine WC.ifP rfl (fun hbig => ?_) (fun hbig => ?_)
  · refine WC.seq <| WC.region <| WL.call rfl rfl (awake26_spec   (hS := hS)) rfl ?_
    clear hS; rintro _ w ⟨rfl, hS⟩
    replace hS := hS.n5 L rfl
    refine WL.r 1 rfl <| WL.ung rfl rfl rfl <| WL.r 3 rfl <| WL.nil <| WC.ret ?_
    refine ⟨[.bool true], rfl, ?_⟩
    replace hS := (hS.sel 5 [] rfl)
    exact ⟨rfl, hS⟩
  · refine WC.skip <| WC.seq <| WC.region ?_
    have htn : t1.n ≤ 50 := (by rw [← Tr.ls_len, f5]; exact hml.2); have hts : Srt t1.ls := (by rw [f5]; exact hml.1); have hlt := Tr.ls_len t1
    refine WL.r 2 rfl <| WL.call rfl rfl (tx_begin (R := [i1]) (i := i1) (hA := f2) (hi := f3.ref) (hz := (by simp)) (hS := hS)) rfl ?_
    clear hS; rintro _ w ⟨x1, rfl, hS, f7⟩
    replace hS := hS.n6 L (a0 := Tx x1 a2 i1 [] 0 []) (a1 := Arn a2 (A1.ret i1)) rfl
    refine WL.r 5 rfl <| WL.nil <| WC.seq <| WC.seq <| WC.region <| WL.r 2 rfl <| WL.rG 4 rfl (fun j => ?_)
    refine WL.nil <| WC.ifF rfl (by rfl) ?_
    refine WC.skip <| WC.seq <| WC.region <| WL.reb 11 (.slice a1 (en2 t1.ls).length c1) (congrArg (fun z : Kvs => Value.slice a1 (en2 z).length c1) f5.symm) <| WL.r 1 rfl <| WL.call rfl rfl (r26_begin (l := t1.ls) (sa := a1) (sc := c1)  (hS := hS)) rfl ?_
    clear hS; rintro _ w ⟨rfl, hS⟩
    replace hS := hS.n6 L rfl
    refine WL.new rfl rfl zv_100 hS (fun b1 w hS => ?_)
    refine WL.stF rfl rfl rfl 0 hS rfl rfl rfl rfl rfl ag_100 (fun w hS => ?_)
    replace hS := hS.n7 L (a0 := cel b1 #[.slice a1 (List.length (en2 t1.ls)) c1, .slice none 0 0, .slice none 0 0, .bool false] 100) rfl
    refine WL.nil ?_
    as_aux_lemma =>
    refine WC.seq <| WC.seq <| WC.region <| WL.r 1 rfl <| WL.nil <| WC.block ?_
    rw [← f5] at hS; replace hS := ((hS.nilS 106 2).nilS 219 3).sel 3 [2, 0, 0] rfl
    replace hS := hS.n9 L (a1 := Sh 219 3 (w3s (List.map wr3 [])) none 0) (a2 := Sh 106 2 (en2 []) none 0) (a3 := Tx x1 a2 i1 [] 0 (rdL [])) (a5 := Sh 121 2 (en2 t1.ls) a1 c1) rfl
    refine WC.loop [1, 3, 11, 12, 14, 15, 17, 19, 20] (fun kM vs w => ∃ (k : Nat) (xs : List WE) (qq : Nat) (M : Wrs) (R : Kvs) (wa ra : Option Addr) (wc rc : Nat), vs = [.slice ea (List.length (en2 ed)) ec, .slice la (List.length (ch4 ls)) lc, .slice a1 (List.length (en2 t1.ls)) c1, .int .i64 (ne : Int), .pointer (some ⟨a2, 0, none⟩), .int .u32 i1, .pointer (some ⟨x1, 0, none⟩), .pointer (some ⟨b1, 0, none⟩), .int .i64 (k : Int)] ∧ St g (cel b1 #[.slice a1 (List.length (en2 t1.ls)) c1, .slice wa (List.length (w3s (M.map wr3))) wc, .slice ra (List.length (en2 R)) rc, .bool false] 100 :: Sh 219 3 (w3s (M.map wr3)) wa wc :: Sh 106 2 (en2 R) ra rc :: Tx x1 a2 i1 xs qq (rdL R) :: Arn a2 (A1.ret i1) :: Sh 121 2 (en2 t1.ls) a1 c1 :: Sh 121 2 (en2 l) u d :: Sh 121 2 (en2 ed) ea ec :: Sh 89 4 (ch4 ls) la lc :: L) w ∧ (k ≤ ls.length) ∧ (PI k xs qq M R) ∧ (ls.length - k) = kM) ((List.length ls) - 0) ⟨0, [], 0, [], [], none, none, 0, 0, rfl, hS, (Nat.zero_le _), (PI.nil), rfl⟩ ?_
    clear hS; rintro _ _ w j ⟨k, xs, qq, M, R, wa, ra, wc, rc, rfl, hS, hk, hP, rfl⟩
    refine WC.seq <| WC.seq <| WC.region <| WL.r 4 rfl <| WL.nil <| WC.ifP rfl (fun cd1 => ?_) (fun cd1 => ?_)
    · refine WC.skip <| WC.seq <| WC.block <| WC.seq <| WC.tree (.two [0, 1, 2, 3, 4, 5] 6 [] (.one [7, 8, 9] 10 [0, 1, 2, 3, 4, 5, 7, 8, 9] (.one [] 11 [9] (.seg [12] .nil))) 10 [0, 1, 2, 3, 4, 5] (.one [] 6 [] (.one [7, 8, 9] 11 [9] (.seg [12] .nil)))) (by kernel_rfl) (by kernel_rfl) ?_
      obtain ⟨z, hz⟩ : ∃ z, ls[k]? = some z := ⟨_, List.getElem?_eq_getElem (by omega)⟩; have hzk := hls z (List.mem_of_getElem? hz)
      refine WQ.r 1 rfl <| WQ.ldF rfl rfl 0 hS rfl rfl ag_100 <| WQ.r 2 rfl <| WQ.ix rfl rfl (i := (k : Int)) (k) el_79 rfl rfl (by omega) (by omega) (hS.rdS 8 rfl (ch4_at hz)).1 ?_
      refine WQ.ldC rfl rfl [.int .i64 z.1, .int .i64 z.2.1, .int .i64 z.2.2.1, .int .i64 z.2.2.2] ag_89 rfl (hS.rdS 8 rfl (ch4_at hz)).2 <| WQ.nil ?_
      intro m1
      replace hS := hS.drewN m1; generalize hwm1 : World.drewN _ _ = w at *; clear hwm1
      refine ⟨?_, ?_⟩
      · refine WL.call rfl rfl (play26 (A := A1.ret i1) (RA := [i1, i1]) (t := t1) (n := k) (kd := z.1) (key := z.2.1) (va := z.2.2.1) (ot := z.2.2.2) (M := M) (hP := hP) (hn := (by omega)) (hA := f7) (hi9 := (f3.ret i1)) (hs := hts) (htn := (by omega)) (hkd := hzk.1) (hke := hzk.2.1) (hot := hzk.2.2.2) (hS := (hS.sel 6 [3, 3, 3, 1, 1, 0] rfl))) rfl ?_
        clear hS; rintro _ w ⟨xs1, q1, M1, R1, wa1, ra1, wc1, rc1, rfl, hS, f8⟩
        replace hS := hS.n9 L (a0 := Tx x1 a2 i1 xs1 q1 (rdL R1)) (a3 := Sh 219 3 (w3s (M1.map wr3)) wa1 wc1) (a4 := Sh 106 2 (en2 R1) ra1 rc1) rfl
        refine WL.nil ?_
        refine ⟨by exact trivial, ?_⟩
        refine WQ.r 3 rfl <| WQ.nil ?_
        intro m2
        replace hS := hS.drewN m2; generalize hwm2 : World.drewN _ _ = w at *; clear hwm2
        refine WL.new rfl rfl zv_100 hS (fun b2 w hS => ?_)
        refine WL.nil ?_
        refine ⟨by exact ⟨RQ.pure rfl rfl rfl rfl, RQ.ldF rfl rfl 6 hS rfl rfl ag_100 rfl rfl, RQ.pure rfl rfl rfl rfl, RQ.pure rfl rfl rfl rfl, RQ.ix rfl rfl (i := (k : Int)) (k) el_79 rfl rfl (by omega) (by omega) (hS.rdS 9 rfl (ch4_at hz)).1 rfl rfl, RQ.ldC rfl rfl [.int .i64 z.1, .int .i64 z.2.1, .int .i64 z.2.2.1, .int .i64 z.2.2.2] ag_89 rfl (hS.rdS 9 rfl (ch4_at hz)).2 rfl rfl, RQ.pure rfl rfl rfl rfl, RQ.pure rfl rfl rfl rfl, RQ.pure rfl rfl rfl rfl⟩, ?_⟩
        refine WQ.nil ?_
        intro m3
        replace hS := hS.drewN m3; generalize hwm3 : World.drewN _ _ = w at *; clear hwm3
        refine WL.stF rfl rfl rfl 0 hS rfl rfl rfl rfl rfl ag_100 (fun w hS => ?_)
        replace hS := hS.n10 L (a0 := cel b2 #[.slice a1 (List.length (en2 t1.ls)) c1, .slice wa1 (List.length (w3s (M1.map wr3))) wc1, .slice ra1 (List.length (en2 R1)) rc1, .bool false] 100) rfl
        refine WL.nil ?_
        refine ⟨by exact RQ.pure rfl rfl rfl rfl, ?_⟩
        refine WQ.r 1 rfl <| WQ.nil ?_
        intro m4
        replace hS := hS.drewN m4; generalize hwm4 : World.drewN _ _ = w at *; clear hwm4
        as_aux_lemma =>
        refine WC.seq <| WC.seq <| WC.region <| WL.r 2 rfl <| WL.nil <| WC.ifF rfl rfl <| WC.skip <| WC.region <| WL.ldF rfl rfl 0 hS rfl rfl ag_100 <| WL.stF rfl rfl rfl 6 hS rfl rfl rfl rfl rfl ag_100 (fun w hS => ?_)
        replace hS := hS.n10 L (a6 := cel b1 #[.slice a1 (List.length (en2 t1.ls)) c1, .slice wa1 (List.length (w3s (M1.map wr3))) wc1, .slice ra1 (List.length (en2 R1)) rc1, .bool false] 100) rfl
        refine WL.nil <| WC.region <| WL.r 2 rfl <| WL.nw 101 rfl (w64 (by omega)) ?_
        refine WL.r 1 rfl <| WL.nil ?_
        exact ⟨_, by omega, k + 1, xs1, q1, M1, R1, wa1, ra1, wc1, rc1, rfl, (hS.sel 7 [6, 4, 4, 1, 1, 1] rfl), (by omega), (f8), rfl⟩
      · refine WL.new rfl rfl zv_100 hS (fun b2 w hS => ?_)
        refine WL.nil ?_
        refine ⟨by exact ⟨RQ.pure rfl rfl rfl rfl, RQ.ldF rfl rfl 1 hS rfl rfl ag_100 rfl rfl, RQ.pure rfl rfl rfl rfl, RQ.pure rfl rfl rfl rfl, RQ.ix rfl rfl (i := (k : Int)) (k) el_79 rfl rfl (by omega) (by omega) (hS.rdS 9 rfl (ch4_at hz)).1 rfl rfl, RQ.ldC rfl rfl [.int .i64 z.1, .int .i64 z.2.1, .int .i64 z.2.2.1, .int .i64 z.2.2.2] ag_89 rfl (hS.rdS 9 rfl (ch4_at hz)).2 rfl rfl⟩, ?_⟩
        refine WQ.nil ?_
        intro m2
        replace hS := hS.drewN m2; generalize hwm2 : World.drewN _ _ = w at *; clear hwm2
        refine WL.call rfl rfl (play26 (A := A1.ret i1) (RA := [i1, i1]) (t := t1) (n := k) (kd := z.1) (key := z.2.1) (va := z.2.2.1) (ot := z.2.2.2) (M := M) (hP := hP) (hn := (by omega)) (hA := f7) (hi9 := (f3.ret i1)) (hs := hts) (htn := (by omega)) (hkd := hzk.1) (hke := hzk.2.1) (hot := hzk.2.2.2) (hS := (hS.sel 7 [4, 4, 4, 2, 2, 0, 0] rfl))) rfl ?_
        clear hS; rintro _ w ⟨xs1, q1, M1, R1, wa1, ra1, wc1, rc1, rfl, hS, f8⟩
        replace hS := hS.n10 L (a0 := Tx x1 a2 i1 xs1 q1 (rdL R1)) (a3 := Sh 219 3 (w3s (M1.map wr3)) wa1 wc1) (a4 := Sh 106 2 (en2 R1) ra1 rc1) (a5 := cel b2 #[.slice none 0 0, .slice none 0 0, .slice none 0 0, .bool false] 100) rfl
        refine WL.nil ?_
        refine ⟨by exact trivial, ?_⟩
        refine WQ.r 3 rfl <| WQ.nil ?_
        intro m3
        replace hS := hS.drewN m3; generalize hwm3 : World.drewN _ _ = w at *; clear hwm3
        refine WL.stF rfl rfl rfl 5 hS rfl rfl rfl rfl rfl ag_100 (fun w hS => ?_)
        replace hS := hS.n10 L (a5 := cel b2 #[.slice a1 (List.length (en2 t1.ls)) c1, .slice wa1 (List.length (w3s (M1.map wr3))) wc1, .slice ra1 (List.length (en2 R1)) rc1, .bool false] 100) rfl
        refine WL.nil ?_
        refine ⟨by exact RQ.pure rfl rfl rfl rfl, ?_⟩
        refine WQ.r 1 rfl <| WQ.nil ?_
        intro m4
        replace hS := hS.drewN m4; generalize hwm4 : World.drewN _ _ = w at *; clear hwm4
        as_aux_lemma =>
        refine WC.seq <| WC.seq <| WC.region <| WL.r 2 rfl <| WL.nil <| WC.ifF rfl rfl <| WC.skip <| WC.region <| WL.ldF rfl rfl 5 hS rfl rfl ag_100 <| WL.stF rfl rfl rfl 6 hS rfl rfl rfl rfl rfl ag_100 (fun w hS => ?_)
        replace hS := hS.n10 L (a6 := cel b1 #[.slice a1 (List.length (en2 t1.ls)) c1, .slice wa1 (List.length (w3s (M1.map wr3))) wc1, .slice ra1 (List.length (en2 R1)) rc1, .bool false] 100) rfl
        refine WL.nil <| WC.region <| WL.r 2 rfl <| WL.nw 101 rfl (w64 (by omega)) ?_
        refine WL.r 1 rfl <| WL.nil ?_
        exact ⟨_, by omega, k + 1, xs1, q1, M1, R1, wa1, ra1, wc1, rc1, rfl, (hS.sel 7 [6, 3, 3, 0, 0, 0] rfl), (by omega), (f8), rfl⟩
    · refine WC.exit <| WC.seq <| WC.region ?_
      replace hS : St g (Sh 121 2 (en2 t1.ls) a1 c1 :: cel b1 #[.slice a1 (List.length (en2 t1.ls)) c1, .slice wa (List.length (w3s (M.map wr3))) wc, .slice ra (List.length (en2 R)) rc, .bool false] 100 :: Sh 219 3 (w3s (M.map wr3)) wa wc :: Sh 106 2 (en2 R) ra rc :: Tx x1 a2 i1 xs qq (rdL R) :: Arn a2 (A1.ret i1) :: Sh 121 2 (en2 t1.ls) a1 c1 :: Sh 121 2 (en2 l) u d :: Sh 121 2 (en2 ed) ea ec :: Sh 89 4 (ch4 ls) la lc :: L) w := hS.dup 5 rfl fun _ _ h => Sh.dup h
      refine WL.r 4 rfl <| WL.nil <| WC.seq <| WC.seq <| WC.region <| WL.r 1 rfl <| WL.nil ?_
      as_aux_lemma =>
      refine WC.block <| WC.loop [1, 12, 14, 17, 19, 23, 24, 25] (fun kM vs w => ∃ (k2 : Nat) (B : AM) (hd : Int) (th : Tr) (nl : Kvs) (na : Option Addr) (nc : Nat), vs = [.slice ea (List.length (en2 ed)) ec, .int .i64 (ne : Int), .pointer (some ⟨a2, 0, none⟩), .pointer (some ⟨x1, 0, none⟩), .pointer (some ⟨b1, 0, none⟩), .int .u32 hd, .slice na (List.length (en2 nl)) nc, .int .i64 (k2 : Int)] ∧ St g (Sh 121 2 (en2 nl) na nc :: cel b1 #[.slice a1 (List.length (en2 t1.ls)) c1, .slice wa (List.length (w3s (M.map wr3))) wc, .slice ra (List.length (en2 R)) rc, .bool false] 100 :: Sh 219 3 (w3s (M.map wr3)) wa wc :: Sh 106 2 (en2 R) ra rc :: Tx x1 a2 i1 xs qq (rdL R) :: Arn a2 B :: Sh 121 2 (en2 t1.ls) a1 c1 :: Sh 121 2 (en2 l) u d :: Sh 121 2 (en2 ed) ea ec :: Sh 89 4 (ch4 ls) la lc :: L) w ∧ (k2 ≤ ne) ∧ (nl = th.ls) ∧ (HdI i1 t1 (mkL l 50).length k2 ((ne + 1 - k2) * (4 * (Tr.mxH ((mkL l 50).length + ne + 1) + 2))) B hd th) ∧ (ne - k2) = kM) (ne - 0) ⟨0, A1.ret i1, i1, t1, t1.ls, a1, c1, rfl, hS, (Nat.zero_le _), (rfl), (⟨f7, f3.ret i1, f4, hts, by rw [← hlt, f5]; exact Nat.le_refl _, f3.ret i1, by rw [(AM.ret_same _ _).1, Nat.sub_zero, ← hX3]; omega⟩), rfl⟩ ?_
      clear hS; rintro _ _ w j ⟨k2, B, hd, th, nl, na, nc, rfl, hS, hk2, hnl, hH, rfl⟩
      refine WC.seq <| WC.seq <| WC.region <| WL.r 3 rfl <| WL.nil <| WC.ifP rfl (fun cd2 => ?_) (fun cd2 => ?_)
      · refine WC.skip <| WC.seq <| WC.block <| WC.seq <| WC.region ?_
        obtain ⟨e, he⟩ : ∃ e, ed[k2]? = some e := ⟨_, List.getElem?_eq_getElem (by omega)⟩; have hHn := hH.n; have hmm := Tr.mxH_mono (a := th.n + 1) (b := (mkL l 50).length + ne + 1) (by omega); have hHf := hH.fr; have hsl := spr_le (n := ne) (k := k2) (I := 4 * (Tr.mxH ((mkL l 50).length + ne + 1) + 2)) (by omega); have hll2 := Tr.ls_len th
        refine WL.r 4 rfl <| WL.ix rfl rfl (i := (k2 : Int)) (k2) el_49 rfl rfl (by omega) (by omega) (hS.rdS 8 rfl (en2_at he)).1 ?_
        refine WL.ldC rfl rfl [.int .i64 e.1, .int .i64 e.2] ag_121 rfl (hS.rdS 8 rfl (en2_at he)).2 <| WL.call rfl rfl (up_ins (R := [hd, i1]) (i := hd) (k := e.1) (z := e.2) (t := th) (hA := hH.ref) (hi := hH.is) (hb := hH.ok) (hn := (by omega)) (hf := (by omega)) (hz := (by simp)) (hS := (hS.sel 6 [5, 0, 0, 0, 0, 0] rfl))) rfl ?_
        clear hS; rintro _ w ⟨A2, j1, rfl, hS, f8⟩
        replace hS := hS.n10 L (a0 := Arn a2 A2) rfl
        refine WL.r 9 rfl <| WL.nil <| WC.seq <| WC.seq <| WC.region <| WL.r 2 rfl <| WL.call rfl rfl (tr_rel (R := [j1, i1]) (i := hd) (hA := f8.ref.sw) (hR := (by simp)) (hS := hS)) rfl ?_
        clear hS; rintro _ w ⟨A3, f9, rfl, hS, f10, f11⟩
        replace hS := hS.n10 L (a0 := Arn a2 A3) rfl
        refine WL.r 5 rfl <| WL.nil ?_
        as_aux_lemma =>
        refine WC.seq <| WC.region <| WL.r 2 rfl <| WL.rG 4 rfl (fun j => ?_)
        refine WL.prop 145 rfl (bor (dd _) (dd _)) <| WL.nil <| WC.ifF rfl (decide_eq_false ((by decide))) ?_
        refine WC.skip <| WC.region <| WL.r 4 rfl <| WL.ix rfl rfl (i := (k2 : Int)) (k2) el_49 rfl rfl (by omega) (by omega) (hS.rdS 8 rfl (en2_at he)).1 ?_
        refine WL.ldC rfl rfl [.int .i64 e.1, .int .i64 e.2] ag_121 rfl (hS.rdS 8 rfl (en2_at he)).2 <| WL.call rfl rfl (ref_ins (k := e.1) (z := e.2) (hs := (by rw [hnl]; exact hH.srt)) (hl := (by rw [hnl]; omega)) (hS := (hS.sel 2 [1, 0] rfl))) rfl ?_
        clear hS; rintro _ w ⟨a3, c2, rfl, hS⟩
        replace hS := hS.n11 L (a0 := Own 121 2 (en2 (lins e.1 e.2 nl)) a3 c2) rfl
        refine WL.r 2 rfl <| WL.nil <| WC.region <| WL.r 2 rfl <| WL.nw 121 rfl (w64 (by omega)) ?_
        refine WL.r 1 rfl <| WL.nil ?_
        replace hS := (hS.at_ 0 rfl).share
        replace hS := hS.n11 L (a0 := Sh 121 2 (en2 (lins e.1 e.2 nl)) a3 c2) rfl
        exact ⟨_, by omega, k2 + 1, A3, j1, Tr.ins e.1 e.2 th, lins e.1 e.2 nl, a3, c2, rfl, (hS.sel 7 [0, 2, 2, 2, 2, 1] rfl), (by omega), (by rw [Tr.ins_ls _ _ _ hH.srt, hnl]), (HdI.step (by rw [← spr_up (by omega)]; exact hH) f8 (by omega) f10), rfl⟩
      · refine WC.exit <| WC.seq <| WC.region ?_
        subst hnl; have hHn := hH.n; have hll2 := Tr.ls_len th; have hrl := hP.rl; have hml2 := hP.ml; have hsl2 := rdL_le R; have hfrl := order_n hH.ref.s; have hor := hH.ref.s.free_rng; have hol := u32s_len (SM.order B.s); have hcr := cap_rng hH.ref; have hle9 := hH.ref.s.le; have hdn := AM.dmp_len B; have hcl9 := AM.cnt_live (A := B) hH.ref.s
        refine WL.r 1 rfl <| WL.call rfl rfl (ar_dump  (hA := hH.ref.toAWf) (hS := (hS.sel 6 [5, 0, 0, 0, 0, 0] rfl))) rfl ?_
        clear hS; rintro _ w ⟨a3, c2, a4, c3, rfl, hS⟩
        replace hS := hS.n12 L (a0 := Own 174 11 (sls (AM.dmp B)) a3 c2) (a1 := Own 64 1 (u32s (SM.order B.s)) a4 c3) (a3 := Sh 121 2 (en2 th.ls) na nc) rfl
        refine WL.new rfl rfl zv_62 hS (fun b2 w hS => ?_)
        refine WL.stF rfl rfl rfl 0 hS rfl rfl rfl rfl rfl ag_62 (fun w hS => ?_)
        replace hS := hS.n13 L (a0 := cel b2 #[.slice a3 (List.length (sls (AM.dmp B))) c2, .slice a4 (List.length (u32s (SM.order B.s))) c3] 62) rfl
        refine WL.nil <| WC.seq <| WC.region <| WL.r 2 rfl <| WL.call rfl rfl (tx_any (S := rdL R) (M := M) (R := [hd]) (hd := hd) (ts := t1) (th := th) (hW := hP.w) (hA := hH.ref.sw) (hts := hH.old) (hth := hH.is) (hss := hts) (hsh := hH.srt) (hok := hH.ok) (hn := (by omega)) (hm := (by omega)) (hSl := (by omega)) (hR := (by simp)) (hS := (hS.sel 9 [8, 3, 0, 0, 0, 0, 0, 0, 0] rfl))) rfl ?_
        clear hS; rintro _ w ⟨A2, i2, e1, en1, rfl, hS, f8⟩
        replace hS := hS.n13 L (a0 := Tz x1 a2 i1 (rdL R) en1) (a1 := Arn a2 A2) rfl
        refine WL.r 5 rfl <| WL.nil ?_
        as_aux_lemma =>
        refine WC.seq <| WC.seq <| WC.region <| WL.ldF rfl rfl 6 hS rfl rfl ag_100 <| WL.run 4 [.slice a4 (List.length (u32s (SM.order B.s))) c3] rfl (by exact hS.ld 2 rfl rfl) ?_
        refine WL.call rfl rfl (r26_fault (l := t1.ls) (M := M) (h := th.ls) (fr := (List.length (u32s (SM.order B.s)) : Int)) (hl := hts) (hh := hH.srt) (hs := hP.w.srt) (hll := (by omega)) (hhl := (by omega)) (hm := (by omega)) (hr := (by omega)) (hfr := (by omega)) (hS := (hS.sel 10 [9, 7, 7, 5, 0, 0, 0, 0, 0, 0] rfl))) rfl ?_
        clear hS; rintro _ w ⟨e2, rfl, hS, f9⟩
        replace hS := hS.n13 L rfl
        refine WL.r 1 rfl <| WL.nil <| WC.seq <| WC.region <| WL.r 3 rfl <| WL.nil <| WC.ifF rfl (decide_eq_false ((fun h => h (com_flt (A := B) hts hH.srt hP.w.srt f8 (by rw [hol, hfrl] at f9; exact f9))))) ?_
        refine WC.skip <| WC.seq <| WC.seq <| WC.region <| WL.r 2 rfl <| WL.nil <| WC.ifP rfl (fun hfe => ?_) (fun hfe => ?_)
        · refine WC.seq <| WC.plan [([0, 1, 2, 3, 5], some (4, [5])), ([], some (6, [])), ([7, 8, 9], some (10, [])), ([11, 12, 13, 14, 15], some (16, [14])), ([], some (17, [])), ([18, 19, 20], some (21, [])), ([22, 23, 24], none)] (by kernel_rfl) (by kernel_rfl) ?_
          obtain ⟨hA2, hi0, hen⟩ := com_err f8 hfe; subst hA2
          subst hi0
          subst hen
          refine WQ.r 3 rfl <| WQ.reb 174 (.bool true) (congrArg Value.bool (decide_eq_true (by decide))) ?_
          refine WQ.ung rfl rfl rfl <| WQ.r 1 rfl <| WQ.ung rfl rfl rfl <| WQ.ldF rfl rfl 6 hS rfl rfl ag_62 <| WQ.nil ?_
          intro m1
          replace hS := hS.drewN m1; generalize hwm1 : World.drewN _ _ = w at *; clear hwm1
          refine WL.ung rfl rfl rfl <| WL.call rfl rfl (ar_dump  (hA := hH.ref.toAWf) (hS := (hS.sel 6 [5, 0, 0, 0, 0, 0] rfl))) rfl ?_
          clear hS; rintro _ w ⟨a5, c4, a6, c5, rfl, hS⟩
          replace hS := hS.n15 L (a0 := Own 174 11 (sls (AM.dmp B)) a5 c4) (a1 := Own 64 1 (u32s (SM.order B.s)) a6 c5) (a2 := Arn a2 B) (a7 := Tz x1 a2 i1 (rdL R) false) rfl
          refine WL.nil ?_
          refine ⟨by exact RQ.ung rfl rfl rfl (RQ.ldF rfl rfl 8 hS rfl rfl ag_62 rfl rfl), ?_⟩
          refine WQ.nil ?_
          intro m2
          replace hS := hS.drewN m2; generalize hwm2 : World.drewN _ _ = w at *; clear hwm2
          refine WL.ung rfl rfl rfl ?_
          replace hS := (hS.at_ 0 rfl).share
          replace hS := hS.n15 L (a0 := Sh 174 11 (sls (AM.dmp B)) a5 c4) rfl
          replace hS := (hS.at_ 1 rfl).share
          replace hS := hS.n15 L (a0 := Sh 64 1 (u32s (SM.order B.s)) a6 c5) rfl
          replace hS := (hS.at_ 9 rfl).share
          replace hS := hS.n15 L (a0 := Sh 174 11 (sls (AM.dmp B)) a3 c2) rfl
          replace hS := (hS.at_ 10 rfl).share
          replace hS := hS.n15 L (a0 := Sh 64 1 (u32s (SM.order B.s)) a4 c3) rfl
          refine WL.call rfl rfl (same_dump (xs := AM.dmp B) (ys := AM.dmp B) (fs := SM.order B.s) (gs := SM.order B.s) (he := rfl) (hf := rfl) (hl := (by omega)) (hm := (by omega)) (hS := (hS.sel 4 [3, 2, 1, 0] rfl))) rfl ?_
          clear hS; rintro _ w ⟨rfl, hS⟩
          replace hS := hS.n11 L rfl
          refine WL.nil ?_
          refine ⟨by exact trivial, ?_⟩
          refine WQ.r 2 rfl <| WQ.ung rfl rfl rfl <| WQ.r 1 rfl <| WQ.nil ?_
          intro m3
          replace hS := hS.drewN m3; generalize hwm3 : World.drewN _ _ = w at *; clear hwm3
          refine WL.ung rfl rfl rfl <| WL.call rfl rfl (tz_abort1 (S := rdL R) (R := [hd]) (hA := hH.ref.sw) (hR := (by simp)) (hS := (hS.sel 6 [5, 0, 0, 0, 0, 0] rfl))) rfl ?_
          clear hS; rintro _ w ⟨A3, rfl, hS, f10⟩
          replace hS := hS.n11 L (a0 := Tz x1 a2 i1 (rdL R) true) (a1 := Arn a2 A3) rfl
          refine WL.nil ?_
          refine ⟨by exact trivial, ?_⟩
          refine WQ.ung rfl rfl rfl <| WQ.r 3 rfl <| WQ.reb 185 (.bool true) (congrArg Value.bool (decide_eq_true (by decide))) ?_
          refine WQ.ung rfl rfl rfl <| WQ.r 1 rfl <| WQ.ung rfl rfl rfl <| WQ.r 1 rfl <| WQ.nil ?_
          intro m4
          replace hS := hS.drewN m4; generalize hwm4 : World.drewN _ _ = w at *; clear hwm4
          refine WL.ung rfl rfl rfl <| WL.lit rfl rfl (u32s [hd]) el_32 hS (by exact ⟨rfl, rfl⟩) (u32s_ok _) rfl (Nat.le_of_ble_eq_true rfl) (fun b3 w hS => ?_)
          refine WL.nil ?_
          refine ⟨by exact RQ.ung rfl rfl rfl (RQ.pure rfl rfl rfl rfl), ?_⟩
          refine WQ.nil ?_
          intro m5
          replace hS := hS.drewN m5; generalize hwm5 : World.drewN _ _ = w at *; clear hwm5
          refine WL.ung rfl rfl rfl ?_
          replace hS := (hS.at_ 0 rfl).share
          replace hS := hS.n12 L (a0 := Sh 64 1 (u32s [hd]) (some ⟨b3, 0, none⟩) (List.length (u32s [hd]))) rfl
          refine WL.call rfl rfl (kt_sound2 (R := [hd]) (ra := some ⟨b3, 0, none⟩) (rc := List.length (u32s [hd])) (hA := f10.ref) (hRl := (by simp)) (hS := (hS.sel 3 [2, 0, 0] rfl))) rfl ?_
          clear hS; rintro _ w ⟨rfl, hS⟩
          replace hS := hS.n12 L rfl
          refine WL.nil ?_
          refine ⟨by exact trivial, ?_⟩
          refine WQ.r 2 rfl <| WQ.ung rfl rfl rfl <| WQ.r 1 rfl <| WQ.nil ?_
          intro m6
          replace hS := hS.drewN m6; generalize hwm6 : World.drewN _ _ = w at *; clear hwm6
          refine WL.ung rfl rfl rfl <| WL.call rfl rfl (tz_abort (S := rdL R)  (hS := (hS.sel 3 [2, 0, 0] rfl))) rfl ?_
          clear hS; rintro _ w ⟨rfl, hS⟩
          replace hS := hS.n12 L rfl
          refine WL.nil ?_
          refine ⟨by exact trivial, ?_⟩
          refine WQ.ung rfl rfl rfl <| WQ.r 3 rfl <| WQ.nil ?_
          intro m7
          replace hS := hS.drewN m7; generalize hwm7 : World.drewN _ _ = w at *; clear hwm7
          as_aux_lemma =>
          refine WC.ret ?_
          refine ⟨[.bool (decide (5 = 5))], rfl, ?_⟩
          replace hS := (hS.sel 12 [] rfl)
          exact ⟨rfl, hS⟩
        · refine WC.skip <| WC.seq <| WC.seq <| WC.region ?_
          obtain ⟨hen, hT, hid⟩ := com_ok f8 hfe; have hwn := lwA_len M th.ls
          refine WL.ldF rfl rfl 9 hS rfl rfl ag_100 <| WL.r 1 rfl <| WL.call rfl rfl (r26_over (l := t1.ls) (R := R) (M := M) (sa := a1) (ra := ra) (sc := c1) (rc := rc) (h := th.ls) (hs := hH.srt) (hm := (by omega)) (hl := (by omega)) (hS := (hS.sel 4 [1, 2, 0, 0] rfl))) rfl ?_
          clear hS; rintro _ w ⟨a5, c4, rfl, hS⟩
          replace hS := hS.n14 L (a2 := Sh 121 2 (en2 (lwA M th.ls)) a5 c4) rfl
          refine WL.r 1 rfl <| WL.call rfl rfl (same9 (xs := lwA M th.ls) (ys := th.ls) (hl := (by omega)) (hS := (hS.sel 3 [2, 1, 0] rfl))) rfl ?_
          clear hS; rintro _ w ⟨rfl, hS⟩
          replace hS := hS.n14 L rfl
          refine WL.rG 5 rfl (fun j => ?_)
          refine WL.prop 205 rfl (band (dd _) (dd _)) <| WL.nil ?_
          as_aux_lemma =>
          refine WC.ifF rfl (decide_eq_false ((fun h => h.2 (hid ((work_nil hH.srt hP.w.srt).1 h.1))))) <| WC.skip <| WC.seq <| WC.region ?_
          subst hen; have hwv : (wAll (wWork th M) th).ls = lwA M th.ls := (by rw [wAll_ls _ hH.srt, work_view hH.srt hP.w.srt])
          refine WL.r 2 rfl <| WL.call rfl rfl (tz_commit (hd := hd) (S := rdL R)  (hS := (hS.sel 6 [5, 0, 0, 0, 0, 0] rfl))) rfl ?_
          clear hS; rintro _ w ⟨rfl, hS⟩
          replace hS := hS.n14 L (a0 := Tz x1 a2 i1 (rdL R) true) rfl
          refine WL.r 5 rfl <| WL.nil <| WC.seq <| WC.plan [([0, 2, 3, 4], some (1, [2, 3, 4])), ([], some (5, [2])), ([], some (6, [])), ([7, 8, 9, 10], some (11, [8])), ([], some (12, [])), ([13, 14, 15, 16, 17, 18, 19], some (20, [])), ([21, 22, 23, 24, 25], some (26, [])), ([27, 28, 29, 30], none)] (by kernel_rfl) (by kernel_rfl) ?_
          refine WQ.r 2 rfl <| WQ.ldF rfl rfl 10 hS rfl rfl ag_100 <| WQ.r 1 rfl <| WQ.nil ?_
          intro m1
          replace hS := hS.drewN m1; generalize hwm1 : World.drewN _ _ = w at *; clear hwm1
          refine WL.call rfl rfl (ar_dump  (hA := hT.ref.toAWf) (hS := (hS.sel 7 [6, 0, 0, 0, 0, 0, 0] rfl))) rfl ?_
          clear hS; rintro _ w ⟨a6, c5, a7, c6, rfl, hS⟩
          replace hS := hS.n16 L (a0 := Own 174 11 (sls (AM.dmp A2)) a6 c5) (a1 := Own 64 1 (u32s (SM.order A2.s)) a7 c6) rfl
          refine WL.nil ?_
          refine ⟨by exact ⟨RQ.pure rfl rfl rfl rfl, RQ.ldF rfl rfl 12 hS rfl rfl ag_100 rfl rfl, RQ.pure rfl rfl rfl rfl⟩, ?_⟩
          refine WQ.nil ?_
          intro m2
          replace hS := hS.drewN m2; generalize hwm2 : World.drewN _ _ = w at *; clear hwm2
          refine WL.call rfl rfl (r26_over (l := t1.ls) (R := R) (M := M) (sa := a1) (ra := ra) (sc := c1) (rc := rc) (h := th.ls) (hs := hH.srt) (hm := (by omega)) (hl := (by omega)) (hS := (hS.sel 7 [6, 5, 0, 0, 0, 0, 0] rfl))) rfl ?_
          clear hS; rintro _ w ⟨a8, c7, rfl, hS⟩
          replace hS := hS.n17 L (a2 := Sh 121 2 (en2 (lwA M th.ls)) a8 c7) rfl
          refine WL.nil ?_
          refine ⟨by exact RQ.pure rfl rfl rfl rfl, ?_⟩
          refine WQ.nil ?_
          intro m3
          replace hS := hS.drewN m3; generalize hwm3 : World.drewN _ _ = w at *; clear hwm3
          replace hS := (hS.at_ 3 rfl).share
          replace hS := hS.n17 L (a0 := Sh 174 11 (sls (AM.dmp A2)) a6 c5) rfl
          refine WL.call rfl rfl (t7_tree (A := A2) (R := [i2, hd]) (fa := a7) (fc := c6) (i := i2) (t := wAll (wWork th M) th) (l := lwA M th.ls) (hA := hT.ref) (hi := hT.is) (hs := (by rw [hwv]; exact lwA_srt _ hH.srt)) (hb := wAll_ok _ hH.ok) (hl := hwv) (hS := (hS.sel 4 [0, 2, 0, 0] rfl))) rfl ?_
          clear hS; rintro _ w ⟨rfl, hS⟩
          replace hS := hS.n17 L rfl
          refine WL.nil ?_
          refine ⟨by exact trivial, ?_⟩
          refine WQ.r 1 rfl <| WQ.ung rfl rfl rfl <| WQ.r 1 rfl <| WQ.ung rfl rfl rfl <| WQ.r 1 rfl <| WQ.ung rfl rfl rfl <| WQ.r 1 rfl <| WQ.nil ?_
          intro m4
          replace hS := hS.drewN m4; generalize hwm4 : World.drewN _ _ = w at *; clear hwm4
          refine WL.ung rfl rfl rfl <| WL.lit rfl rfl (u32s [hd, i2]) el_32 hS (by exact ⟨rfl, rfl, rfl, rfl⟩) (u32s_ok _) rfl (Nat.le_of_ble_eq_true rfl) (fun b3 w hS => ?_)
          refine WL.nil ?_
          refine ⟨by exact RQ.ung rfl rfl rfl (RQ.pure rfl rfl rfl rfl), ?_⟩
          refine WQ.nil ?_
          intro m5
          replace hS := hS.drewN m5; generalize hwm5 : World.drewN _ _ = w at *; clear hwm5
          refine WL.ung rfl rfl rfl ?_
          replace hS := (hS.at_ 0 rfl).share
          replace hS := hS.n18 L (a0 := Sh 64 1 (u32s [hd, i2]) (some ⟨b3, 0, none⟩) (List.length (u32s [hd, i2]))) rfl
          refine WL.call rfl rfl (kt_sound2 (R := [hd, i2]) (ra := some ⟨b3, 0, none⟩) (rc := List.length (u32s [hd, i2])) (hA := hT.ref.sw) (hRl := (by simp)) (hS := (hS.sel 7 [6, 0, 0, 0, 0, 0, 0] rfl))) rfl ?_
          clear hS; rintro _ w ⟨rfl, hS⟩
          replace hS := hS.n18 L rfl
          refine WL.nil ?_
          refine ⟨by exact trivial, ?_⟩
          refine WQ.r 2 rfl <| WQ.ung rfl rfl rfl <| WQ.r 1 rfl <| WQ.ung rfl rfl rfl <| WQ.r 3 rfl <| WQ.reb 230 (.bool true) (congrArg Value.bool (decide_eq_true (by decide))) ?_
          refine WQ.ung rfl rfl rfl <| WQ.r 1 rfl <| WQ.nil ?_
          intro m6
          replace hS := hS.drewN m6; generalize hwm6 : World.drewN _ _ = w at *; clear hwm6
          refine WL.ung rfl rfl rfl <| WL.call rfl rfl (tz_spans (S := rdL R)  (hS := (hS.sel 8 [7, 0, 0, 0, 0, 0, 0, 0] rfl))) rfl ?_
          clear hS; rintro _ w ⟨rfl, hS⟩
          replace hS := hS.n18 L rfl
          refine WL.nil ?_
          refine ⟨by exact trivial, ?_⟩
          refine WQ.ung rfl rfl rfl <| WQ.r 1 rfl <| WQ.ung rfl rfl rfl <| WQ.r 3 rfl <| WQ.reb 236 (.bool true) (congrArg Value.bool (decide_eq_true (by decide))) ?_
          refine WQ.ung rfl rfl rfl <| WQ.r 1 rfl <| WQ.nil ?_
          intro m7
          replace hS := hS.drewN m7; generalize hwm7 : World.drewN _ _ = w at *; clear hwm7
          refine WL.ung rfl rfl rfl <| WL.call rfl rfl (tz_writes (S := rdL R)  (hS := hS)) rfl ?_
          clear hS; rintro _ w ⟨rfl, hS⟩
          replace hS := hS.n18 L rfl
          refine WL.nil ?_
          refine ⟨by exact trivial, ?_⟩
          refine WQ.ung rfl rfl rfl <| WQ.r 1 rfl <| WQ.ung rfl rfl rfl <| WQ.r 3 rfl <| WQ.nil ?_
          intro m8
          replace hS := hS.drewN m8; generalize hwm8 : World.drewN _ _ = w at *; clear hwm8
          as_aux_lemma =>
          refine WC.ret ?_
          refine ⟨[.bool (decide (0 = 0))], rfl, ?_⟩
          replace hS := (hS.sel 18 [] rfl)
          exact ⟨rfl, hS⟩
end Go.Proofs.YtbeacjcmdijdmaaGreat
/-! ## Argp -/
namespace Go.Proofs.YtbeacjcmdijdmaaGreat
open Go Go.V Go.RowKit
set_option maxRecDepth 100000
section
variable {H : Type} {enc : TypeId × Value → H} {w : World} {cs : List Value}
theorem rd_int (h : Rdc enc Tryz.prog w 3 cs) : ∃ n, cs = [.int .i64 n] ∧ (-9223372036854775808 ≤ n ∧ n ≤ 9223372036854775807) := by
  obtain ⟨n, h1, h2, h3⟩ := h.int (k := .i64) (by kernel_rfl)
  exact ⟨n, h1, h2, h3⟩
theorem one1 {x : List Value} {v : Value} (h : x = [v]) (h1 : v.oneCell' = true) : x.length = 1 ∧ ∀ u ∈ x, u.oneCell' = true := by
  subst h; exact ⟨rfl, fun u hu => by simp at hu; subst hu; exact h1⟩
end
end Go.Proofs.YtbeacjcmdijdmaaGreat
/-! ## Argv -/
namespace Go.Proofs.YtbeacjcmdijdmaaGreat
open Go Go.V Go.RowKit
set_option maxRecDepth 100000
theorem rdf_121 {H : Type} {enc : TypeId × Value → H} {w : World} {cs : List Value} (h : Rdc enc Tryz.prog w 121 cs) : ∃ c0 c1 : Value, cs = [c0, c1] ∧ Rdc enc Tryz.prog w 2 [c0] ∧ Rdc enc Tryz.prog w 2 [c1] := by
  obtain ⟨hl, hf⟩ := Rdc.struct h Tryz.underlying121
  rw [show Tryz.prog.cellsOf 121 = 2 by kernel_rfl] at hl
  match cs, hl with
  | [c0, c1], _ =>
    have f0 : Rdc enc Tryz.prog w 2 (([c0, c1].drop 0).take (Tryz.prog.cellsOf 2)) := hf 0 _ rfl
    rw [show Tryz.prog.cellsOf 2 = 1 by kernel_rfl] at f0
    have f1 : Rdc enc Tryz.prog w 2 (([c0, c1].drop 1).take (Tryz.prog.cellsOf 2)) := hf 1 _ rfl
    rw [show Tryz.prog.cellsOf 2 = 1 by kernel_rfl] at f1
    exact ⟨c0, c1, rfl, f0, f1⟩
section
variable {H : Type} {enc : TypeId × Value → H} {w : World} {cs : List Value}
theorem rd_i64 (h : Rdc enc Tryz.prog w 2 cs) : ∃ n, cs = [.int .i64 n] ∧ Ir n := by
  obtain ⟨n, h1, h2, h3⟩ := h.int (k := .i64) (by kernel_rfl)
  exact ⟨n, h1, h2, h3⟩
theorem rd_u64 (h : Rdc enc Tryz.prog w 23 cs) : ∃ n, cs = [.int .u64 n] ∧ 0 ≤ n ∧ n ≤ 18446744073709551615 := by
  obtain ⟨n, h1, h2, h3⟩ := h.int (k := .u64) (by kernel_rfl)
  exact ⟨n, h1, h2, h3⟩
theorem rd_ent (h : Rdc enc Tryz.prog w 121 cs) : ∃ x : Int × Int, cs = [.int .i64 x.1, .int .i64 x.2] ∧ Ir x.1 ∧ Ir x.2 := by
  obtain ⟨c0, c1, rfl, h0, h1⟩ := rdf_121 h
  obtain ⟨a, e0, w0⟩ := rd_i64 h0
  obtain ⟨b, e1, w1⟩ := rd_i64 h1
  cases e0; cases e1
  exact ⟨(a, b), rfl, w0, w1⟩
theorem rd_ents (h : Rdc enc Tryz.prog w 49 cs) : ∃ (l : List (Int × Int)) (a : Option Addr) (c : Nat), cs = [.slice a (en2 l).length c] ∧ (∀ x ∈ l, Ir x.1 ∧ Ir x.2) ∧ l.length ≤ maxLen ∧ ∀ e, Hw w (Sh e 2 (en2 l) a c) := by
  obtain ⟨a, c, ls, h1, h2, h3, h4⟩ := Rdc.slice (e := 121) (size := 2) h (by kernel_rfl) (by kernel_rfl) (by decide) (fun x hx => by
    obtain ⟨n, hn, _⟩ := rd_ent hx
    subst hn; exact ⟨rfl, fun u hu => by simp at hu; rcases hu with rfl | rfl <;> rfl⟩)
  obtain ⟨m, rfl, hm⟩ := map_of (fun x : Int × Int => [Value.int .i64 x.1, Value.int .i64 x.2]) (fun x => Ir x.1 ∧ Ir x.2) ls (fun x hx => by
    obtain ⟨n, hn, hb⟩ := rd_ent (h3 x hx)
    exact ⟨n, hn, hb⟩)
  exact ⟨m, a, c, h1, hm, by simpa using h2, h4⟩
end
end Go.Proofs.YtbeacjcmdijdmaaGreat
/-! ## Argt -/
namespace Go.Proofs.YtbeacjcmdijdmaaGreat
open Go Go.V Go.RowKit
set_option maxRecDepth 100000
theorem rdf_89 {H : Type} {enc : TypeId × Value → H} {w : World} {cs : List Value} (h : Rdc enc Tryz.prog w 89 cs) : ∃ c0 c1 c2 c3 : Value, cs = [c0, c1, c2, c3] ∧ Rdc enc Tryz.prog w 3 [c0] ∧ Rdc enc Tryz.prog w 2 [c1] ∧ Rdc enc Tryz.prog w 2 [c2] ∧ Rdc enc Tryz.prog w 2 [c3] := by
  obtain ⟨hl, hf⟩ := Rdc.struct h Tryz.underlying89
  rw [show Tryz.prog.cellsOf 89 = 4 by kernel_rfl] at hl
  match cs, hl with
  | [c0, c1, c2, c3], _ =>
    have f0 : Rdc enc Tryz.prog w 3 (([c0, c1, c2, c3].drop 0).take (Tryz.prog.cellsOf 3)) := hf 0 _ rfl
    rw [show Tryz.prog.cellsOf 3 = 1 by kernel_rfl] at f0
    have f1 : Rdc enc Tryz.prog w 2 (([c0, c1, c2, c3].drop 1).take (Tryz.prog.cellsOf 2)) := hf 1 _ rfl
    rw [show Tryz.prog.cellsOf 2 = 1 by kernel_rfl] at f1
    have f2 : Rdc enc Tryz.prog w 2 (([c0, c1, c2, c3].drop 2).take (Tryz.prog.cellsOf 2)) := hf 2 _ rfl
    rw [show Tryz.prog.cellsOf 2 = 1 by kernel_rfl] at f2
    have f3 : Rdc enc Tryz.prog w 2 (([c0, c1, c2, c3].drop 3).take (Tryz.prog.cellsOf 2)) := hf 3 _ rfl
    rw [show Tryz.prog.cellsOf 2 = 1 by kernel_rfl] at f3
    exact ⟨c0, c1, c2, c3, rfl, f0, f1, f2, f3⟩
section
variable {H : Type} {enc : TypeId × Value → H} {w : World} {cs : List Value}
theorem rd_u16 (h : Rdc enc Tryz.prog w 115 cs) : ∃ n, cs = [.int .u16 n] ∧ 0 ≤ n ∧ n ≤ 65535 := by
  obtain ⟨n, h1, h2, h3⟩ := h.int (k := .u16) (by kernel_rfl)
  exact ⟨n, h1, h2, h3⟩
theorem rd_act (h : Rdc enc Tryz.prog w 89 cs) : ∃ x : Int × Int × Int × Int, cs = [.int .i64 x.1, .int .i64 x.2.1, .int .i64 x.2.2.1, .int .i64 x.2.2.2] ∧ i64R x.1 ∧ i64R x.2.1 ∧ i64R x.2.2.1 ∧ i64R x.2.2.2 := by
  obtain ⟨c0, c1, c2, c3, rfl, h0, h1, h2, h3⟩ := rdf_89 h
  obtain ⟨a, e0, w0⟩ := rd_int h0
  obtain ⟨b, e1, w1⟩ := rd_i64 h1
  obtain ⟨c, e2, w2⟩ := rd_i64 h2
  obtain ⟨d, e3, w3⟩ := rd_i64 h3
  cases e0; cases e1; cases e2; cases e3
  exact ⟨(a, b, c, d), rfl, w0, w1, w2, w3⟩
theorem rd_acts (h : Rdc enc Tryz.prog w 79 cs) : ∃ (l : List (Int × Int × Int × Int)) (a : Option Addr) (c : Nat), cs = [.slice a (ch4 l).length c] ∧ (∀ x ∈ l, i64R x.1 ∧ i64R x.2.1 ∧ i64R x.2.2.1 ∧ i64R x.2.2.2) ∧ l.length ≤ maxLen ∧ ∀ e, Hw w (Sh e 4 (ch4 l) a c) := by
  obtain ⟨a, c, ls, h1, h2, h3, h4⟩ := Rdc.slice (e := 89) (size := 4) h (by kernel_rfl) (by kernel_rfl) (by decide) (fun x hx => by
    obtain ⟨n, hn, _⟩ := rd_act hx
    subst hn; exact ⟨rfl, fun u hu => by simp at hu; rcases hu with rfl | rfl | rfl | rfl <;> rfl⟩)
  obtain ⟨m, rfl, hm⟩ := map_of (fun x : Int × Int × Int × Int => [Value.int .i64 x.1, Value.int .i64 x.2.1, Value.int .i64 x.2.2.1, Value.int .i64 x.2.2.2]) (fun x => i64R x.1 ∧ i64R x.2.1 ∧ i64R x.2.2.1 ∧ i64R x.2.2.2) ls (fun x hx => by
    obtain ⟨n, hn, hb⟩ := rd_act (h3 x hx)
    exact ⟨n, hn, hb⟩)
  exact ⟨m, a, c, h1, hm, by simpa using h2, h4⟩
end
end Go.Proofs.YtbeacjcmdijdmaaGreat
/-! ## Jtc -/
namespace Go.Proofs.YtbeacjcmdijdmaaGreat
open Go Go.V Go.RowKit Go.ChangeShapes Go.WideShapes
set_option maxRecDepth 100000
theorem tcm_calls {H : Type} {enc : TypeId × Value → H} {W : World} {base : Nat} {args : List Value} (h : AOk enc Tryz.prog W base [49, 49, 23, 79, 115] args) :
    Calls Tryz.prog 8 args.toArray W fun e W' => e = .returned (.bool true) ∧ Below W.heap.size W W' := by
  obtain ⟨v0, vs0, rfl, k0, r0, h⟩ := h.cons
  obtain ⟨v1, vs1, rfl, k1, r1, h⟩ := h.cons
  obtain ⟨v2, vs2, rfl, k2, r2, h⟩ := h.cons
  obtain ⟨v3, vs3, rfl, k3, r3, h⟩ := h.cons
  obtain ⟨v4, vs4, rfl, k4, r4, h⟩ := h.cons
  obtain rfl := h.nil
  obtain ⟨l0, a0, c0, e0, _, _, s0⟩ := rd_ents r0
  obtain ⟨l1, a1, c1, e1, _, m1, s1⟩ := rd_ents r1
  obtain ⟨n2, e2, h2⟩ := rd_u64 r2
  obtain ⟨l3, a3, c3, e3, h3, m3, s3⟩ := rd_acts r3
  obtain ⟨n4, e4, h4⟩ := rd_u16 r4
  obtain rfl := okv_one (okv_slice k0 Tryz.underlying49) e0
  obtain rfl := okv_one (okv_slice k1 Tryz.underlying49) e1
  obtain rfl := okv_one (okv_int k2 Tryz.underlying23) e2
  obtain rfl := okv_one (okv_slice k3 Tryz.underlying79) e3
  obtain rfl := okv_one (okv_int k4 Tryz.underlying115) e4
  have hS := St.start W
  have hS := (s3 89).add hS
  have hS := (s1 121).add hS
  have hS := (s0 121).add hS
  exact law_calls (law_tcm l0 l1 a0 a1 c0 c1 n2 n4 l3 a3 c3 h2 h4 h3 m3 m1 hS)
theorem tcm_lifted (os : Os) (started : os.Started) (H : Type) (enc : TypeId × Value → H) :
    ReturnsInHanded {} Tryz.checked os 8 .any (Rows.txnCommitsSpec.pre6 enc Tryz.prog Tryz.f8 Rows.txnCommitsRow.domain false) (Rows.txnCommitsSpec.post enc Tryz.prog Tryz.f8 false true false false) := by
  refine returnsInHanded_of_change (C := Tryz.checked) (by kernel_rfl) started (by kernel_rfl) Tryz.func8
    (ChangeSpec.witness6 (enc := enc) (C := Tryz.checked) false ⟨#[], #[.slice none 0 0, .slice none 0 0, .int .u64 0, .slice none 0 0, .int .u16 0], []⟩ 8 (by kernel_rfl) (by kernel_rfl) (by kernel_rfl) (by kernel_rfl)) ?_
  intro W base args ds gs before hval0 hW _ _
  have hval : ∀ (j : Nat) t v, Tryz.f8.params[j]? = some t → args[j]? = some v → Value.okWide Tryz.prog W .any base t v := hval0
  have hW0 := hW
  obtain ⟨p, q, hA0, _⟩ := hW
  have hA : DataW.TrodAll enc Tryz.prog W 0 (fun _ => true) true Tryz.f8.params.toList args.toList ds p := hA0
  rw [Tryz.params8] at hA hval
  clear hA0 hval0
  have hc := tcm_calls (AOk.args hA hval)
  rw [Array.toArray_toList] at hc
  refine hc.mono fun e W' ⟨he, hb⟩ => ⟨_, he, ?_⟩
  refine law_post rfl hW0 (by kernel_rfl) ?_ (by kernel_rfl) Tryz.underlying4 ?_ hb
  · exact fun t ht => by
      simp only [Tryz.params8, List.mem_cons, List.not_mem_nil, or_false] at ht
      rcases ht with rfl | rfl | rfl | rfl | rfl <;> exact ⟨by kernel_rfl, of_decide_eq_true (by kernel_rfl)⟩
  · intro hd
    match ds, hd with
    | [d1, d2, d3, d4, d5], _ => exact ⟨rfl, rfl, rfl⟩
theorem tcm_holds : Rows.TxnCommitsSaid :=
  OpenClaim.holds_of_wide 8 Tryz.f8 rfl rfl rfl rfl rfl rfl rfl ⟨rfl, rfl, rfl, rfl, rfl⟩ rfl rfl rfl rfl rfl (by kernel_rfl) Tryz.func8 tcm_closed
    (of_decide_eq_true (by kernel_rfl)) (by unfold Func.isWrapper; first | (rw [if_pos (by decide +kernel)]; kernel_rfl) | (rw [if_neg (by decide +kernel)]; exact ⟨rfl, rfl⟩))
    (fun os started H enc _ => tcm_lifted os started H enc)
end Go.Proofs.YtbeacjcmdijdmaaGreat
