/-
  The engine, twelfth part, no program: parts of strings.
  Conditions: none; every fact is proved from the library's own definitions.
-/
import Derived.Test.YtenkmjbghbegfaaDoorQui
import Derived.Laws.Strings3
namespace Go.V
open Go Go.RowKit

theorem sb_extract (s : ByteArray) (a b : Nat) : sb (s.extract a b) = ((sb s).take b).drop a := by
  unfold sb
  rw [ByteArray.data_extract, Array.toList_extract, List.extract_eq_take_drop, ← List.map_take, ← List.map_drop, List.drop_take]
theorem mkS_extract (s : ByteArray) (a b : Nat) : s.extract a b = mkS (((sb s).take b).drop a) := by rw [← sb_extract, mkS_sb]
section
variable {P : Program} {T : Tab} [hT : TabOk P T] {n : Nat} {os l : List Oper} {K : Kt} {F : Fm} {w : World}
theorem run_slS {t : TypeId} {x : Value} {lo hi : Option Value} {v : Value} {w : World} (hu : P.underlying t = some .string) (h : (Instr.slice t x lo hi none).run P w = .ok v w) : (Instr.sliceAt t x lo hi none).run P w = .ok v w := by
  simp only [Instr.sliceAt, Sem.run_bind, run_underlying hu, Result.andThen_ok, h]
/-- s[:hi] -/
theorem WL.ssHi {o : Oper} {t : TypeId} {x y : Operand} {kk : IntKind} {v : Int} {s : ByteArray} (hg : o.guard = none) (ho : o.op = .slice t x none (some y) none) (hi : Nat) (hT : mem T.strs t = true) (hx : ev F x = .string s) (hy : ev F y = .int kk v) (hv : v = hi) (hle : hi ≤ s.size)
    (hk : WL P n os l K (updo F o.dst (.string (mkS ((sb s).take hi)))) w) : WL P n os (o :: l) K F w := by
  subst hv
  have hu : P.underlying t = some .string := Tab.str hT
  refine WL.val hg (fun hok => ?_) hk
  have e1 := okX_at (F := F) hok (x := x) (by simp [ho, Op.operands])
  have e2 := okX_at (F := F) hok (x := y) (by simp [ho, Op.operands])
  have hr := run_slS (v := .string (mkS ((sb s).take hi))) hu (by
    rw [run_slice_string_to_if w t s kk (hi : Int) hu, if_pos (by omega), mkS_extract]; simp)
  simp only [execOp, ho, e1, hx, Option.map_some, Option.map_none, e2, hy, Sem.run_bind, hr, Result.andThen_ok, Sem.run_pure]
/-- s[lo:] -/
theorem WL.ssLo {o : Oper} {t : TypeId} {x y : Operand} {kk : IntKind} {v : Int} {s : ByteArray} (hg : o.guard = none) (ho : o.op = .slice t x (some y) none none) (lo : Nat) (hT : mem T.strs t = true) (hx : ev F x = .string s) (hy : ev F y = .int kk v) (hv : v = lo) (hle : lo ≤ s.size)
    (hk : WL P n os l K (updo F o.dst (.string (mkS ((sb s).drop lo)))) w) : WL P n os (o :: l) K F w := by
  subst hv
  have hu : P.underlying t = some .string := Tab.str hT
  refine WL.val hg (fun hok => ?_) hk
  have e1 := okX_at (F := F) hok (x := x) (by simp [ho, Op.operands])
  have e2 := okX_at (F := F) hok (x := y) (by simp [ho, Op.operands])
  have hr := run_slS (v := .string (mkS ((sb s).drop lo))) hu (by
    rw [run_slice_string_from_if w t s kk (lo : Int) hu, if_pos (by omega), mkS_extract, List.take_of_length_le (by rw [sb_len]; exact Nat.le_refl _)]; simp)
  simp only [execOp, ho, e1, hx, Option.map_some, Option.map_none, e2, hy, Sem.run_bind, hr, Result.andThen_ok, Sem.run_pure]
/-- s[lo:hi] -/
theorem WL.ssLH {o : Oper} {t : TypeId} {x y y' : Operand} {kk kk' : IntKind} {v v' : Int} {s : ByteArray} (hg : o.guard = none) (ho : o.op = .slice t x (some y) (some y') none) (lo hi : Nat) (hT : mem T.strs t = true) (hx : ev F x = .string s) (hy : ev F y = .int kk v) (hv : v = lo) (hy' : ev F y' = .int kk' v') (hv' : v' = hi) (hlh : lo ≤ hi) (hle : hi ≤ s.size)
    (hk : WL P n os l K (updo F o.dst (.string (mkS (((sb s).take hi).drop lo)))) w) : WL P n os (o :: l) K F w := by
  subst hv; subst hv'
  have hu : P.underlying t = some .string := Tab.str hT
  refine WL.val hg (fun hok => ?_) hk
  have e1 := okX_at (F := F) hok (x := x) (by simp [ho, Op.operands])
  have e2 := okX_at (F := F) hok (x := y) (by simp [ho, Op.operands])
  have e3 := okX_at (F := F) hok (x := y') (by simp [ho, Op.operands])
  have hr := run_slS (v := .string (mkS (((sb s).take hi).drop lo))) hu (by
    rw [run_slice_string w t s kk kk' (lo : Int) (hi : Int) hu (by omega) (by omega) (by omega), mkS_extract]; simp)
  simp only [execOp, ho, e1, hx, Option.map_some, Option.map_none, e2, hy, e3, hy', Sem.run_bind, hr, Result.andThen_ok, Sem.run_pure]
end

section
variable {P : Program} {T : Tab} [hT : TabOk P T] {n : Nat} {os l : List Oper} {K : Fm → Prop} {F : Fm} {w g : World} {L : List HP} {e size bytes c : Nat} {z : Array Value} {ls : List (List Value)} {a : Option Addr}
theorem WQ.slLo {o : Oper} {t : TypeId} {x y : Operand} {kk : IntKind} {v : Int} (hg : o.guard = none) (ho : o.op = .slice t x (some y) none none) (i lo : Nat) (ms : List (List Value)) (hE : Elem P t e z size bytes) (hS : St g L w) (hi : L[i]? = some (Sh e size ls a c)) (hx : ev F x = .slice a ls.length c) (hy : ev F y = .int kk v) (hv : v = lo) (hle : lo ≤ ls.length) (hms : ls.drop lo = ms)
    (hk : ∀ a', cutA a c lo size = a' → St g (Sh e size ms a' (c - lo) :: L) w → WQ P n os l w K (updo F o.dst (.slice a' ms.length (c - lo)))) : WQ P n os (o :: l) w K F := by
  subst hms; subst hv
  have h0 := (hS.dup i hi (fun _ _ h => Sh.dup h)).impl (fun o r h => Sh_cut hle (Nat.le_refl _) h)
  rw [List.take_length] at h0
  have hk' := hk _ rfl h0
  rw [List.length_drop] at hk'
  refine WQ.val hg (fun hok m => ?_) hk'
  have e1 := okX_at (F := F) hok (x := x) (by simp [ho, Op.operands])
  have e2 := okX_at (F := F) hok (x := y) (by simp [ho, Op.operands])
  simp only [execOp, ho, e1, hx, Option.map_some, Option.map_none, e2, hy, Sem.run_bind, run_sliceAt hE _ _ lo ls.length ls.length (bounds_lo hle), Result.andThen_ok, Sem.run_pure]
theorem WQ.slHi {o : Oper} {t : TypeId} {x y : Operand} {kk : IntKind} {v : Int} (hg : o.guard = none) (ho : o.op = .slice t x none (some y) none) (i hi : Nat) (ms : List (List Value)) (hE : Elem P t e z size bytes) (hS : St g L w) (hi' : L[i]? = some (Sh e size ls a c)) (hx : ev F x = .slice a ls.length c) (hy : ev F y = .int kk v) (hv : v = hi) (hle : hi ≤ ls.length) (hms : ls.take hi = ms)
    (hk : ∀ a', cutA a c 0 size = a' → St g (Sh e size ms a' c :: L) w → WQ P n os l w K (updo F o.dst (.slice a' ms.length c))) : WQ P n os (o :: l) w K F := by
  subst hms; subst hv
  have h0 := (hS.dup i hi' (fun _ _ h => Sh.dup h)).impl (fun o r h => Sh_cut (Nat.zero_le _) hle h)
  rw [List.drop_zero, Nat.sub_zero] at h0
  have hk' := hk _ rfl h0
  rw [List.length_take, Nat.min_eq_left hle] at hk'
  obtain ⟨_, _, ⟨_, hc, _⟩, _, _⟩ := hS.get i hi'
  refine WQ.val hg (fun hok m => ?_) hk'
  have e1 := okX_at (F := F) hok (x := x) (by simp [ho, Op.operands])
  have e2 := okX_at (F := F) hok (x := y) (by simp [ho, Op.operands])
  have hr := run_sliceAt (P := P) (w := w.drewN m) (c := c) (a := a) hE none (some (.int kk (hi : Int))) 0 hi ls.length (bounds_hi (by omega))
  simp only [execOp, ho, e1, hx, Option.map_some, Option.map_none, e2, hy, Sem.run_bind, hr, Result.andThen_ok, Sem.run_pure, Nat.sub_zero]
theorem WQ.slLH {o : Oper} {t : TypeId} {x y y' : Operand} {kk kk' : IntKind} {v v' : Int} (hg : o.guard = none) (ho : o.op = .slice t x (some y) (some y') none) (i lo hi : Nat) (ms : List (List Value)) (hE : Elem P t e z size bytes) (hS : St g L w) (hi' : L[i]? = some (Sh e size ls a c)) (hx : ev F x = .slice a ls.length c) (hy : ev F y = .int kk v) (hv : v = lo) (hy' : ev F y' = .int kk' v') (hv' : v' = hi)
    (hlh : lo ≤ hi) (hle : hi ≤ ls.length) (hms : (ls.take hi).drop lo = ms)
    (hk : ∀ a', cutA a c lo size = a' → St g (Sh e size ms a' (c - lo) :: L) w → WQ P n os l w K (updo F o.dst (.slice a' ms.length (c - lo)))) : WQ P n os (o :: l) w K F := by
  subst hms; subst hv; subst hv'
  have h0 := (hS.dup i hi' (fun _ _ h => Sh.dup h)).impl (fun o r h => Sh_cut hlh hle h)
  have hk' := hk _ rfl h0
  rw [List.length_drop, List.length_take, Nat.min_eq_left hle] at hk'
  obtain ⟨_, _, ⟨_, hc, _⟩, _, _⟩ := hS.get i hi'
  refine WQ.val hg (fun hok m => ?_) hk'
  have e1 := okX_at (F := F) hok (x := x) (by simp [ho, Op.operands])
  have e2 := okX_at (F := F) hok (x := y) (by simp [ho, Op.operands])
  have e3 := okX_at (F := F) hok (x := y') (by simp [ho, Op.operands])
  have hr := run_sliceAt (P := P) (w := w.drewN m) (c := c) (a := a) hE (some (.int kk (lo : Int))) (some (.int kk' (hi : Int))) lo hi ls.length (bounds_lh hlh (by omega))
  simp only [execOp, ho, e1, hx, Option.map_some, Option.map_none, e2, hy, e3, hy', Sem.run_bind, hr, Result.andThen_ok, Sem.run_pure]
theorem RQ.slLo {o : Oper} {t : TypeId} {x y : Operand} {kk : IntKind} {v : Int} {a' : Option Addr} {ms : List (List Value)} {d : Nat} (hg : o.guard = none) (ho : o.op = .slice t x (some y) none none) (lo : Nat) (hE : Elem P t e z size bytes) (hx : ev F x = .slice a ls.length c) (hy : ev F y = .int kk v) (hv : v = lo) (hle : lo ≤ ls.length) (hms : ls.drop lo = ms) (ha : cutA a c lo size = a')
    (hd : o.dst = some d) (hfd : F d = .slice a' ms.length (c - lo)) : RQ P n os w F o := by
  subst hms; subst hv; subst ha
  rw [List.length_drop] at hfd
  refine RQ.val hg (fun hok m => ?_) hd hfd
  have e1 := okX_at (F := F) hok (x := x) (by simp [ho, Op.operands])
  have e2 := okX_at (F := F) hok (x := y) (by simp [ho, Op.operands])
  simp only [execOp, ho, e1, hx, Option.map_some, Option.map_none, e2, hy, Sem.run_bind, run_sliceAt hE _ _ lo ls.length ls.length (bounds_lo hle), Result.andThen_ok, Sem.run_pure]
theorem RQ.slHi {o : Oper} {t : TypeId} {x y : Operand} {kk : IntKind} {v : Int} {a' : Option Addr} {ms : List (List Value)} {d : Nat} (hg : o.guard = none) (ho : o.op = .slice t x none (some y) none) (i hi : Nat) (hE : Elem P t e z size bytes) (hS : St g L w) (hi' : L[i]? = some (Sh e size ls a c)) (hx : ev F x = .slice a ls.length c) (hy : ev F y = .int kk v) (hv : v = hi) (hle : hi ≤ ls.length) (hms : ls.take hi = ms) (ha : cutA a c 0 size = a')
    (hd : o.dst = some d) (hfd : F d = .slice a' ms.length c) : RQ P n os w F o := by
  subst hms; subst hv; subst ha
  rw [List.length_take, Nat.min_eq_left hle] at hfd
  obtain ⟨_, _, ⟨_, hc, _⟩, _, _⟩ := hS.get i hi'
  refine RQ.val hg (fun hok m => ?_) hd hfd
  have e1 := okX_at (F := F) hok (x := x) (by simp [ho, Op.operands])
  have e2 := okX_at (F := F) hok (x := y) (by simp [ho, Op.operands])
  have hr := run_sliceAt (P := P) (w := w.drewN m) (c := c) (a := a) hE none (some (.int kk (hi : Int))) 0 hi ls.length (bounds_hi (by omega))
  simp only [execOp, ho, e1, hx, Option.map_some, Option.map_none, e2, hy, Sem.run_bind, hr, Result.andThen_ok, Sem.run_pure, Nat.sub_zero]
theorem RQ.slLH {o : Oper} {t : TypeId} {x y y' : Operand} {kk kk' : IntKind} {v v' : Int} {a' : Option Addr} {ms : List (List Value)} {d : Nat} (hg : o.guard = none) (ho : o.op = .slice t x (some y) (some y') none) (i lo hi : Nat) (hE : Elem P t e z size bytes) (hS : St g L w) (hi' : L[i]? = some (Sh e size ls a c)) (hx : ev F x = .slice a ls.length c) (hy : ev F y = .int kk v) (hv : v = lo) (hy' : ev F y' = .int kk' v') (hv' : v' = hi) (hlh : lo ≤ hi) (hle : hi ≤ ls.length) (hms : (ls.take hi).drop lo = ms) (ha : cutA a c lo size = a')
    (hd : o.dst = some d) (hfd : F d = .slice a' ms.length (c - lo)) : RQ P n os w F o := by
  subst hms; subst hv; subst hv'; subst ha
  rw [List.length_drop, List.length_take, Nat.min_eq_left hle] at hfd
  obtain ⟨_, _, ⟨_, hc, _⟩, _, _⟩ := hS.get i hi'
  refine RQ.val hg (fun hok m => ?_) hd hfd
  have e1 := okX_at (F := F) hok (x := x) (by simp [ho, Op.operands])
  have e2 := okX_at (F := F) hok (x := y) (by simp [ho, Op.operands])
  have e3 := okX_at (F := F) hok (x := y') (by simp [ho, Op.operands])
  have hr := run_sliceAt (P := P) (w := w.drewN m) (c := c) (a := a) hE (some (.int kk (lo : Int))) (some (.int kk' (hi : Int))) lo hi ls.length (bounds_lh hlh (by omega))
  simp only [execOp, ho, e1, hx, Option.map_some, Option.map_none, e2, hy, e3, hy', Sem.run_bind, hr, Result.andThen_ok, Sem.run_pure]
end

/-! ### things that are shared, one bundle for each of a list -/
def Shs {α : Type} (f : α → List HP) (zs : List α) : HP := ⟨fun _ r => ∀ z ∈ zs, All (f z) (fun _ => none) r, fun _ _ _ _ _ hr h z hz => All.mono (f z) (Sub.refl _) hr (h z hz)⟩
section
variable {α : Type} {f : α → List HP} {zs : List α} {g w : World} {L : List HP}
theorem Dj.none (h : Hp) : Dj (fun _ => none) h := fun _ => .inl rfl
theorem St.shsNil (h : St g L w) (f : α → List HP) : St g (Shs f [] :: L) w := h.add fun _ _ => fun _ hz => by cases hz
/-- the bundle of one of them -/
theorem St.shsGet (h : St g L w) (i : Nat) {z : α} (hi : L[i]? = some (Shs f zs)) (hz : z ∈ zs) : St g (f z ++ L) w := by
  obtain ⟨o, r, a, b, c, d, e⟩ := h.own
  obtain ⟨o1, o2, h1, h2, hd, hh, hL⟩ := All.perm (perm_at hi) e
  exact ⟨h.os, h.tape, h.output, h.size, o, r, a, b, c, d, All.cat (f z) L (fun _ _ h => by cases h) (Sub.refl _) (Dj.none _) (hh z hz) e⟩
/-- a thing that owns nothing -/
def Sht (A : HP) : Prop := ∀ o r, A.h o r → A.h (fun _ => none) r
theorem Sht.sh {e size c : Nat} {ls : List (List Value)} {a : Option Addr} : Sht (Sh e size ls a c) := fun _ _ h => Sh.dup h
theorem Sht.shs : Sht (Shs f zs) := fun _ _ h => h
theorem All.none_of : ∀ (M : List HP) {o r : Hp}, (∀ A ∈ M, Sht A) → All M o r → All M (fun _ => none) r
  | [], _, _, _, _ => trivial
  | A :: M, _, _, hA, ⟨_, _, _, _, _, hh, hM⟩ => ⟨fun _ => none, fun _ => none, Sub.refl _, Sub.refl _, Dj.none _, hA A (List.mem_cons_self ..) _ _ hh, All.none_of M (fun B hB => hA B (List.mem_cons_of_mem _ hB)) hM⟩
/-- one bundle more -/
theorem St.shsCons (h : St g (Shs f zs :: L) w) {z : α} (hf : ∀ A ∈ f z, Sht A) (is : List Nat) (hp : Go.V.pick L is = some (f z)) : St g (Shs f (z :: zs) :: L) w := by
  obtain ⟨R, hR⟩ := St.sub_of is hp
  obtain ⟨o, r, a, b, c, d, o1, o2, h1, h2, hd, hh, hL⟩ := h.own
  have h3 := All.none_of (f z) hf (All.fst (f z) R (All.perm hR hL))
  exact ⟨h.os, h.tape, h.output, h.size, o, r, a, b, c, d, o1, o2, h1, h2, hd, fun y hy => by
    rcases List.mem_cons.1 hy with rfl | hy
    · exact h3
    · exact hh y hy, hL⟩
end
end Go.V
