/-
  The engine, thirteenth part, no program: maps of the call's own.
  Conditions: none; every fact is proved from the library's own definitions.
-/
import Derived.Test.YtenkmjbghbegfaaDoorEnx
import Derived.MapKept
import Derived.WideLaws
namespace Go.V
open Go Go.RowKit

/-- t is a map type: its keys' type and what it is, its elements' type and zero value -/
structure MapT (P : Program) (t kt : TypeId) (d : TypeDesc) (et : TypeId) (z : Value) : Prop where
  und : P.underlying t = some (.map kt et)
  key : P.underlying kt = some d
  zero : ∃ i, P.info? et = some i ∧ i.zero = some z
theorem mtMk {P : Program} {t kt : TypeId} {d : TypeDesc} {et : TypeId} {z : Value} (h1 : P.underlying t = some (.map kt et)) (h2 : P.underlying kt = some d) (h : (P.info? et).map (fun i => i.zero) = some (some z)) : MapT P t kt d et z := by
  cases hi : P.info? et with
  | none => rw [hi] at h; cases h
  | some i => rw [hi] at h; exact ⟨h1, h2, ⟨i, hi, by simpa using h⟩⟩
/-- the entries -/
def mE (l : List (Value × Value × Nat)) : Array MapEntry := (l.map fun x => { key := x.1, val := x.2.1, born := x.2.2 }).toArray
@[simp] theorem mE_size (l : List (Value × Value × Nat)) : (mE l).size = l.length := by simp [mE]
@[simp] theorem mE_toList (l : List (Value × Value × Nat)) : (mE l).toList = l.map fun x => { key := x.1, val := x.2.1, born := x.2.2 } := by simp [mE]
theorem mE_nil : mE [] = #[] := rfl
/-- what a look-up gives -/
def lkV (r : Option (Nat × Value)) (z : Value) (ok : Bool) : Value := match ok, r with
  | true, some (_, u) => .tuple #[u, .bool true]
  | true, none => .tuple #[z, .bool false]
  | false, some (_, u) => u
  | false, none => z
/-- where a key stands -/
def mfind (d : TypeDesc) (k : Value) (l : List (Value × Value × Nat)) : Option (Option (Nat × Value)) := Instr.findNow d k (mE l).toList 0
theorem mfind_none {d : TypeDesc} {k : Value} (hk : MapKept.IsKey d k) {l : List (Value × Value × Nat)} (hl : ∀ x ∈ l, MapKept.IsKey d x.1) (h : ∀ x ∈ l, x.1 ≠ k) : mfind d k l = some none := by
  rcases MapKept.findNow_spec hk (mE l).toList 0 (fun x hx => by
    rw [mE_toList] at hx
    obtain ⟨y, hy, rfl⟩ := List.mem_map.1 hx
    exact hl y hy) with ⟨h1, _⟩ | ⟨j, e, _, h2, h3⟩
  · exact h1
  · rw [mE_toList, List.getElem?_map] at h2
    cases hj : l[j]? with
    | none => rw [hj] at h2; cases h2
    | some y =>
      rw [hj] at h2
      simp only [Option.map_some, Option.some.injEq] at h2
      subst h2
      exact absurd h3 (h y (List.mem_of_getElem? hj))
theorem mfind_some {d : TypeDesc} {k v : Value} {b i : Nat} (hk : MapKept.IsKey d k) {l : List (Value × Value × Nat)} (hl : ∀ x ∈ l, MapKept.IsKey d x.1) (h : l[i]? = some (k, v, b)) (hu : ∀ j, j < i → ∀ y, l[j]? = some y → y.1 ≠ k) : mfind d k l = some (some (i, v)) := by
  have aux : ∀ (l : List (Value × Value × Nat)) (i m : Nat), (∀ x ∈ l, MapKept.IsKey d x.1) → l[i]? = some (k, v, b) → (∀ j, j < i → ∀ y, l[j]? = some y → y.1 ≠ k) →
      Instr.findNow d k (l.map fun x => { key := x.1, val := x.2.1, born := x.2.2 }) m = some (some (m + i, v)) := by
    intro l
    induction l with
    | nil => intro i m _ h; simp at h
    | cons x l ih =>
      intro i m hl h hu
      obtain ⟨r, hr, hiff⟩ := MapKept.sameNow_of_keys hk (hl x (List.mem_cons_self ..))
      cases i with
      | zero =>
        simp only [List.getElem?_cons_zero, Option.some.injEq] at h
        subst h
        rw [hiff.2 rfl] at hr
        simp only [List.map_cons, Instr.findNow, hr, Nat.add_zero]
      | succ i =>
        have hne := hu 0 (by omega) x rfl
        cases r with
        | true => exact absurd (hiff.1 rfl).symm hne
        | false =>
          simp only [List.map_cons, Instr.findNow, hr]
          rw [ih i (m + 1) (fun y hy => hl y (List.mem_cons_of_mem _ hy)) (by simpa using h) (fun j hj y hy => hu (j + 1) (by omega) y (by simpa using hy))]
          congr 2; rw [Nat.add_assoc, Nat.add_comm 1 i]
  have := aux l i 0 hl h hu
  rw [Nat.zero_add] at this
  rw [mfind, mE_toList]; exact this
section
variable {P : Program} {T : Tab} [hT : TabOk P T] {n : Nat} {os l : List Oper} {K : Kt} {F : Fm} {w g : World} {L : List HP} {t kt et : TypeId} {d : TypeDesc} {z : Value} {b c : Nat} {es : Array MapEntry}
/-- make(map) -/
theorem WL.mkM {o : Oper} (hg : o.guard = none) (ho : o.op = .makeMap t none) (hS : St g L w) (hk : ∀ b w', St g (blk b (.map (mE []) 0) :: L) w' → WL P n os l K (updo F o.dst (.map (some b))) w') : WL P n os (o :: l) K F w := by
  refine WL.val hg (fun _ => ?_) (hk w.heap.size (w.alloc (.map #[] 0)) (hS.new _))
  simp [execOp, ho, Instr.makeMap, newObj]
  rfl
theorem run_lookup_m {k v : Value} {ok : Bool} {r : Option (Nat × Value)} (hM : MapT P t kt d et z) (hb : w.heap[b]? = some (.map es c)) (hk : MapKept.IsKey d k) (hf : Instr.findNow d k es.toList 0 = some r) (hv : lkV r z ok = v) : (Instr.lookup t (.map (some b)) k ok).run P w = .ok v w := by
  subst hv
  obtain ⟨i, i1, i2⟩ := hM.zero
  have hz : (zeroValue et).run P w = .ok z w := by simp [zeroValue, typeInfo, i1, i2]
  have h1 := MapKept.run_checkKey (w := w) hM.key hk es.isEmpty 9999
  have h2 := MapKept.run_findKey (w := w) hM.key hf
  unfold Instr.lookup
  simp only [Sem.run_bind, run_underlying hM.und, Result.andThen_ok, MapKept.run_getObj_map hb, Sem.run_pure, h1, h2]
  cases r with
  | none => cases ok <;> simp [hz, lkV]
  | some q => obtain ⟨j, u⟩ := q; cases ok <;> simp [lkV]
/-- m[k] -/
theorem WL.lk {o : Oper} {x y : Operand} {ok : Bool} {k v : Value} {r : Option (Nat × Value)} (hg : o.guard = none) (ho : o.op = .lookup t x y ok) (hM : MapT P t kt d et z) (i : Nat) (hS : St g L w) (hi : L[i]? = some (blk b (.map es c))) (hx : ev F x = .map (some b)) (hy : ev F y = k) (hkk : MapKept.IsKey d k) (hf : Instr.findNow d k es.toList 0 = some r) (hv : lkV r z ok = v)
    (hk : WL P n os l K (updo F o.dst v) w) : WL P n os (o :: l) K F w := by
  refine WL.val hg (fun hok => ?_) hk
  have e1 := okX_at (F := F) hok (x := x) (by simp [ho, Op.operands])
  have e2 := okX_at (F := F) hok (x := y) (by simp [ho, Op.operands])
  simp only [execOp, ho, e1, hx, e2, hy, Sem.run_bind, run_lookup_m hM (hS.heap i hi) hkk hf hv, Result.andThen_ok, Sem.run_pure]
/-- m[k] = v, a new key -/
theorem WL.muN {o : Oper} {x y q : Operand} {k v : Value} {m : List (Value × Value × Nat)} (hg : o.guard = none) (hd : o.dst = none) (ho : o.op = .mapUpdate t x y q) (hM : MapT P t kt d et z) (i : Nat) (hS : St g L w) (hi : L[i]? = some (blk b (.map (mE m) c))) (hx : ev F x = .map (some b)) (hy : ev F y = k) (hq : ev F q = v) (hkk : MapKept.IsKey d k) (hf : mfind d k m = some none)
    (hk : ∀ w', St g (L.set i (blk b (.map (mE (m ++ [(k, v, c)])) (c + 1)))) w' → WL P n os l K F w') : WL P n os (o :: l) K F w := by
  have hb := hS.heap i hi
  have hS' := ((hS.at_ i hi).setObj (ob' := .map (mE (m ++ [(k, v, c)])) (c + 1))).back i hi
  refine WL.unit hg hd (fun hok => ?_) (hk _ hS')
  have e1 := okX_at (F := F) hok (x := x) (by simp [ho, Op.operands])
  have e2 := okX_at (F := F) hok (x := y) (by simp [ho, Op.operands])
  have e3 := okX_at (F := F) hok (x := q) (by simp [ho, Op.operands])
  have h1 := MapKept.run_checkKey (w := w) hM.key hkk false 9999
  have h2 := MapKept.run_findKey (w := w) hM.key hf
  have h3 : (mE m).push { key := k, val := v, born := c } = mE (m ++ [(k, v, c)]) := by simp [mE]
  have hr : (Instr.mapUpdate t (.map (some b)) k v).run P w = .ok () { w with heap := w.heap.setIfInBounds b (.map (mE (m ++ [(k, v, c)])) (c + 1)) } := by
    unfold Instr.mapUpdate
    simp only [Sem.run_bind, run_underlying hM.und, Result.andThen_ok, MapKept.run_getObj_map hb, h1, h2, h3, MapKept.run_setObj_map _ hb]
  simp only [execOp, ho, e1, hx, e2, hy, e3, hq, Sem.run_bind, hr, Result.andThen_ok, Sem.run_pure]
/-- delete(m, k), a key that is there -/
theorem WL.del {o : Oper} {x y : Operand} {k v : Value} {j : Nat} {m : List (Value × Value × Nat)} (hg : o.guard = none) (ho : o.op = .call { callee := .builtin .delete, args := #[x, y], argTypes := #[t, kt] }) (hM : MapT P t kt d et z) (i : Nat) (hS : St g L w) (hi : L[i]? = some (blk b (.map (mE m) c))) (hx : ev F x = .map (some b)) (hy : ev F y = k) (hkk : MapKept.IsKey d k) (hf : mfind d k m = some (some (j, v))) (hj : j < m.length)
    (hk : ∀ w', St g (L.set i (blk b (.map (mE (m.eraseIdx j)) c))) w' → WL P n os l K (updo F o.dst (.tuple #[])) w') : WL P n os (o :: l) K F w := by
  have hb := hS.heap i hi
  have hS' := ((hS.at_ i hi).setObj (ob' := .map (mE (m.eraseIdx j)) c)).back i hi
  refine WL.val hg (fun hok => ?_) (hk _ hS')
  have e1 := okX_at (F := F) hok (x := x) (by simp [ho, Op.operands, Call.operands])
  have e2 := okX_at (F := F) hok (x := y) (by simp [ho, Op.operands, Call.operands])
  have h1 := MapKept.run_checkKey (w := w) hM.key hkk (mE m).isEmpty 9999
  have h2 := MapKept.run_findKey (w := w) hM.key hf
  have h3 : (mE m).eraseIdxIfInBounds j = mE (m.eraseIdx j) := by
    rw [Array.eraseIdxIfInBounds, dif_pos (by simpa using hj)]
    apply Array.ext'
    rw [Array.toList_eraseIdx, mE_toList, mE_toList]
    simp [List.eraseIdx_eq_take_drop_succ]
  have hr : (Builtin.delete_ #[t, kt] o.type #[.map (some b), k]).run P w = .ok (.tuple #[]) { w with heap := w.heap.setIfInBounds b (.map (mE (m.eraseIdx j)) c) } := by
    unfold Builtin.delete_
    simp only [List.getElem?_toArray, List.getElem?_cons_zero, List.getElem?_cons_succ, Sem.run_bind, run_underlying hM.und, Result.andThen_ok, MapKept.run_getObj_map hb, h1, h2, h3, MapKept.run_setObj_map _ hb, Sem.run_pure]
  simp only [execOp, ho, resolve, invoke, builtin, Sem.run_bind, Sem.run_pure, Result.andThen_ok, List.map_toArray, List.map_cons, List.map_nil, e1, e2, hx, hy, hr]
/-- len(m) -/
theorem WL.lenM {o : Oper} {x : Operand} (hg : o.guard = none) (ho : o.op = .call { callee := .builtin .len, args := #[x], argTypes := #[t] }) (hM : MapT P t kt d et z) (i : Nat) (hS : St g L w) (hi : L[i]? = some (blk b (.map es c))) (hx : ev F x = .map (some b))
    (hk : WL P n os l K (updo F o.dst (.int .i64 (es.size : Int))) w) : WL P n os (o :: l) K F w := by
  refine WL.val hg (fun hok => ?_) hk
  have e1 := okX_at (F := F) hok (x := x) (by simp [ho, Op.operands, Call.operands])
  have hr : (Builtin.len_ #[t] o.type #[.map (some b)]).run P w = .ok (.int .i64 (es.size : Int)) w := by
    simp [Builtin.len_, run_underlying hM.und, MapKept.run_getObj_map (hS.heap i hi), goInt]
  simp only [execOp, ho, resolve, invoke, builtin, Sem.run_bind, Sem.run_pure, Result.andThen_ok, List.map_toArray, List.map_cons, List.map_nil, e1, hx, hr]
end
/-! ### an operation whose guard was not performed itself -/
section
variable {P : Program} {T : Tab} [hT : TabOk P T] {n : Nat} {os l : List Oper} {K : Kt} {F : Fm} {w : World}
theorem wanted_un (hos : okL n os = true) {o : Oper} {i d : Nat} {b : Bool} (hg : o.guard = some (i, b)) (hs : gslot os i = some d) (hv : F d = undef) : Region.wanted o (yielded os.toArray (act n F).tmps) = false := by
  unfold Region.wanted
  simp only [hg]
  unfold gslot at hs
  rw [nth_eq] at hs
  cases hj : os[i]? with
  | none => simp [hj] at hs
  | some oj =>
    simp only [hj] at hs
    have hlt : d < n := by
      have h1 := okL_get os hos i oj hj
      simp only [okO, hs, okD, Bool.and_eq_true] at h1
      exact blt_iff.1 h1.2
    simp [yielded, hj, hs, act_get? n F d hlt, hv, undef]
theorem WL.skU {o : Oper} {i d : Nat} {b : Bool} (hg : o.guard = some (i, b)) (hs : gslot os i = some d) (hv : F d = undef) (h : WL P n os l K (updo F o.dst undef) w) : WL P n os (o :: l) K F w :=
  ⟨fun h1 h2 => by
    obtain ⟨_, h4⟩ := okL_cons h2
    have hw := wanted_un (F := F) h1 hg hs hv
    unfold wpList
    rw [if_neg (by rw [hw]; decide), act_put]
    exact h.go h1 h4⟩
theorem WQ.skU {K : Fm → Prop} {o : Oper} {i d : Nat} {b : Bool} (hg : o.guard = some (i, b)) (hs : gslot os i = some d) (hv : F d = undef) (h : WQ P n os l w K (updo F o.dst undef)) : WQ P n os (o :: l) w K F :=
  ⟨fun h1 h2 => by
    obtain ⟨_, h4⟩ := okL_cons h2
    have hw := wanted_un (F := F) h1 hg hs hv
    unfold wpQuiet
    rw [if_neg (by rw [hw]; decide), act_put]
    exact h.go h1 h4⟩
end
/-! ### string(b), quietly -/
section
variable {P : Program} {T : Tab} [hT : TabOk P T] {n : Nat} {os l : List Oper} {F : Fm} {w : World}
omit hT in
theorem run_toS {sT dT e : TypeId} {a : Option Addr} {c : Nat} {bs : List Int} (hs : P.underlying sT = some (.slice e)) (hd : P.underlying dT = some .string) (he : P.underlying e = some (.int .u8)) (hsrc : Src w 1 (by8 bs) a) (hb : B8 bs) : (convert sT dT (.slice a bs.length c)).run P w = .ok (.string (mkS bs)) w := by
  by_cases h0 : bs = []
  · subst h0
    cases a with
    | none => rw [run_convert_bytes_string w sT dT e none _ c hs he hd]; simp [Conv.bytesToString, mkS]; rfl
    | some ad =>
      have := run_convert_bytes_back (P := P) w sT dT e ad c [] hs he hd (fun j hj => by simp at hj)
      simpa [mkS] using this
  · obtain ⟨⟨b, off, rfl⟩, hc⟩ := hsrc.rd (by rw [by8_len]; exact List.length_pos_iff.2 h0)
    have hlen : (bs.map fun x => UInt8.ofNat x.toNat).length = bs.length := by simp
    have := run_convert_bytes_back (P := P) w sT dT e ⟨b, off, none⟩ c (bs.map fun x => UInt8.ofNat x.toNat) hs he hd (fun j hj => by
      have hj' : j < bs.length := by simpa using hj
      rw [show (⟨b, off, none⟩ : Addr).add j = ⟨b, off + j, none⟩ by unfold Addr.add; split <;> simp_all]
      have h5 := flat_at (by8 bs) 1 (by8_ok _).len j [.int .u8 bs[j]] 0 (by8_at (List.getElem?_eq_getElem hj')) (by simp)
      simp only [Nat.mul_one, Nat.add_zero] at h5
      have h6 := hc j (.int .u8 bs[j]) (by rw [h5]; rfl)
      rw [show bo (some ⟨b, off, none⟩) = b from rfl, show oo (some ⟨b, off, none⟩) = off from rfl] at h6
      rw [h6]
      have h7 := hb bs[j] (List.getElem_mem hj')
      congr 2
      simp only [List.getElem_map, UInt8.toNat_ofNat']
      rw [show bs[j].toNat % 2 ^ 8 = bs[j].toNat from Nat.mod_eq_of_lt (by omega)]
      omega)
    rw [hlen] at this
    exact this
theorem WQ.toS {K : Fm → Prop} {o : Oper} {sT dT e : TypeId} {x : Operand} {a : Option Addr} {c : Nat} {bs : List Int} (hg : o.guard = none) (ho : o.op = .convert sT dT x) (hs : P.underlying sT = some (.slice e)) (hd : P.underlying dT = some .string) (he : P.underlying e = some (.int .u8)) (hsrc : ∀ m, Src (w.drewN m) 1 (by8 bs) a) (hb : B8 bs) (hx : ev F x = .slice a (by8 bs).length c)
    (hk : WQ P n os l w K (updo F o.dst (.string (mkS bs)))) : WQ P n os (o :: l) w K F := by
  rw [by8_len] at hx
  refine WQ.val hg (fun hok m => ?_) hk
  have e1 := okX_at (F := F) hok (x := x) (by simp [ho, Op.operands])
  simp only [execOp, ho, e1, hx, Sem.run_bind, run_toS hs hd he (hsrc m) hb, Result.andThen_ok, Sem.run_pure]
theorem RQ.toS {o : Oper} {sT dT e : TypeId} {x : Operand} {a : Option Addr} {c d : Nat} {bs : List Int} (hg : o.guard = none) (ho : o.op = .convert sT dT x) (hs : P.underlying sT = some (.slice e)) (hd : P.underlying dT = some .string) (he : P.underlying e = some (.int .u8)) (hsrc : ∀ m, Src (w.drewN m) 1 (by8 bs) a) (hb : B8 bs) (hx : ev F x = .slice a (by8 bs).length c)
    (hdd : o.dst = some d) (hfd : F d = .string (mkS bs)) : RQ P n os w F o := by
  rw [by8_len] at hx
  refine RQ.val hg (fun hok m => ?_) hdd hfd
  have e1 := okX_at (F := F) hok (x := x) (by simp [ho, Op.operands])
  simp only [execOp, ho, e1, hx, Sem.run_bind, run_toS hs hd he (hsrc m) hb, Result.andThen_ok, Sem.run_pure]
end
/-! ### is a slice nil -/
section
variable {P : Program} {T : Tab} [hT : TabOk P T] {n : Nat} {os l : List Oper} {K : Kt} {F : Fm} {w g : World} {L : List HP} {e size bytes c m : Nat} {z : Array Value} {ls : List (List Value)} {a : Option Addr}
theorem WL.eqN {o : Oper} {t yt : TypeId} {x y : Operand} (hg : o.guard = none) (ho : o.op = .binOp .eql t x y yt) (hE : Elem P t e z size bytes) (hx : ev F x = .slice a m c) (hy : ev F y = .slice none 0 0)
    (hk : WL P n os l K (updo F o.dst (.bool a.isNone)) w) : WL P n os (o :: l) K F w := by
  refine WL.val hg (fun hok => ?_) hk
  have e1 := okX_at (F := F) hok (x := x) (by simp [ho, Op.operands])
  have e2 := okX_at (F := F) hok (x := y) (by simp [ho, Op.operands])
  have hE1 : ∀ d : Nat, (Op.equalIn (d + 1) t (.slice a m c) (.slice none 0 0)).run P w = .ok a.isNone w := fun d => by
    cases a <;> simp [Op.equalIn, run_underlying hE.und]
  have hE2 : (Op.equal t (.slice a m c) (.slice none 0 0)).run P w = .ok a.isNone w := hE1 9999
  have hG : (eqGuard .eql t x y (.slice a m c) (.slice none 0 0)).run P w = .ok () w := by
    have h0 : ∀ d : Nat, (Op.eqGuardIn (d + 1) t (.slice a m c) (.slice none 0 0)).run P w = .ok false w := fun d => by simp [Op.eqGuardIn, run_underlying hE.und]
    simp [eqGuard]
  simp only [execOp, ho, e1, e2, hx, hy, Sem.run_bind, hG, binOp, hE2, Result.andThen_ok, Sem.run_pure]
theorem St.nilLO (h : St g L w) (i : Nat) (hi : L[i]? = some (Own e size ls none c)) : ls = [] := by
  obtain ⟨_, _, ⟨_, h2⟩, _, _⟩ := h.get i hi
  rcases h2 with ⟨_, _, h3⟩ | ⟨_, _, h3, _⟩
  · exact h3
  · cases h3
theorem St.nilLS (h : St g L w) (i : Nat) (hi : L[i]? = some (Sh e size ls none c)) : ls = [] := by
  obtain ⟨_, _, ⟨_, _, h3⟩, _, _⟩ := h.get i hi
  cases ls with
  | nil => rfl
  | cons x l =>
    obtain ⟨_, _, _, _, _, h4, _⟩ := h3 (by simp)
    cases h4
end
/-! ### lists of words -/
def u64s (l : List Int) : List (List Value) := l.map fun x => [.int .u64 x]
@[simp] theorem u64s_len (l : List Int) : (u64s l).length = l.length := by simp [u64s]
theorem u64s_at {l : List Int} {k : Nat} {x : Int} (h : l[k]? = some x) : (u64s l)[k]? = some [.int .u64 x] := by simp [u64s, h]
theorem u64s_app (l m : List Int) : u64s (l ++ m) = u64s l ++ u64s m := by simp [u64s]
theorem u64s_drop (l : List Int) (k : Nat) : (u64s l).drop k = u64s (l.drop k) := by simp [u64s]
theorem u64s_take (l : List Int) (k : Nat) : (u64s l).take k = u64s (l.take k) := by simp [u64s]
theorem u64s_nil : u64s [] = [] := rfl
theorem u64s_snoc (l : List Int) (x : Int) : u64s l ++ [[.int .u64 x]] = u64s (l ++ [x]) := by simp [u64s]
theorem u64s_set (l : List Int) (k : Nat) (x : Int) : (u64s l).set k [.int .u64 x] = u64s (l.set k x) := by simp [u64s, List.map_set]
theorem u64s_ok (l : List Int) : OkE 1 (u64s l) := fun x hx => by
  obtain ⟨y, _, rfl⟩ := List.mem_map.1 hx
  exact ⟨rfl, fun u hu => by simp at hu; rcases hu with rfl <;> rfl⟩
/-! ### a bundle of things, a list of them for each of a list -/
def Buns {α : Type} (f : α → List HP) (zs : List α) : HP := ⟨fun o r => All (zs.flatMap f) o r, fun _ _ _ _ ho hr h => All.mono (zs.flatMap f) ho hr h⟩
section
variable {α : Type} {f : α → List HP} {zs : List α} {g w : World} {L : List HP}
theorem Buns.all {o r : Hp} (h : All (zs.flatMap f) o r) (M : List HP) {o2 : Hp} (hd : Dj o o2) {o' : Hp} (h1 : Sub o o') (h2 : Sub o2 o') (hM : All M o2 r) : All (Buns f zs :: M) o' r := ⟨o, o2, h1, h2, hd, h, hM⟩
theorem St.bunNil (h : St g L w) (f : α → List HP) : St g (Buns f [] :: L) w := by
  refine h.add fun o r => ?_
  exact trivial
/-- the bundle laid open -/
theorem St.bunOpen (h : St g (Buns f zs :: L) w) : St g (zs.flatMap f ++ L) w := by
  obtain ⟨o, r, a, b, c, d, o1, o2, h1, h2, hd, hh, hL⟩ := h.own
  exact ⟨h.os, h.tape, h.output, h.size, o, r, a, b, c, d, All.cat (zs.flatMap f) L h1 h2 hd hh hL⟩
theorem St.bunClose (h : St g (zs.flatMap f ++ L) w) : St g (Buns f zs :: L) w := by
  obtain ⟨o, r, a, b, c, d, e⟩ := h.own
  obtain ⟨o1, o2, h1, h2, hd, hM, hL⟩ := All.app (zs.flatMap f) L e
  exact ⟨h.os, h.tape, h.output, h.size, o, r, a, b, c, d, o1, o2, h1, h2, hd, hM, hL⟩
theorem flat_perm {k : Nat} {z : α} (hk : zs[k]? = some z) : (zs.flatMap f).Perm (f z ++ (zs.eraseIdx k).flatMap f) := by
  have h1 : zs = zs.take k ++ z :: zs.drop (k + 1) := by
    have hl := (List.getElem?_eq_some_iff.1 hk).1
    have h2 : zs[k] = z := (List.getElem?_eq_some_iff.1 hk).2
    rw [← h2, ← List.drop_eq_getElem_cons hl, List.take_append_drop]
  rw [List.eraseIdx_eq_take_drop_succ]
  conv => lhs; rw [h1]
  rw [List.flatMap_append, List.flatMap_cons, List.flatMap_append, ← List.append_assoc, ← List.append_assoc]
  exact List.Perm.append_right _ List.perm_append_comm
/-- one of the bundle -/
theorem St.bunGet (h : St g (Buns f zs :: L) w) {k : Nat} {z : α} (hk : zs[k]? = some z) : St g (f z ++ Buns f (zs.eraseIdx k) :: L) w := by
  have h1 := h.bunOpen
  have h2 : St g ((zs.eraseIdx k).flatMap f ++ (f z ++ L)) w := h1.perm (by
    refine (List.Perm.append_right L (flat_perm hk)).trans ?_
    rw [← List.append_assoc]
    exact List.Perm.append_right L List.perm_append_comm)
  exact h2.bunClose.perm (by
    have : ∀ (B : HP) (X : List HP), (B :: (X ++ L)).Perm (X ++ B :: L) := fun B X => (List.perm_middle (a := B) (l₁ := X) (l₂ := L)).symm
    exact this _ _)
/-- and back, another one -/
theorem St.bunPut {k : Nat} {z : α} (h : St g (f z ++ Buns f (zs.eraseIdx k) :: L) w) (hk : k < zs.length) : St g (Buns f (zs.set k z) :: L) w := by
  have h1 : St g (Buns f (zs.eraseIdx k) :: (f z ++ L)) w := h.perm List.perm_middle
  have h2 := h1.bunOpen
  refine (h2.perm ?_).bunClose
  have h3 : (zs.set k z)[k]? = some z := by simp [hk]
  have h4 := flat_perm (f := f) h3
  rw [show (zs.set k z).eraseIdx k = zs.eraseIdx k by rw [List.eraseIdx_set_eq]] at h4
  rw [← List.append_assoc]
  exact List.Perm.append_right L (List.perm_append_comm.trans h4.symm)
theorem St.bunBack {k : Nat} {z : α} (h : St g (f z ++ Buns f (zs.eraseIdx k) :: L) w) (hk : zs[k]? = some z) : St g (Buns f zs :: L) w := by
  have h1 := h.bunPut (List.getElem?_eq_some_iff.1 hk).1
  rwa [show zs.set k z = zs by rw [← (List.getElem?_eq_some_iff.1 hk).2]; exact List.set_getElem_self _] at h1
/-- one more, at the end -/
theorem St.bunSnoc {z : α} (h : St g (f z ++ Buns f zs :: L) w) : St g (Buns f (zs ++ [z]) :: L) w := by
  have h1 : St g (Buns f zs :: (f z ++ L)) w := h.perm List.perm_middle
  have h2 := h1.bunOpen
  refine (h2.perm ?_).bunClose
  rw [List.flatMap_append, List.flatMap_cons, List.flatMap_nil, List.append_nil, List.append_assoc]
end
end Go.V
