/-
  The engine, in one text: Str, Num, Ext, Eq, Qui, Enx, Map, Arr, Row. No program.
  Conditions: none; every fact is proved from the library's own definitions.
-/
import Derived.Test.YtlnlnebibgdjdaaEga
import Derived.Laws.RangeString
import Derived.Laws.StructEq
import Derived.Laws.Strings3
import Derived.MapKept
import Derived.WideLaws
import Derived.ProofKit
import Derived.Deep.Slices
/-! ## Str -/
namespace Go.V
open Go Go.RowKit

section
variable {P : Program} {T : Tab} [hT : TabOk P T] {n : Nat} {os l : List Oper} {K : Kt} {F : Fm} {w g : World} {L : List HP} {e size bytes c : Nat} {z : Array Value} {ls ms : List (List Value)} {a : Option Addr}

theorem flat_drop : ∀ (ls : List (List Value)) (size : Nat), (∀ x ∈ ls, x.length = size) → ∀ k, k ≤ ls.length → (ls.drop k).flatten = ls.flatten.drop (k * size)
  | ls, size, _, 0, _ => by simp
  | [], size, _, k + 1, h => by simp at h
  | x :: r, size, hs, k + 1, h => by
    have := flat_drop r size (fun y hy => hs y (by simp [hy])) k (by simpa using h)
    rw [List.drop_succ_cons, this, List.flatten_cons]
    rw [show (k + 1) * size = x.length + k * size by rw [hs x (by simp), Nat.add_mul]; omega, List.drop_length_add_append]
theorem okE_drop {k : Nat} (h : OkE size ls) : OkE size (ls.drop k) := fun x hx => h x (List.mem_of_mem_drop hx)
theorem okE_take {k : Nat} (h : OkE size ls) : OkE size (ls.take k) := fun x hx => h x (List.mem_of_mem_take hx)
/-- the address of a part -/
def cutA (a : Option Addr) (c l size : Nat) : Option Addr := if c = l then a else a.map (·.add (l * size))
theorem Sh_cut {lo hi : Nat} (h1 : lo ≤ hi) (h2 : hi ≤ ls.length) {o r : Hp} (h : (Sh e size ls a c).h o r) : (Sh e size ((ls.take hi).drop lo) (cutA a c lo size) (c - lo)).h o r := by
  obtain ⟨q1, q2, q3⟩ := h
  have hl : ((ls.take hi).drop lo).length = hi - lo := by simp; omega
  refine ⟨okE_drop (okE_take q1), by rw [hl]; omega, fun hp => ?_⟩
  rw [hl] at hp
  obtain ⟨b, off, cur, t, fz, rfl, s2, s3⟩ := q3 (by omega)
  have hne : ¬ c = lo := by omega
  refine ⟨b, off + lo * size, cur, t, fz, ?_, s2, fun j u hj => ?_⟩
  · simp only [cutA, if_neg hne, Option.map_some]
    unfold Addr.add; split <;> simp_all
  · rw [Nat.add_assoc]
    apply s3
    rw [flat_drop _ size (okE_take q1).len lo (by simp; omega), List.getElem?_drop] at hj
    have h5 : (ls.take hi).flatten <+: ls.flatten := by
      rw [← List.take_append_drop hi ls, List.flatten_append]
      simp
    obtain ⟨t, ht⟩ := h5
    rw [← ht, List.getElem?_append_left (List.getElem?_eq_some_iff.1 hj).1]
    exact hj
theorem run_sliceAt {t : TypeId} (hE : Elem P t e z size bytes) (lo hi : Option Value) (l h m : Nat) (hb : (Instr.sliceBounds true m c lo hi none).run P w = .ok (l, h, c) w) :
    (Instr.sliceAt t (.slice a m c) lo hi none).run P w = .ok (.slice (cutA a c l size) (h - l) (c - l)) w := by
  obtain ⟨i, zv, i1, i2, i3, i4, i5⟩ := hE.info
  simp only [Instr.sliceAt, Instr.slice, Sem.run_bind, run_underlying hE.und, Result.andThen_ok, hb, run_sizeOf w ⟨i, i1, i4⟩, Sem.run_pure, cutA]
theorem run_bound {kk : IntKind} {x m : Nat} {cd : BoundsCode} (h : x ≤ m) : (Instr.sliceBound (.int kk (x : Int)) m cd).run P w = .ok x w := by
  simp only [Instr.sliceBound, asIntOf, Sem.run_bind, Sem.run_pure, Result.andThen_ok]
  rw [if_pos (by omega)]
  simp
theorem bounds_lo {kk : IntKind} {l m : Nat} (h : l ≤ m) : (Instr.sliceBounds true m c (some (.int kk (l : Int))) none none).run P w = .ok (l, m, c) w := by
  simp [Instr.sliceBounds, run_bound h]
theorem bounds_hi {kk : IntKind} {h m : Nat} (hh : h ≤ c) : (Instr.sliceBounds true m c none (some (.int kk (h : Int))) none).run P w = .ok (0, h, c) w := by
  simp [Instr.sliceBounds, run_bound hh]
theorem bounds_lh {kk kk' : IntKind} {l h m : Nat} (hl : l ≤ h) (hh : h ≤ c) : (Instr.sliceBounds true m c (some (.int kk (l : Int))) (some (.int kk' (h : Int))) none).run P w = .ok (l, h, c) w := by
  simp [Instr.sliceBounds, run_bound hh, run_bound hl]

/-- x[lo:] of a shared slice -/
theorem WL.slLo {o : Oper} {t : TypeId} {x y : Operand} {kk : IntKind} {v : Int} (hg : o.guard = none) (ho : o.op = .slice t x (some y) none none) (i lo : Nat) (ms : List (List Value)) (hE : Elem P t e z size bytes) (hS : St g L w) (hi : L[i]? = some (Sh e size ls a c)) (hx : ev F x = .slice a ls.length c) (hy : ev F y = .int kk v) (hv : v = lo) (hle : lo ≤ ls.length) (hms : ls.drop lo = ms)
    (hk : ∀ a', St g (Sh e size ms a' (c - lo) :: L) w → WL P n os l K (updo F o.dst (.slice a' ms.length (c - lo))) w) : WL P n os (o :: l) K F w := by
  subst hms; subst hv
  have h0 := (hS.dup i hi (fun _ _ h => Sh.dup h)).impl (fun o r h => Sh_cut hle (Nat.le_refl _) h)
  rw [List.take_length] at h0
  have hk' := hk _ h0
  rw [List.length_drop] at hk'
  refine WL.val hg (fun hok => ?_) hk'
  have e1 := okX_at (F := F) hok (x := x) (by simp [ho, Op.operands])
  have e2 := okX_at (F := F) hok (x := y) (by simp [ho, Op.operands])
  simp only [execOp, ho, e1, hx, Option.map_some, Option.map_none, e2, hy, Sem.run_bind, run_sliceAt hE _ _ lo ls.length ls.length (bounds_lo hle), Result.andThen_ok, Sem.run_pure]
/-- x[:hi] of a shared slice -/
theorem WL.slHi {o : Oper} {t : TypeId} {x y : Operand} {kk : IntKind} {v : Int} (hg : o.guard = none) (ho : o.op = .slice t x none (some y) none) (i hi : Nat) (ms : List (List Value)) (hE : Elem P t e z size bytes) (hS : St g L w) (hi' : L[i]? = some (Sh e size ls a c)) (hx : ev F x = .slice a ls.length c) (hy : ev F y = .int kk v) (hv : v = hi) (hle : hi ≤ ls.length) (hms : ls.take hi = ms)
    (hk : ∀ a', St g (Sh e size ms a' c :: L) w → WL P n os l K (updo F o.dst (.slice a' ms.length c)) w) : WL P n os (o :: l) K F w := by
  subst hms; subst hv
  have h0 := (hS.dup i hi' (fun _ _ h => Sh.dup h)).impl (fun o r h => Sh_cut (Nat.zero_le _) hle h)
  rw [List.drop_zero, Nat.sub_zero] at h0
  have hk' := hk _ h0
  rw [List.length_take, Nat.min_eq_left hle] at hk'
  obtain ⟨_, _, ⟨_, hc, _⟩, _, _⟩ := hS.get i hi'
  refine WL.val hg (fun hok => ?_) hk'
  have e1 := okX_at (F := F) hok (x := x) (by simp [ho, Op.operands])
  have e2 := okX_at (F := F) hok (x := y) (by simp [ho, Op.operands])
  have hr := run_sliceAt (P := P) (w := w) (c := c) (a := a) hE none (some (.int kk (hi : Int))) 0 hi ls.length (bounds_hi (by omega))
  simp only [execOp, ho, e1, hx, Option.map_some, Option.map_none, e2, hy, Sem.run_bind, hr, Result.andThen_ok, Sem.run_pure, Nat.sub_zero]
/-- x[lo:hi] of a shared slice -/
theorem WL.slLH {o : Oper} {t : TypeId} {x y y' : Operand} {kk kk' : IntKind} {v v' : Int} (hg : o.guard = none) (ho : o.op = .slice t x (some y) (some y') none) (i lo hi : Nat) (ms : List (List Value)) (hE : Elem P t e z size bytes) (hS : St g L w) (hi' : L[i]? = some (Sh e size ls a c)) (hx : ev F x = .slice a ls.length c) (hy : ev F y = .int kk v) (hv : v = lo) (hy' : ev F y' = .int kk' v') (hv' : v' = hi)
    (hlh : lo ≤ hi) (hle : hi ≤ ls.length) (hms : (ls.take hi).drop lo = ms)
    (hk : ∀ a', St g (Sh e size ms a' (c - lo) :: L) w → WL P n os l K (updo F o.dst (.slice a' ms.length (c - lo))) w) : WL P n os (o :: l) K F w := by
  subst hms; subst hv; subst hv'
  have h0 := (hS.dup i hi' (fun _ _ h => Sh.dup h)).impl (fun o r h => Sh_cut hlh hle h)
  have hk' := hk _ h0
  rw [List.length_drop, List.length_take, Nat.min_eq_left hle] at hk'
  obtain ⟨_, _, ⟨_, hc, _⟩, _, _⟩ := hS.get i hi'
  refine WL.val hg (fun hok => ?_) hk'
  have e1 := okX_at (F := F) hok (x := x) (by simp [ho, Op.operands])
  have e2 := okX_at (F := F) hok (x := y) (by simp [ho, Op.operands])
  have e3 := okX_at (F := F) hok (x := y') (by simp [ho, Op.operands])
  have hr := run_sliceAt (P := P) (w := w) (c := c) (a := a) hE (some (.int kk (lo : Int))) (some (.int kk' (hi : Int))) lo hi ls.length (bounds_lh hlh (by omega))
  simp only [execOp, ho, e1, hx, Option.map_some, Option.map_none, e2, hy, e3, hy', Sem.run_bind, hr, Result.andThen_ok, Sem.run_pure]
/-- x[:hi] of an own slice: the rest is given up -/
theorem WL.slOwn {o : Oper} {t : TypeId} {x y : Operand} {kk : IntKind} {v : Int} (hg : o.guard = none) (ho : o.op = .slice t x none (some y) none) (i hi : Nat) (ms : List (List Value)) (hE : Elem P t e z size bytes) (hS : St g L w) (hi' : L[i]? = some (Own e size ls a c)) (hx : ev F x = .slice a ls.length c) (hy : ev F y = .int kk v) (hv : v = hi) (hle : hi ≤ ls.length) (hms : ls.take hi = ms)
    (hk : St g (L.set i (Own e size ms a c)) w → WL P n os l K (updo F o.dst (.slice a ms.length c)) w) : WL P n os (o :: l) K F w := by
  subst hms; subst hv
  have h0 : St g (Own e size (ls.take hi) a c :: L.eraseIdx i) w := (hS.at_ i hi').impl fun o r ⟨q1, q2⟩ => ⟨okE_take q1, by
    rcases q2 with ⟨rfl, rfl, rfl⟩ | ⟨b, cur, rfl, s2, s3, s4, s5, s6⟩
    · exact .inl ⟨rfl, rfl, by simp⟩
    · refine .inr ⟨b, cur, rfl, s2, by simp; omega, s4, s5, ?_⟩
      have h5 : (ls.take hi).flatten = ls.flatten.take (hi * size) := by
        have h6 : ls.flatten = (ls.take hi).flatten ++ (ls.drop hi).flatten := by rw [← List.flatten_append, List.take_append_drop]
        rw [h6, List.take_left' (by rw [flat_len _ _ (okE_take q1).len]; simp [Nat.min_eq_left hle])]
      rw [h5, ← s6, List.take_take, List.length_take, Nat.min_eq_left hle, Nat.min_eq_left (Nat.mul_le_mul_right _ hle)]⟩
  have hk' := hk (h0.back i hi')
  rw [List.length_take, Nat.min_eq_left hle] at hk'
  have hc : ls.length ≤ c := by
    obtain ⟨_, _, ⟨_, hf⟩, _, _⟩ := hS.get i hi'
    rcases hf with ⟨_, _, rfl⟩ | ⟨_, _, _, _, h3, _⟩
    · simp
    · exact h3
  have hcut : cutA a c 0 size = a := by
    unfold cutA; split
    · rfl
    · cases a <;> simp [Addr.add]
  refine WL.val hg (fun hok => ?_) hk'
  have e1 := okX_at (F := F) hok (x := x) (by simp [ho, Op.operands])
  have e2 := okX_at (F := F) hok (x := y) (by simp [ho, Op.operands])
  have hr := run_sliceAt (P := P) (w := w) (c := c) (a := a) hE none (some (.int kk (hi : Int))) 0 hi ls.length (bounds_hi (by omega))
  simp only [execOp, ho, e1, hx, Option.map_some, Option.map_none, e2, hy, Sem.run_bind, hr, Result.andThen_ok, Sem.run_pure, Nat.sub_zero, hcut]

/-- make([]T, len, cap) -/
theorem WL.make {o : Oper} {t : TypeId} {x y : Operand} {kk kk' : IntKind} {v v' : Int} (hg : o.guard = none) (ho : o.op = .makeSlice t x y) (m c : Nat) (hE : Elem P t e z size bytes) (hS : St g L w) (hx : ev F x = .int kk v) (hv : v = m) (hy : ev F y = .int kk' v') (hv' : v' = c) (hmc : m ≤ c) (hc : Rm c bytes)
    (hk : ∀ b w', St g (Own e size (List.replicate m z.toList) (some ⟨b, 0, none⟩) c :: L) w' → WL P n os l K (updo F o.dst (.slice (some ⟨b, 0, none⟩) m c)) w') : WL P n os (o :: l) K F w := by
  subst hv; subst hv'
  obtain ⟨i, zv, i1, i2, i3, i4, i5⟩ := hE.info
  have h63 : (c : Int) ≤ 9223372036854775807 := by have := hc.1; simp only [maxLen] at this; omega
  have hb : (i.bytes : Int) * (c : Int) ≤ 281474976710656 := by
    have := hc.2; rw [← i5, Nat.mul_comm] at this
    have h2 : ((i.bytes * c : Nat) : Int) ≤ 281474976710656 := by omega
    rwa [Int.natCast_mul] at h2
  have hr := run_make (P := P) w t e i zv hE.und i1 i2 kk kk' (m : Int) (c : Int) (by omega) (by omega) hb h63
  simp only [Int.toNat_natCast] at hr
  have hsz : (madeCells zv.cells (c * i.size)).size = c * size := by rw [size_madeCells, i4]
  have hS' := (hS.new (.cells (madeCells zv.cells (c * i.size)) e)).impl (B := Own e size (List.replicate m z.toList) (some ⟨w.heap.size, 0, none⟩) c) fun o r hb =>
    ⟨fun x hx => by rw [List.eq_of_mem_replicate hx]; exact ⟨by simpa using hE.zsz, hE.one⟩, .inr ⟨_, _, rfl, hb, by simpa using hmc, hc.1, hsz, by
      apply List.ext_getElem?
      intro j
      simp only [List.length_replicate]
      rw [List.getElem?_take]
      by_cases hj : j < m * size
      · rw [if_pos hj]
        have hjc : j < c * size := Nat.lt_of_lt_of_le hj (Nat.mul_le_mul_right _ hmc)
        have hd : j / size < m := Nat.div_lt_of_lt_mul (by rw [Nat.mul_comm]; exact hj)
        have hmod : j % size < size := Nat.mod_lt _ hE.pos
        have h6 := flat_at (List.replicate m z.toList) size (fun x hx => by rw [List.eq_of_mem_replicate hx]; simpa using hE.zsz) (j / size) z.toList (j % size) (by simp [hd]) (by simpa [hE.zsz] using hmod)
        rw [Nat.mul_comm, Nat.div_add_mod] at h6
        rw [h6]
        have hz : j % size < z.size := by rw [hE.zsz]; exact hmod
        simp [madeCells, i3, i4, hjc, hE.zsz]
        rw [getElem!_pos z _ hz, Array.getElem?_eq_getElem hz]
      · rw [if_neg hj]
        symm
        rw [List.getElem?_eq_none]
        rw [flat_len _ size (fun x hx => by rw [List.eq_of_mem_replicate hx]; simpa using hE.zsz)]
        simp; omega⟩⟩
  refine WL.val hg (fun hok => ?_) (hk w.heap.size _ hS')
  have e1 := okX_at (F := F) hok (x := x) (by simp [ho, Op.operands])
  have e2 := okX_at (F := F) hok (x := y) (by simp [ho, Op.operands])
  simp only [execOp, ho, e1, hx, e2, hy, Sem.run_bind, hr, Result.andThen_ok, Sem.run_pure]

/-! ### strings -/
/-- bytes as elements of a slice -/
def by8 (l : List Int) : List (List Value) := l.map fun x => [.int .u8 x]
@[simp] theorem by8_len (l : List Int) : (by8 l).length = l.length := by simp [by8]
theorem by8_at {l : List Int} {k : Nat} {x : Int} (h : l[k]? = some x) : (by8 l)[k]? = some [.int .u8 x] := by simp [by8, h]
theorem by8_app (l m : List Int) : by8 (l ++ m) = by8 l ++ by8 m := by simp [by8]
theorem by8_drop (l : List Int) (k : Nat) : (by8 l).drop k = by8 (l.drop k) := by simp [by8]
theorem by8_take (l : List Int) (k : Nat) : (by8 l).take k = by8 (l.take k) := by simp [by8]
theorem by8_nil : by8 [] = [] := rfl
theorem by8_snoc (l : List Int) (x : Int) : by8 l ++ [[.int .u8 x]] = by8 (l ++ [x]) := by simp [by8]
theorem by8_one (x : Int) : [[Value.int .u8 x]] = by8 [x] := rfl
theorem by8_ok (l : List Int) : OkE 1 (by8 l) := fun x hx => by
  obtain ⟨y, _, rfl⟩ := List.mem_map.1 hx
  exact ⟨rfl, fun u hu => by simp at hu; subst hu; rfl⟩
/-- the bytes of a string -/
def sb (s : ByteArray) : List Int := s.data.toList.map fun b => (b.toNat : Int)
theorem sb_len (s : ByteArray) : (sb s).length = s.size := by simp [sb]
/-- the string of some bytes -/
def mkS (l : List Int) : ByteArray := ⟨(l.map fun x => UInt8.ofNat x.toNat).toArray⟩
theorem mkS_sb (s : ByteArray) : mkS (sb s) = s := by
  unfold mkS sb
  have : ((s.data.toList.map fun b => (b.toNat : Int)).map fun x => UInt8.ofNat x.toNat) = s.data.toList := by
    rw [List.map_map]
    conv => rhs; rw [← List.map_id s.data.toList]
    exact List.map_congr_left fun b _ => by simp
  rw [this]
def B8 (l : List Int) : Prop := ∀ x ∈ l, 0 ≤ x ∧ x ≤ 255
theorem sb_B8 (s : ByteArray) : B8 (sb s) := fun x hx => by
  obtain ⟨b, _, rfl⟩ := List.mem_map.1 hx
  have := b.toNat_lt
  omega
theorem sb_mkS {l : List Int} (h : B8 l) : sb (mkS l) = l := by
  simp only [sb, mkS, List.map_map]
  conv => rhs; rw [← List.map_id l]
  refine List.map_congr_left fun x hx => ?_
  have := h x hx
  simp only [Function.comp, id, UInt8.toNat_ofNat']
  rw [show x.toNat % 2 ^ 8 = x.toNat from Nat.mod_eq_of_lt (by omega)]
  omega
theorem sb_inj {s t : ByteArray} (h : sb s = sb t) : s = t := by rw [← mkS_sb s, ← mkS_sb t, h]

/-- s[i] -/
theorem WL.ixs {o : Oper} {t : TypeId} {x y : Operand} {s : ByteArray} {kk : IntKind} {v : Int} (hg : o.guard = none) (ho : o.op = .index t x y) (k : Nat) {b : Int} (hT : mem T.strs t = true) (hx : ev F x = .string s) (hy : ev F y = .int kk v) (hv : v = k) (hb : (sb s)[k]? = some b)
    (hk : WL P n os l K (updo F o.dst (.int .u8 b)) w) : WL P n os (o :: l) K F w := by
  subst hv
  have hu : P.underlying t = some .string := Tab.str hT
  refine WL.val hg (fun hok => ?_) hk
  have e1 := okX_at (F := F) hok (x := x) (by simp [ho, Op.operands])
  have e2 := okX_at (F := F) hok (x := y) (by simp [ho, Op.operands])
  simp only [sb, List.getElem?_map] at hb
  cases hq : s.data.toList[k]? with
  | none => simp [hq] at hb
  | some c =>
    simp only [hq, Option.map_some, Option.some.injEq] at hb
    have hs : s[k]? = some c := by
      have hlt := (List.getElem?_eq_some_iff.1 hq).1
      have hlt2 : k < s.size := by simpa using hlt
      have h3 : s[k] = c := (List.getElem?_eq_some_iff.1 hq).2
      rw [getElem?_pos s k hlt2, h3]
    subst hb
    simp [execOp, ho, e1, hx, e2, hy, Instr.index, asIntOf, run_underlying hu, hs]
/-- []byte(s) -/
theorem WL.toB {o : Oper} {sT dT e : TypeId} {x : Operand} {s : ByteArray} (hg : o.guard = none) (ho : o.op = .convert sT dT x) (hs : P.underlying sT = some .string) (hd : P.underlying dT = some (.slice e)) (he : P.underlying e = some (.int .u8)) (hS : St g L w) (hx : ev F x = .string s)
    (hk : ∀ a c w', St g (Sh e 1 (by8 (sb s)) a c :: L) w' → WL P n os l K (updo F o.dst (.slice a s.size c)) w') : WL P n os (o :: l) K F w := by
  have hr := run_bytes_of_string (P := P) w sT dT e s hs hd he
  generalize hcap : grownCap w s.size 0 e = cap at hr
  have hcap' : s.size ≤ cap := by rw [← hcap]; exact grownCap_ge _ _ _ _
  generalize hob : Obj.cells (bytesRow s cap) e ((bytesRow s cap).size, (bytesRow s cap).size + 1) = ob at hr
  have h1 := hS.drew.new ob
  have h2 : St g (Sh e 1 (by8 (sb s)) (some ⟨w.heap.size, 0, none⟩) cap :: L) (w.drew.alloc ob) := by
    obtain ⟨o', r, hd', ho', hr', hg', o1, o2, q1, q2, hd12, hA, hL⟩ := h1.own
    have d2r : Dj o2 r := hd'.sub q2 (Sub.refl _)
    have d1r : Dj o1 r := hd'.sub q1 (Sub.refl _)
    refine ⟨h1.os, h1.tape, h1.output, h1.size, o2, join r o1, (d2r.symm.join hd12).symm, q2.w ho', join_w hr' (q1.w ho'), fun k hk => ?_, fun _ => none, o2, (fun _ _ h => by cases h), Sub.refl _, (fun _ => .inl rfl), ?_, All.mono L (Sub.refl _) (join_l _ _) hL⟩
    · have := hg' k hk
      rw [Array.getElem?_eq_getElem hk] at this ⊢
      exact join_l r o1 k _ this
    · have hl : (by8 (sb s)).length = s.size := by rw [by8_len, sb_len]
      have hA' : o1 w.heap.size = some ob := hA
      refine ⟨by8_ok _, by rw [hl]; exact hcap', fun _ => ⟨w.heap.size, 0, bytesRow s cap, e, ((bytesRow s cap).size, (bytesRow s cap).size + 1), rfl, join_r d1r.symm _ _ (by rw [hA', ← hob]), fun j u hj => ?_⟩⟩
      have hjl : j < s.data.size := by
        have := (List.getElem?_eq_some_iff.1 hj).1
        rw [flat_len _ 1 (by8_ok _).len, hl] at this
        simpa using this
      rw [Nat.zero_add, bytesRow_at s cap j hjl]
      have h5 := flat_at (by8 (sb s)) 1 (by8_ok _).len j [.int .u8 (s.data[j].toNat : Int)] 0 (by
        apply by8_at
        simp only [sb, List.getElem?_map]
        rw [List.getElem?_eq_getElem (by simpa using hjl)]
        simp) (by simp)
      simp only [Nat.mul_one, Nat.add_zero] at h5
      rw [hj] at h5
      simpa using h5.symm
  refine WL.val hg (fun hok => ?_) (hk _ cap _ h2)
  have e1 := okX_at (F := F) hok (x := x) (by simp [ho, Op.operands])
  simp only [execOp, ho, e1, hx, Sem.run_bind, hr, Result.andThen_ok, Sem.run_pure]
/-- string(b) -/
theorem WL.toS {o : Oper} {sT dT e : TypeId} {x : Operand} {a : Option Addr} {c : Nat} {bs : List Int} (hg : o.guard = none) (ho : o.op = .convert sT dT x) (hs : P.underlying sT = some (.slice e)) (hd : P.underlying dT = some .string) (he : P.underlying e = some (.int .u8)) (hsrc : Src w 1 (by8 bs) a) (hb : B8 bs) (hx : ev F x = .slice a bs.length c)
    (hk : WL P n os l K (updo F o.dst (.string (mkS bs))) w) : WL P n os (o :: l) K F w := by
  refine WL.val hg (fun hok => ?_) hk
  have e1 := okX_at (F := F) hok (x := x) (by simp [ho, Op.operands])
  have hr : (convert sT dT (.slice a bs.length c)).run P w = .ok (.string (mkS bs)) w := by
    by_cases h0 : bs = []
    · subst h0
      cases a with
      | none => rw [run_convert_bytes_string w sT dT e none _ c hs he hd]; simp [Conv.bytesToString, mkS]; rfl
      | some ad =>
        have := run_convert_bytes_back (P := P) w sT dT e ad c [] hs he hd (fun j hj => by simp at hj)
        simpa [mkS] using this
    · obtain ⟨⟨b, off, rfl⟩, hc⟩ := hsrc.rd (by rw [by8_len]; exact List.length_pos_iff.2 h0)
      have hlen : (bs.map fun x => UInt8.ofNat x.toNat).length = bs.length := by simp
      have := run_convert_bytes_back (P := P) w sT dT e ⟨b, off, none⟩ c (bs.map fun x => UInt8.ofNat x.toNat) hs he hd (fun j hj => by
        have hj' : j < bs.length := by simpa using hj
        rw [show (⟨b, off, none⟩ : Addr).add j = ⟨b, off + j, none⟩ by unfold Addr.add; split <;> simp_all]
        have h5 := flat_at (by8 bs) 1 (by8_ok _).len j [.int .u8 bs[j]] 0 (by8_at (List.getElem?_eq_getElem hj')) (by simp)
        simp only [Nat.mul_one, Nat.add_zero] at h5
        have h6 := hc j (.int .u8 bs[j]) (by rw [h5]; rfl)
        rw [show bo (some ⟨b, off, none⟩) = b from rfl, show oo (some ⟨b, off, none⟩) = off from rfl] at h6
        rw [h6]
        have h7 := hb bs[j] (List.getElem_mem hj')
        congr 2
        simp only [List.getElem_map, UInt8.toNat_ofNat']
        rw [show bs[j].toNat % 2 ^ 8 = bs[j].toNat from Nat.mod_eq_of_lt (by omega)]
        omega)
      rw [hlen] at this
      exact this
  simp only [execOp, ho, e1, hx, Sem.run_bind, hr, Result.andThen_ok, Sem.run_pure]
end
end Go.V

/-! ## Num -/
namespace Go.V
open Go

theorem toNat_ofInt_bv (m : Nat) {a : Int} (h0 : 0 ≤ a) (h1 : a < 2 ^ m) : (BitVec.ofInt m a).toNat = a.toNat := by
  obtain ⟨n, rfl⟩ := Int.eq_ofNat_of_zero_le h0
  rw [BitVec.ofInt_natCast, BitVec.toNat_ofNat]
  exact Nat.mod_eq_of_lt (by exact_mod_cast h1)
theorem and_nn {k : IntKind} {a b : Int} (a0 : 0 ≤ a) (a1 : a < 2 ^ k.bits) (b0 : 0 ≤ b) (b1 : b < 2 ^ k.bits) : bts .and k a b = k.wrap ((a.toNat &&& b.toNat : Nat) : Int) := by
  simp only [bts, BitVec.toNat_and, toNat_ofInt_bv _ a0 a1, toNat_ofInt_bv _ b0 b1]
theorem or_nn {k : IntKind} {a b : Int} (a0 : 0 ≤ a) (a1 : a < 2 ^ k.bits) (b0 : 0 ≤ b) (b1 : b < 2 ^ k.bits) : bts .or k a b = k.wrap ((a.toNat ||| b.toNat : Nat) : Int) := by
  simp only [bts, BitVec.toNat_or, toNat_ofInt_bv _ a0 a1, toNat_ofInt_bv _ b0 b1]
theorem xor_nn {k : IntKind} {a b : Int} (a0 : 0 ≤ a) (a1 : a < 2 ^ k.bits) (b0 : 0 ≤ b) (b1 : b < 2 ^ k.bits) : bts .xor k a b = k.wrap ((a.toNat ^^^ b.toNat : Nat) : Int) := by
  simp only [bts, BitVec.toNat_xor, toNat_ofInt_bv _ a0 a1, toNat_ofInt_bv _ b0 b1]
theorem p2_63 : p2 .i64 63 = 9223372036854775808 := by decide
theorem p2_1 : p2 .u64 1 = 2 := by decide
theorem p2_7 : p2 .u64 7 = 128 := by decide

theorem and127 {c : Int} (h0 : 0 ≤ c) (h1 : c ≤ 255) : bts .and .u8 c 127 = c % 128 := by
  rw [and_nn h0 (by simp [IntKind.bits]; omega) (by omega) (by simp [IntKind.bits])]
  have h2 : c.toNat &&& (127 : Int).toNat = c.toNat % 128 := Nat.and_two_pow_sub_one_eq_mod c.toNat 7
  rw [h2, wu8 (by omega)]
  omega
theorem or128 (c : Int) : bts .or .u8 (IntKind.u8.wrap c) 128 = c % 128 + 128 := by
  have hw : IntKind.u8.wrap c = c % 256 := by unfold IntKind.wrap; simp [IntKind.bits, IntKind.signed]
  rw [hw, or_nn (by omega) (by simp [IntKind.bits]; omega) (by omega) (by simp [IntKind.bits])]
  have h3 : (c % 256).toNat ||| (128 : Int).toNat = (c % 128).toNat + 128 := by
    have h4 : (c % 256).toNat = 128 * ((c % 256).toNat / 128) + (c % 256).toNat % 128 := (Nat.div_add_mod _ _).symm
    have h5 : (c % 256).toNat % 128 = (c % 128).toNat := by omega
    have h6 : (c % 256).toNat / 128 = 0 ∨ (c % 256).toNat / 128 = 1 := by omega
    have h7 : (128 : Int).toNat = 2 ^ 7 * 1 := rfl
    have h8 : (c % 128).toNat < 2 ^ 7 := by omega
    have h9 := Nat.two_pow_add_eq_or_of_lt h8 1
    rw [h4, h5, h7]
    rcases h6 with h6 | h6
    · rw [h6, Nat.mul_zero, Nat.zero_add, Nat.or_comm, ← h9]; omega
    · rw [h6]
      have h10 : 128 * 1 + (c % 128).toNat = 2 ^ 7 * 1 + (c % 128).toNat := rfl
      rw [h10, h9, Nat.or_assoc, Nat.or_comm (c % 128).toNat, ← Nat.or_assoc, Nat.or_self, ← h9]; omega
  rw [h3, wu8 (by omega)]
  omega
theorem byte_lo {c : Int} (h0 : 0 ≤ c) (h1 : c < 128) : IntKind.u8.wrap c = c := wu8 (by omega)
/-- bits that do not meet -/
theorem or_shift {u x : Int} {m : Nat} (hu0 : 0 ≤ u) (hu : u < 2 ^ m) (hx : 0 ≤ x) (hs : u + x * 2 ^ m < 2 ^ 64) : bts .or .u64 u (x * 2 ^ m) = u + x * 2 ^ m := by
  have hp : (0 : Int) < 2 ^ m := Int.pow_pos (by decide)
  have hxm : 0 ≤ x * 2 ^ m := Int.mul_nonneg hx (Int.le_of_lt hp)
  rw [or_nn hu0 (by simp [IntKind.bits]; omega) hxm (by simp [IntKind.bits]; omega)]
  obtain ⟨a, rfl⟩ := Int.eq_ofNat_of_zero_le hu0
  obtain ⟨b, rfl⟩ := Int.eq_ofNat_of_zero_le hx
  have h1 : ((b : Int) * 2 ^ m).toNat = 2 ^ m * b := by
    have : ((b : Int) * 2 ^ m) = ((2 ^ m * b : Nat) : Int) := by push_cast; rw [Int.mul_comm]
    rw [this, Int.toNat_natCast]
  have h2 : a < 2 ^ m := by exact_mod_cast hu
  rw [h1, Int.toNat_natCast, Nat.or_comm, ← Nat.two_pow_add_eq_or_of_lt h2 b]
  have h3 : ((2 ^ m * b + a : Nat) : Int) = (a : Int) + (b : Int) * 2 ^ m := by push_cast; rw [Int.mul_comm, Int.add_comm]
  rw [h3, wu64 ⟨by omega, by omega⟩]

section
variable {P : Program} {T : Tab} [hT : TabOk P T] {n : Nat} {os l : List Oper} {K : Kt} {F : Fm} {w : World}
theorem WL.shl {o : Oper} {t yt : TypeId} {x y : Operand} {k kk : IntKind} {p b : Int} (hg : o.guard = none) (ho : o.op = .binOp .shl t x y yt) (m : Nat) (hx : ev F x = .int k p) (hy : ev F y = .int kk b) (hb : b = m) (hk : WL P n os l K (updo F o.dst (.int k (k.wrap (p * p2 k m)))) w) : WL P n os (o :: l) K F w := by
  subst hb
  refine WL.val hg (fun hok => ?_) hk
  have e1 := okX_at (F := F) hok (x := x) (by simp [ho, Op.operands])
  have e2 := okX_at (F := F) hok (x := y) (by simp [ho, Op.operands])
  have hr := shfI_ok (P := P) (k := k) (k' := kk) (a := p) (b := (m : Int)) t (op := .shl) rfl rfl w
  simp only [execOp, ho, e1, e2, hx, hy, eqGuard, Sem.run_bind, Sem.run_pure]
  simp [hr]
end

theorem tm_neg {k n : Int} (hn : 0 < n) (h : k.tmod n < 0) : k.tmod n + n = k % n := by
  have h1 := Int.emod_nonneg k (show n ≠ 0 by omega)
  rw [Int.tmod_eq_emod] at h ⊢
  split at h
  · omega
  · rename_i h2; rw [if_neg h2]; omega
theorem tm_pos {k n : Int} (hn : 0 < n) (h : ¬ k.tmod n < 0) : k.tmod n = k % n := by
  have h1 := Int.emod_lt_of_pos k hn
  rw [Int.tmod_eq_emod] at h ⊢
  split at h
  · rename_i h2; rw [if_pos h2]; omega
  · omega
theorem tm_lt {k n : Int} (hn : 0 < n) : -n < k.tmod n ∧ k.tmod n < n := ⟨by
  have h1 := Int.emod_nonneg k (show n ≠ 0 by omega)
  rw [Int.tmod_eq_emod]
  split <;> omega, Int.tmod_lt_of_pos k hn⟩
/-! ### zigzag -/
def zz (n : Int) : Int := if 0 ≤ n then 2 * n else -2 * n - 1
def uz (u : Int) : Int := if u % 2 = 0 then u / 2 else -(u / 2) - 1
theorem uz_zz (n : Int) : uz (zz n) = n := by unfold uz zz; split <;> split <;> omega
theorem zz_uz {u : Int} (h : 0 ≤ u) : zz (uz u) = u := by unfold uz zz; split <;> split <;> omega
theorem zz_b {n : Int} (h : -9223372036854775808 ≤ n ∧ n ≤ 9223372036854775807) : 0 ≤ zz n ∧ zz n ≤ 18446744073709551615 := by unfold zz; split <;> omega
theorem uz_b {u : Int} (h : 0 ≤ u ∧ u ≤ 18446744073709551615) : -9223372036854775808 ≤ uz u ∧ uz u ≤ 9223372036854775807 := by unfold uz; split <;> omega
theorem wrap_u64 (z : Int) : IntKind.u64.wrap z = z % 18446744073709551616 := by unfold IntKind.wrap; simp [IntKind.bits, IntKind.signed]
theorem xor_ones (a : Nat) (h : a < 2 ^ 64) : a ^^^ (2 ^ 64 - 1) = 2 ^ 64 - 1 - a := by
  have h2 := congrArg BitVec.toNat (BitVec.xor_allOnes (x := BitVec.ofNat 64 a))
  simp only [BitVec.toNat_xor, BitVec.toNat_allOnes, BitVec.toNat_not, BitVec.toNat_ofNat, Nat.mod_eq_of_lt h] at h2
  exact h2
theorem zz_bits {n : Int} (h : -9223372036854775808 ≤ n ∧ n ≤ 9223372036854775807) :
    bts .xor .u64 (IntKind.u64.wrap (IntKind.u64.wrap n * p2 .u64 1)) (IntKind.u64.wrap (n / p2 .i64 63)) = zz n := by
  rw [p2_63, p2_1]
  unfold zz
  split
  · rename_i h0
    have e1 : n / 9223372036854775808 = 0 := by omega
    rw [e1, wu64 (z := n) (by omega), wu64 (z := n * 2) (by omega), wu64 (z := 0) (by omega), xor_nn (by omega) (by simp [IntKind.bits]; omega) (by omega) (by simp [IntKind.bits])]
    rw [show (0 : Int).toNat = 0 from rfl, Nat.xor_zero, wu64 (by omega)]; omega
  · rename_i h0
    have e1 : n / 9223372036854775808 = -1 := by omega
    have e2 : IntKind.u64.wrap n = n + 18446744073709551616 := by rw [wrap_u64]; omega
    have e3 : IntKind.u64.wrap ((n + 18446744073709551616) * 2) = 2 * n + 18446744073709551616 := by rw [wrap_u64]; omega
    have e4 : IntKind.u64.wrap (-1) = 18446744073709551615 := by rw [wrap_u64]; rfl
    rw [e1, e2, e3, e4, xor_nn (by omega) (by simp [IntKind.bits]; omega) (by omega) (by simp [IntKind.bits])]
    have e5 : (18446744073709551615 : Int).toNat = 2 ^ 64 - 1 := by rfl
    rw [e5, xor_ones _ (by omega), wu64 (by omega)]
    omega
theorem and1 {u : Int} (h : 0 ≤ u ∧ u ≤ 18446744073709551615) : bts .and .u64 u 1 = u % 2 := by
  rw [and_nn (by omega) (by simp [IntKind.bits]; omega) (by omega) (by simp [IntKind.bits])]
  have h2 : u.toNat &&& (1 : Int).toNat = u.toNat % 2 := Nat.and_two_pow_sub_one_eq_mod u.toNat 1
  rw [h2, wu64 (by omega)]; omega
theorem xor_i64_0 {a : Int} (h : 0 ≤ a ∧ a ≤ 9223372036854775807) : bts .xor .i64 a 0 = a := by
  rw [xor_nn (by omega) (by simp [IntKind.bits]; omega) (by omega) (by simp [IntKind.bits])]
  rw [show (0 : Int).toNat = 0 from rfl, Nat.xor_zero, w64 (by omega)]; omega
theorem xor_i64_m {a : Int} (h : 0 ≤ a ∧ a ≤ 9223372036854775807) : bts .xor .i64 a (-1) = -a - 1 := by
  have e : (BitVec.ofInt 64 (-1)).toNat = 2 ^ 64 - 1 := by decide
  show IntKind.i64.wrap ((BitVec.ofInt 64 a ^^^ BitVec.ofInt 64 (-1)).toNat : Int) = _
  rw [BitVec.toNat_xor, toNat_ofInt_bv 64 h.1 (by omega), e, xor_ones _ (by omega), IntKind.wrap_i64]
  omega
theorem uz_bits {u : Int} (h : 0 ≤ u ∧ u ≤ 18446744073709551615) : bts .xor .i64 (u / 2) (0 - u % 2) = uz u := by
  unfold uz
  split
  · rename_i h0; rw [h0, show (0 : Int) - 0 = 0 from rfl, xor_i64_0 (by omega)]
  · rename_i h0
    have : u % 2 = 1 := by omega
    rw [this, show (0 : Int) - 1 = -1 from rfl, xor_i64_m (by omega)]
end Go.V

/-! ## Ext -/
namespace Go.V
open Go Go.RowKit

section
variable {P : Program} {T : Tab} [hT : TabOk P T] {n : Nat} {os l : List Oper} {K : Kt} {F : Fm} {w g : World} {L : List HP} {e size bytes c : Nat} {z : Array Value} {ls ms : List (List Value)} {a : Option Addr}

/-! ### an object of its own, written -/
theorem St.setObj {b : Nat} {ob ob' : Obj} (h : St g (blk b ob :: L) w) : St g (blk b ob' :: L) { w with heap := w.heap.setIfInBounds b ob' } := by
  refine h.upd rfl rfl rfl (by simp) fun o1 r hA hw _ _ => ⟨fun k => if k = b then some ob' else none, by simp [blk], fun k x hx => ?_, fun k hk => ?_, fun k hk hn => ?_⟩
  · simp only at hx
    split at hx
    · rename_i hk; subst hk
      simp only [Option.some.injEq] at hx; subst hx
      have h1 := hw _ _ hA
      have h2 : k < w.heap.size := (Array.getElem?_eq_some_iff.1 h1).1
      simp [h2]
    · cases hx
  · simp only [ne_eq, ite_eq_right_iff, reduceCtorEq, imp_false, Classical.not_not] at hk
    subst hk
    exact .inl (by rw [show o1 k = some ob from hA]; simp)
  · have : b ≠ k := fun e => by
      have : o1 k = some ob := by rw [← e]; exact hA
      rw [hn] at this; cases this
    exact Array.getElem?_setIfInBounds_ne this

/-! ### range over a string of bytes below 128 -/
def nx (l : List Int) (k : Nat) : Value := if k < l.length then .tuple #[.bool true, .int .i64 k, .int .i32 (l.getD k 0)] else .tuple #[.bool false]
theorem nx_in {l : List Int} {k : Nat} (h : k < l.length) : nx l k = .tuple #[.bool true, .int .i64 k, .int .i32 (l.getD k 0)] := if_pos h
theorem nx_0 (l : List Int) (k : Nat) : ∃ vs, nx l k = .tuple vs ∧ vs[0]? = some (.bool (decide (k < l.length))) := by
  unfold nx; split <;> rename_i h <;> exact ⟨_, rfl, by simp [h]⟩
def As7 (l : List Int) : Prop := ∀ x ∈ l, 0 ≤ x ∧ x < 128
theorem mkS_size (l : List Int) : (mkS l).size = l.length := by simp [mkS, ByteArray.size]
theorem WL.rng {o : Oper} {t : TypeId} {x : Operand} {s : ByteArray} (hg : o.guard = none) (ho : o.op = .range t x) (hT : mem T.strs t = true) (hS : St g L w) (hx : ev F x = .string s)
    (hk : ∀ b w', St g (blk b (.stringIter s 0) :: L) w' → WL P n os l K (updo F o.dst (.pointer (some ⟨b, 0, none⟩))) w') : WL P n os (o :: l) K F w := by
  have hu : P.underlying t = some .string := Tab.str hT
  refine WL.val hg (fun hok => ?_) (hk w.heap.size (w.alloc (.stringIter s 0)) (hS.new _))
  have e := okX_at (F := F) hok (x := x) (by simp [ho, Op.operands])
  simp only [execOp, ho, e, hx, Sem.run_bind, run_range_string w t s hu, Result.andThen_ok, Sem.run_pure]
  rfl
theorem mkS_at {l : List Int} (hl : As7 l) {k : Nat} (h : k < l.length) (hv : k < (mkS l).size) : ((mkS l)[k]'hv).toNat = (l.getD k 0).toNat ∧ ((mkS l)[k]'hv).toNat < 128 := by
  have h1 : (mkS l)[k]'hv = UInt8.ofNat (l[k]).toNat := by
    show (mkS l).data[k]'hv = _
    simp [mkS]
  have h2 := hl _ (List.getElem_mem h)
  have h3 : (UInt8.ofNat (l[k]).toNat).toNat = (l[k]).toNat := by
    rw [UInt8.toNat_ofNat']
    exact Nat.mod_eq_of_lt (by omega)
  rw [h1, h3, List.getD_eq_getElem?_getD, List.getElem?_eq_getElem h]
  exact ⟨rfl, by omega⟩
/-- the next letter, and whether there was one -/
theorem WL.nx {o o2 : Oper} {it y : Operand} {d d2 b k : Nat} {xs : List Int} (hg : o.guard = none) (ho : o.op = .next it true) (hd : o.dst = some d) (hg2 : o2.guard = none) (ho2 : o2.op = .extract y 0) (hy : y = .tmp d) (hd2 : o2.dst = some d2)
    (i : Nat) (hl : As7 xs) (hS : St g L w) (hi : L[i]? = some (blk b (.stringIter (mkS xs) k))) (hx : ev F it = .pointer (some ⟨b, 0, none⟩))
    (hk : ∀ w', St g (L.set i (blk b (.stringIter (mkS xs) (if k < xs.length then k + 1 else k)))) w' → WL P n os l K (upd (upd F d (Go.V.nx xs k)) d2 (.bool (decide (k < xs.length)))) w') : WL P n os (o :: o2 :: l) K F w := by
  have hh := hS.heap i hi
  have key : ∃ w', ((Instr.next (.pointer (some ⟨b, 0, none⟩)) true o.type).run P w) = .ok (Go.V.nx xs k) w' ∧ St g (L.set i (blk b (.stringIter (mkS xs) (if k < xs.length then k + 1 else k)))) w' := by
    by_cases hlt : k < xs.length
    · have h1 : k < (mkS xs).size := by rw [mkS_size]; exact hlt
      obtain ⟨h2, h3⟩ := mkS_at hl hlt h1
      have h0 : 0 ≤ xs.getD k 0 := by
        rw [List.getD_eq_getElem?_getD, List.getElem?_eq_getElem hlt]; exact (hl _ (List.getElem_mem hlt)).1
      refine ⟨{ w with heap := w.heap.setIfInBounds b (.stringIter (mkS xs) (k + 1)) }, ?_, ?_⟩
      · simp only [Instr.next, Sem.run_bind, getObj, Go.setObj, Sem.run, hh, Result.andThen_ok, h1, if_true, decode_ascii _ _ h1 h3]
        simp only [nx_in hlt, goInt, h2, Int.toNat_of_nonneg h0]
        rfl
      · rw [if_pos hlt]; exact (St.setObj (hS.at_ i hi)).back i hi
    · have h1 : ¬ k < (mkS xs).size := by rw [mkS_size]; exact hlt
      refine ⟨w, ?_, ?_⟩
      · simp only [Instr.next, Sem.run_bind, getObj, Sem.run, hh, Result.andThen_ok, h1, if_false, Go.V.nx, hlt]
        rfl
      · rw [if_neg hlt]
        have : L.set i (blk b (.stringIter (mkS xs) k)) = L := by
          obtain ⟨q1, q2⟩ := List.getElem?_eq_some_iff.1 hi
          rw [← q2]; exact List.set_getElem_self _
        rw [this]; exact hS
  obtain ⟨w', hr, hS'⟩ := key
  refine WL.val (v := Go.V.nx xs k) (w' := w') hg (fun hok => ?_) ?_
  · have e := okX_at (F := F) hok (x := it) (by simp [ho, Op.operands])
    simp only [execOp, ho, e, hx, Sem.run_bind, hr, Result.andThen_ok, Sem.run_pure]
  · rw [hd]
    refine WL.val (v := .bool (decide (k < xs.length))) (w' := w') hg2 (fun hok => ?_) (by rw [hd2]; exact hk w' hS')
    have e := okX_at (F := upd F d (Go.V.nx xs k)) hok (x := y) (by simp [ho2, Op.operands])
    obtain ⟨vs, q1, q2⟩ := nx_0 xs k
    have e2 : ev (upd F d (Go.V.nx xs k)) y = Go.V.nx xs k := by rw [hy]; simp [ev, upd]
    have e3 := (e.trans e2).trans q1
    simp only [execOp, ho2, updo, e3]
    simp [Instr.extract, q2]

/-! ### a store into an element -/
theorem flat_set : ∀ (ls : List (List Value)) (size : Nat), (∀ x ∈ ls, x.length = size) → ∀ (k : Nat) (cs : List Value) (j : Nat) (v : Value), ls[k]? = some cs → j < cs.length → (ls.set k (cs.set j v)).flatten = ls.flatten.set (k * size + j) v
  | [], _, _, k, cs, j, v, hk, _ => by simp at hk
  | x :: xs, size, h, 0, cs, j, v, hk, hj => by
    simp only [List.getElem?_cons_zero, Option.some.injEq] at hk; subst hk
    simp [List.set_append_left _ _ hj]
  | x :: xs, size, h, k + 1, cs, j, v, hk, hj => by
    have h1 := h x (List.mem_cons_self ..)
    simp only [List.getElem?_cons_succ] at hk
    have := flat_set xs size (fun y hy => h y (List.mem_cons_of_mem _ hy)) k cs j v hk hj
    simp only [List.set_cons_succ, List.flatten_cons, this]
    rw [List.set_append_right _ _ (by rw [h1, Nat.succ_mul]; omega)]
    congr 2
    rw [h1, Nat.succ_mul]; omega
theorem St.setE {k j : Nat} {cs : List Value} {v : Value} (h : St g (Own e size ls a c :: L) w) (hk : ls[k]? = some cs) (hj : j < cs.length) (hv : v.oneCell' = true) :
    St g (Own e size (ls.set k (cs.set j v)) a c :: L) (w.setCell ⟨bo a, oo a + k * size + j, none⟩ v) := by
  refine h.upd rfl rfl rfl (by simp [World.setCell]) fun o1 r hA hw _ _ => ?_
  obtain ⟨hok, hA⟩ := hA
  have hkl : k < ls.length := (List.getElem?_eq_some_iff.1 hk).1
  rcases hA with ⟨_, _, h3⟩ | ⟨b, cur, rfl, h2, h3, h4, h5, h6⟩
  · subst h3; simp at hkl
  · have hok' : OkE size (ls.set k (cs.set j v)) := fun x hx => by
      rcases List.mem_or_eq_of_mem_set hx with hx | rfl
      · exact hok x hx
      · have := hok cs (List.mem_of_getElem? hk)
        refine ⟨by simpa using this.1, fun u hu => ?_⟩
        rcases List.mem_or_eq_of_mem_set hu with hu | rfl
        · exact this.2 u hu
        · exact hv
    refine ⟨fun q => if q = b then some (.cells (cur.setIfInBounds (k * size + j) v) e (0, 0)) else none, ⟨hok', .inr ⟨b, cur.setIfInBounds (k * size + j) v, rfl, by simp, by simpa using h3, h4, by simpa using h5, ?_⟩⟩, fun q x hx => ?_, fun q hq => ?_, fun q hq hn => ?_⟩
    · rw [List.length_set, Array.toList_setIfInBounds, List.take_set, h6, flat_set ls size hok.len k cs j v hk hj]
    · simp only at hx
      split at hx
      · rename_i hq; subst hq; simp only [Option.some.injEq] at hx; subst hx
        have := heap_setCell_same w q (k * size + j) cur e v (hw _ _ h2)
        simpa [bo, oo] using this
      · cases hx
    · simp only [ne_eq, ite_eq_right_iff, reduceCtorEq, imp_false, Classical.not_not] at hq
      subst hq
      exact .inl (by rw [h2]; simp)
    · refine Below.heap_setCell w _ v q fun eq => ?_
      have : o1 q = some (.cells cur e (0, 0)) := by rw [eq]; exact h2
      rw [hn] at this; cases this
theorem St.ownRow {k : Nat} {cs : List Value} (h : St g L w) (i : Nat) (hi : L[i]? = some (Own e size ls a c)) (hk : ls[k]? = some cs) : ∃ b cur, a = some ⟨b, 0, none⟩ ∧ w.heap[b]? = some (.cells cur e (0, 0)) ∧ ∀ j, j < cs.length → (k * size + j) < cur.size := by
  obtain ⟨o1, r, hA, ho, hr⟩ := h.get i hi
  obtain ⟨hok, hA⟩ := hA
  have hkl : k < ls.length := (List.getElem?_eq_some_iff.1 hk).1
  rcases hA with ⟨_, _, h3⟩ | ⟨b, cur, rfl, h2, h3, h4, h5, h6⟩
  · subst h3; simp at hkl
  · refine ⟨b, cur, rfl, ho _ _ h2, fun j hj => ?_⟩
    have := (hok cs (List.mem_of_getElem? hk)).1
    rw [h5]
    calc k * size + j < k * size + size := by omega
      _ = (k + 1) * size := by rw [Nat.succ_mul]
      _ ≤ c * size := Nat.mul_le_mul_right _ (by omega)
/-- l[k].f = v -/
theorem WL.stE {o : Oper} {t : TypeId} {x y : Operand} {v : Value} (hg : o.guard = none) (hd : o.dst = none) (ho : o.op = .store t x y) (i k j : Nat) (cs : List Value) (ls' : List (List Value)) (hS : St g L w) (hi : L[i]? = some (Own e size ls a c)) (hks : ls[k]? = some cs) (hx : ev F x = .pointer (some ⟨bo a, oo a + k * size + j, none⟩)) (hv : ev F y = v)
    (h1 : v.oneCell' = true) (hj : Nat.blt j cs.length = true) (ht : mem T.ones t = true) (hls : ls.set k (cs.set j v) = ls') (hk : ∀ w', St g (L.set i (Own e size ls' a c)) w' → WL P n os l K F w') : WL P n os (o :: l) K F w := by
  subst hls
  have hj := blt_iff.1 hj
  have hcs : v.cells = #[v] := by cases v <;> simp [Value.oneCell'] at h1 <;> rfl
  obtain ⟨b, cur, rfl, hh, hlt⟩ := hS.ownRow i hi hks
  have hS' := ((hS.at_ i hi).setE hks hj h1).back i hi
  refine WL.unit hg hd (fun hok => ?_) (hk _ hS')
  have e1 := okX_at (F := F) hok (x := x) (by simp [ho, Op.operands])
  have e2 := okX_at (F := F) hok (x := y) (by simp [ho, Op.operands])
  obtain ⟨_, _, h3⟩ := Tab.one (P := P) ht
  have h4 := hlt j hj
  simp only [bo, oo, Nat.zero_add] at hx ⊢
  have hcell : w.cell? ⟨b, k * size + j, none⟩ = some cur[k * size + j] := by rw [cell_of_row w b _ cur e (0, 0) hh]; simp [h4]
  have hst : (storeVar t ⟨b, k * size + j, none⟩ v).run P w = .ok () (w.setCell ⟨b, k * size + j, none⟩ v) := by
    simp only [storeVar, Sem.run_bind, run_sizeOf w h3, Result.andThen_ok, hcs, storeCells]
    simp [Addr.add, run_store _ _ _ _ _ h1, hcell, frozen_cel hh]
  simp only [execOp, ho, e1, e2, hx, hv, Instr.storeAt, Instr.sureAddr, Sem.run_bind, Sem.run_pure, Result.andThen_ok, hst]
end

theorem by8sb_len (s : ByteArray) : (by8 (sb s)).length = s.size := by rw [by8_len, sb_len]
theorem quo_i64 {p q : Int} (h : 0 ≤ p ∧ 0 ≤ p / q ∧ p / q ≤ 9223372036854775807) : IntKind.i64.wrap (p.tdiv q) = p / q := by rw [Int.tdiv_eq_ediv_of_nonneg h.1, w64 (by omega)]
theorem quo_u64 {p q : Int} (h : 0 ≤ p ∧ 0 ≤ p / q ∧ p / q ≤ 18446744073709551615) : IntKind.u64.wrap (p.tdiv q) = p / q := by rw [Int.tdiv_eq_ediv_of_nonneg h.1, wu64 (by omega)]
theorem quo_u32 {p q : Int} (h : 0 ≤ p ∧ 0 ≤ p / q ∧ p / q ≤ 4294967295) : IntKind.u32.wrap (p.tdiv q) = p / q := by rw [Int.tdiv_eq_ediv_of_nonneg h.1, wu32 (by omega)]
theorem quo_u8 {p q : Int} (h : 0 ≤ p ∧ 0 ≤ p / q ∧ p / q ≤ 255) : IntKind.u8.wrap (p.tdiv q) = p / q := by rw [Int.tdiv_eq_ediv_of_nonneg h.1, wu8 (by omega)]
/-! ### lists of elements of more cells -/
def en2 (l : List (Int × Int)) : List (List Value) := l.map fun x => [.int .i64 x.1, .int .i64 x.2]
@[simp] theorem en2_len (l : List (Int × Int)) : (en2 l).length = l.length := by simp [en2]
theorem en2_at {l : List (Int × Int)} {k : Nat} {x : (Int × Int)} (h : l[k]? = some x) : (en2 l)[k]? = some [.int .i64 x.1, .int .i64 x.2] := by simp [en2, h]
theorem en2_app (l m : List (Int × Int)) : en2 (l ++ m) = en2 l ++ en2 m := by simp [en2]
theorem en2_drop (l : List (Int × Int)) (k : Nat) : (en2 l).drop k = en2 (l.drop k) := by simp [en2]
theorem en2_take (l : List (Int × Int)) (k : Nat) : (en2 l).take k = en2 (l.take k) := by simp [en2]
theorem en2_nil : en2 [] = [] := rfl
theorem en2_snoc (l : List (Int × Int)) (x : (Int × Int)) : en2 l ++ [[.int .i64 x.1, .int .i64 x.2]] = en2 (l ++ [x]) := by simp [en2]
theorem en2_set (l : List (Int × Int)) (k : Nat) (x : (Int × Int)) : (en2 l).set k [.int .i64 x.1, .int .i64 x.2] = en2 (l.set k x) := by simp [en2, List.map_set]
theorem en2_ok (l : List (Int × Int)) : OkE 2 (en2 l) := fun x hx => by
  obtain ⟨y, _, rfl⟩ := List.mem_map.1 hx
  exact ⟨rfl, fun u hu => by simp at hu; rcases hu with rfl | rfl <;> rfl⟩
def ch4 (l : List (Int × Int × Int × Int)) : List (List Value) := l.map fun x => [.int .i64 x.1, .int .i64 x.2.1, .int .i64 x.2.2.1, .int .i64 x.2.2.2]
@[simp] theorem ch4_len (l : List (Int × Int × Int × Int)) : (ch4 l).length = l.length := by simp [ch4]
theorem ch4_at {l : List (Int × Int × Int × Int)} {k : Nat} {x : (Int × Int × Int × Int)} (h : l[k]? = some x) : (ch4 l)[k]? = some [.int .i64 x.1, .int .i64 x.2.1, .int .i64 x.2.2.1, .int .i64 x.2.2.2] := by simp [ch4, h]
theorem ch4_app (l m : List (Int × Int × Int × Int)) : ch4 (l ++ m) = ch4 l ++ ch4 m := by simp [ch4]
theorem ch4_drop (l : List (Int × Int × Int × Int)) (k : Nat) : (ch4 l).drop k = ch4 (l.drop k) := by simp [ch4]
theorem ch4_take (l : List (Int × Int × Int × Int)) (k : Nat) : (ch4 l).take k = ch4 (l.take k) := by simp [ch4]
theorem ch4_nil : ch4 [] = [] := rfl
theorem ch4_snoc (l : List (Int × Int × Int × Int)) (x : (Int × Int × Int × Int)) : ch4 l ++ [[.int .i64 x.1, .int .i64 x.2.1, .int .i64 x.2.2.1, .int .i64 x.2.2.2]] = ch4 (l ++ [x]) := by simp [ch4]
theorem ch4_set (l : List (Int × Int × Int × Int)) (k : Nat) (x : (Int × Int × Int × Int)) : (ch4 l).set k [.int .i64 x.1, .int .i64 x.2.1, .int .i64 x.2.2.1, .int .i64 x.2.2.2] = ch4 (l.set k x) := by simp [ch4, List.map_set]
theorem ch4_ok (l : List (Int × Int × Int × Int)) : OkE 4 (ch4 l) := fun x hx => by
  obtain ⟨y, _, rfl⟩ := List.mem_map.1 hx
  exact ⟨rfl, fun u hu => by simp at hu; rcases hu with rfl | rfl | rfl | rfl <;> rfl⟩
def i64s (l : List Int) : List (List Value) := l.map fun x => [.int .i64 x]
@[simp] theorem i64s_len (l : List Int) : (i64s l).length = l.length := by simp [i64s]
theorem i64s_at {l : List Int} {k : Nat} {x : Int} (h : l[k]? = some x) : (i64s l)[k]? = some [.int .i64 x] := by simp [i64s, h]
theorem i64s_app (l m : List Int) : i64s (l ++ m) = i64s l ++ i64s m := by simp [i64s]
theorem i64s_drop (l : List Int) (k : Nat) : (i64s l).drop k = i64s (l.drop k) := by simp [i64s]
theorem i64s_take (l : List Int) (k : Nat) : (i64s l).take k = i64s (l.take k) := by simp [i64s]
theorem i64s_nil : i64s [] = [] := rfl
theorem i64s_snoc (l : List Int) (x : Int) : i64s l ++ [[.int .i64 x]] = i64s (l ++ [x]) := by simp [i64s]
theorem i64s_set (l : List Int) (k : Nat) (x : Int) : (i64s l).set k [.int .i64 x] = i64s (l.set k x) := by simp [i64s, List.map_set]
theorem i64s_ok (l : List Int) : OkE 1 (i64s l) := fun x hx => by
  obtain ⟨y, _, rfl⟩ := List.mem_map.1 hx
  exact ⟨rfl, fun u hu => by simp at hu; rcases hu with rfl <;> rfl⟩
theorem by8_set (l : List Int) (k : Nat) (x : Int) : (by8 l).set k [.int .u8 x] = by8 (l.set k x) := by simp [by8, List.map_set]
end Go.V

/-! ## Eq -/
namespace Go.V
open Go Go.RowKit

inductive FK where
  | int (k : IntKind)
  | bool
  | string
  | no
deriving DecidableEq
def fkind (P : Program) (ty : TypeId) : FK := match P.underlying ty with
  | some (.int k) => .int k
  | some .bool => .bool
  | some .string => .string
  | _ => .no
def tyv : Value → FK
  | .int k _ => .int k
  | .bool _ => .bool
  | .string _ => .string
  | _ => .no
def vEq : Value → Value → Bool
  | .int _ a, .int _ b => decide (a = b)
  | .bool a, .bool b => decide (a = b)
  | .string a, .string b => decide (a = b)
  | _, _ => false
def vEqs : List Value → List Value → Bool
  | [], _ => true
  | [x], y :: _ => vEq x y
  | x :: x2 :: xs, y :: ys => bif vEq x y then vEqs (x2 :: xs) ys else false
  | _ :: _, [] => false
def eqF (P : Program) : List Field → Nat → List FK → Bool
  | [], _, [] => true
  | f :: fs, i, k :: ks => f.offset == i && f.name != "_" && decide (fkind P f.type = k) && decide (k ≠ .no) && !isAggB P f.type && (P.underlying f.type).isSome && eqF P fs (i + 1) ks
  | _, _, _ => false
structure EqT (P : Program) (t : TypeId) (ks : List FK) : Prop where
  und : P.underlying t = some (.struct (P.fieldsOf t))
  held : P.stoodInHeld t = false
  guard : P.eqGuardType P.depth t = false
  fs : eqF P (P.fieldsOf t).toList 0 ks = true

section
variable {P : Program} {T : Tab} [hT : TabOk P T] {n : Nat} {os l : List Oper} {K : Kt} {F : Fm} {w g : World}

theorem run_vEq (d : Nat) (t : TypeId) (x y : Value) (hx : tyv x = fkind P t) (hy : tyv y = fkind P t) (hk : fkind P t ≠ .no) : (Op.equalIn (d + 1) t x y).run P w = .ok (vEq x y) w := by
  unfold fkind at hx hy hk
  split at hx
  · rename_i k hu
    cases x <;> simp [tyv] at hx
    simp only [hu] at hy
    cases y <;> simp [tyv] at hy
    subst hx; subst hy
    rw [run_equalIn_int w d t _ _ _ _ hu]; rfl
  · rename_i hu
    cases x <;> simp [tyv] at hx
    simp only [hu] at hy
    cases y <;> simp [tyv] at hy
    rw [run_equalIn_bool' w d t _ _ hu]; rfl
  · rename_i hu
    cases x <;> simp [tyv] at hx
    simp only [hu] at hy
    cases y <;> simp [tyv] at hy
    rename_i a b
    rw [run_equalIn_string w d t _ _ hu]
    congr 1
    simp only [vEq]
    by_cases h : a = b
    · subst h; simp
    · have : a.toList ≠ b.toList := fun e => h (by
        rw [ByteArray.toList_eq, ByteArray.toList_eq] at e
        obtain ⟨⟨x⟩⟩ := a
        obtain ⟨⟨y⟩⟩ := b
        have e : x = y := e
        rw [e])
      simp [h, this]
  · rename_i h1 h2 h3
    split at hk
    · rename_i k hu; exact absurd hu (h1 k)
    · rename_i hu; exact absurd hu h2
    · rename_i hu; exact absurd hu h3
    · exact absurd rfl hk
theorem run_eqFields (d : Nat) (X Y : Array Value) : ∀ (fs : List Field) (i : Nat) (ks : List FK) (xs ys : List Value), eqF P fs i ks = true → X.toList.drop i = xs → Y.toList.drop i = ys → xs.map tyv = ks → ys.map tyv = ks →
    (Op.eqFields (d + 1) X Y fs).run P w = .ok (vEqs xs ys) w
  | [], i, ks, xs, ys, h, hx, hy, kx, ky => by
    cases ks with
    | cons k ks => simp [eqF] at h
    | nil =>
      have : xs = [] := List.map_eq_nil_iff.1 kx
      subst this
      simp [Op.eqFields, vEqs]
  | f :: fs, i, [], xs, ys, h, hx, hy, kx, ky => by simp [eqF] at h
  | f :: fs, i, k :: ks, xs, ys, h, hx, hy, kx, ky => by
    simp only [eqF, Bool.and_eq_true, beq_iff_eq, bne_iff_ne, Bool.not_eq_true', decide_eq_true_eq] at h
    obtain ⟨⟨⟨⟨⟨⟨h1, h2⟩, h3⟩, h4⟩, h5⟩, h6⟩, h7⟩ := h
    match xs, kx with
    | x :: xs, kx =>
      match ys, ky with
      | y :: ys, ky =>
        simp only [List.map_cons, List.cons.injEq] at kx ky
        have hX : X[i]? = some x := by
          have : (X.toList.drop i)[0]? = some x := by rw [hx]; rfl
          simpa using this
        have hY : Y[i]? = some y := by
          have : (Y.toList.drop i)[0]? = some y := by rw [hy]; rfl
          simpa using this
        have px : (part f.type X f.offset).run P w = .ok x w := by
          rw [h1]; simp [part, run_isAgg w h6, h5, hX]
        have py : (part f.type Y f.offset).run P w = .ok y w := by
          rw [h1]; simp [part, run_isAgg w h6, h5, hY]
        have hx2 : X.toList.drop (i + 1) = xs := by rw [← List.drop_drop, hx]; rfl
        have hy2 : Y.toList.drop (i + 1) = ys := by rw [← List.drop_drop, hy]; rfl
        have ih := run_eqFields d X Y fs (i + 1) ks xs ys h7 hx2 hy2 kx.2 ky.2
        have he := run_vEq (P := P) (w := w) d f.type x y (by rw [kx.1, h3]) (by rw [ky.1, h3]) (by rw [h3]; exact h4)
        simp only [Op.eqFields, ne_eq, h2, not_false_eq_true, if_true, Sem.run_bind, px, py, he, Result.andThen_ok, Sem.run_ite, ih]
        cases hv : vEq x y with
        | true =>
          simp only [Bool.not_true, Bool.false_eq_true, if_false]
          congr 1
          match xs, kx.2 with
          | [], kk =>
            have : ks = [] := by rw [← kk]; rfl
            subst this
            simp [vEqs, hv]
          | x2 :: xs, _ => simp [vEqs, hv]
        | false =>
          simp only [Bool.not_false, if_true, Sem.run_pure]
          congr 1
          cases xs <;> simp [vEqs, hv]
/-- x == y, two structs -/
theorem WL.eqS {o : Oper} {t yt : TypeId} {x y : Operand} {ks : List FK} {xs ys : List Value} (hg : o.guard = none) (ho : o.op = .binOp .eql t x y yt) (hE : EqT P t ks) (hx : ev F x = .agg xs.toArray) (hy : ev F y = .agg ys.toArray) (kx : xs.map tyv = ks) (ky : ys.map tyv = ks)
    (hk : WL P n os l K (updo F o.dst (.bool (vEqs xs ys))) w) : WL P n os (o :: l) K F w := by
  refine WL.val hg (fun hok => ?_) hk
  have e1 := okX_at (F := F) hok (x := x) (by simp [ho, Op.operands])
  have e2 := okX_at (F := F) hok (x := y) (by simp [ho, Op.operands])
  have h1 := run_equalIn_agg (P := P) w 9999 t xs.toArray ys.toArray hE.und hE.held
  have h2 := run_eqFields (P := P) (w := w) 9998 xs.toArray ys.toArray _ 0 ks xs ys hE.fs (by simp) (by simp) kx ky
  simp only [execOp, ho, e1, e2, hx, hy, Sem.run_bind, run_eqGuard_agg w _ _ _ _ _ _ hE.guard, run_eql_struct, h1, h2, Result.andThen_ok, Sem.run_pure]
/-- x != y, two structs -/
theorem WL.neS {o : Oper} {t yt : TypeId} {x y : Operand} {ks : List FK} {xs ys : List Value} (hg : o.guard = none) (ho : o.op = .binOp .neq t x y yt) (hE : EqT P t ks) (hx : ev F x = .agg xs.toArray) (hy : ev F y = .agg ys.toArray) (kx : xs.map tyv = ks) (ky : ys.map tyv = ks)
    (hk : WL P n os l K (updo F o.dst (.bool (!vEqs xs ys))) w) : WL P n os (o :: l) K F w := by
  refine WL.val hg (fun hok => ?_) hk
  have e1 := okX_at (F := F) hok (x := x) (by simp [ho, Op.operands])
  have e2 := okX_at (F := F) hok (x := y) (by simp [ho, Op.operands])
  have h1 := run_equalIn_agg (P := P) w 9999 t xs.toArray ys.toArray hE.und hE.held
  have h2 := run_eqFields (P := P) (w := w) 9998 xs.toArray ys.toArray _ 0 ks xs ys hE.fs (by simp) (by simp) kx ky
  simp only [execOp, ho, e1, e2, hx, hy, Sem.run_bind, run_eqGuard_agg w _ _ _ _ _ _ hE.guard, run_neq_struct, h1, h2, Result.andThen_ok, Sem.run_pure]
end
end Go.V

/-! ## Qui -/
namespace Go.V
open Go Go.RowKit

section
variable {P : Program} {T : Tab} [hT : TabOk P T] {n : Nat} {os l : List Oper} {K : Fm → Prop} {F : Fm} {w g : World} {L : List HP} {size bytes : Nat} {z : Array Value}
theorem WQ.val {o : Oper} {v : Value} (hg : o.guard = none) (hr : okO n o = true → ∀ m, (execOp (act n F).eval o).run P (w.drewN m) = .ok (.value v) (w.drewN m)) (hk : WQ P n os l w K (updo F o.dst v)) : WQ P n os (o :: l) w K F :=
  ⟨fun h1 h2 => by
    obtain ⟨h3, h4⟩ := okL_cons h2
    unfold wpQuiet
    rw [if_pos (by simp [Region.wanted, hg])]
    refine ⟨v, ?_, ?_⟩
    · rintro w' ⟨m, rfl⟩
      unfold Oper.quietAt
      rw [hr h3 m]
      exact ⟨rfl, rfl⟩
    · rw [act_put]
      exact hk.go h1 h4⟩
theorem WQ.ldF {o : Oper} {t : TypeId} {x : Operand} {b : Nat} {cs : Array Value} {t' : TypeId} (hg : o.guard = none) (ho : o.op = .load t x) (i : Nat) (hS : St g L w) (hi : L[i]? = some (cel b cs t')) (hx : ev F x = .pointer (some ⟨b, 0, none⟩)) (ht : AggT P t cs.size)
    (hk : WQ P n os l w K (updo F o.dst (.agg cs))) : WQ P n os (o :: l) w K F := by
  refine WQ.val hg (fun hok mm => ?_) hk
  generalize hw0 : w.drewN mm = w0
  replace hS : St g L w0 := hw0 ▸ hS.drewN mm
  clear hw0
  have e1 := okX_at (F := F) hok (x := x) (by simp [ho, Op.operands])
  have hl := run_loadAgg (P := P) (w := w0) (b := b) (off := 0) (cs := cs.toList) ht (by simp) (fun j u hj => by rw [Nat.zero_add]; exact hS.ld i hi (by simpa using hj))
  simp only [execOp, ho, e1, hx, Instr.loadAt, Instr.sureAddr, Sem.run_bind, Sem.run_pure, Result.andThen_ok, hl, Array.toArray_toList]
theorem WQ.ldC {o : Oper} {t : TypeId} {x : Operand} {b off : Nat} (hg : o.guard = none) (ho : o.op = .load t x) (cs : List Value) (ht : AggT P t cs.length) (hx : ev F x = .pointer (some ⟨b, off, none⟩)) (hc : ∀ (j : Nat) (u : Value), cs[j]? = some u → w.cell? ⟨b, off + j, none⟩ = some u)
    (hk : WQ P n os l w K (updo F o.dst (.agg cs.toArray))) : WQ P n os (o :: l) w K F := by
  refine WQ.val hg (fun hok mm => ?_) hk
  generalize hw0 : w.drewN mm = w0
  replace hc : ∀ (j : Nat) (u : Value), cs[j]? = some u → w0.cell? ⟨b, off + j, none⟩ = some u := by subst hw0; exact hc
  clear hw0
  have e1 := okX_at (F := F) hok (x := x) (by simp [ho, Op.operands])
  simp only [execOp, ho, e1, hx, Instr.loadAt, Instr.sureAddr, Sem.run_bind, Sem.run_pure, Result.andThen_ok, run_loadAgg ht rfl hc]
theorem WQ.ix {o : Oper} {t e : TypeId} {z : Array Value} {size bytes m c : Nat} {x y : Operand} {a : Option Addr} {kk : IntKind} {i : Int} (hg : o.guard = none) (ho : o.op = .indexAddr t x y) (k : Nat) (hE : Elem P t e z size bytes) (hx : ev F x = .slice a m c) (hy : ev F y = .int kk i) (hik : i = k) (hlt : k < m) (hA : IsA a)
    (hk : WQ P n os l w K (updo F o.dst (.pointer (some ⟨bo a, oo a + k * size, none⟩)))) : WQ P n os (o :: l) w K F := by
  refine WQ.val hg (fun hok mm => ?_) hk
  generalize hw0 : w.drewN mm = w0
  clear hw0
  have e1 := okX_at (F := F) hok (x := x) (by simp [ho, Op.operands])
  have e2 := okX_at (F := F) hok (x := y) (by simp [ho, Op.operands])
  obtain ⟨b, off, rfl⟩ := hA
  obtain ⟨info, zv, h1, h2, h3, h4, h5⟩ := hE.info
  subst hik
  have hr : (0 : Int) ≤ k ∧ (k : Int) < m := by omega
  have hadd : (⟨b, off, none⟩ : Addr).add (k * size) = ⟨b, off + k * size, none⟩ := by unfold Addr.add; split <;> simp_all
  simp only [execOp, ho, e1, hx, e2, hy, Instr.indexAt, asIntOf, Sem.run_bind, Sem.run_pure, Result.andThen_ok, run_underlying hE.und, hr, and_self, if_true]
  simp [sizeOf, typeInfo, h1, h4, hadd, bo, oo]
theorem WQ.build {o : Oper} {t : TypeId} {ps : List (Nat × Operand)} {pl : List (Nat × Nat × Bool)} {cs : List Value} (hg : o.guard = none) (ho : o.op = .build t ps.toArray) (hz : ZV P t z) (hf : lk T.flds t = some pl) (h : fillL (plF pl) z.toList (evP F ps) = some cs)
    (hk : WQ P n os l w K (updo F o.dst (.agg cs.toArray))) : WQ P n os (o :: l) w K F := by
  obtain ⟨i, zv, h1, h2, h3⟩ := hz
  obtain ⟨h4, fs, h5, h6⟩ := (Tab.parts (P := P) (T := T)).2.2.2.2.2.1 _ (lk_mem _ _ _ hf)
  refine WQ.val hg (fun hok mm => ?_) hk
  generalize hw0 : w.drewN mm = w0
  clear hw0
  have hev := evP_act (F := F) (ps := ps) hok (fun p hp => by
    simp only [ho, Op.operands]
    exact List.mem_map.2 ⟨p, by simpa using hp, rfl⟩)
  have hpl : (fs.toList.mapM fun (f : Field) => (do pure (f.offset, ← sizeOf f.type) : Sem (Nat × Nat))).run P w0 = .ok (pl.map fun r => (r.1, r.2.1)) w0 := by
    refine run_mapM _ w0 _ _ (by simpa using h6) fun j f r hj hr => ?_
    rw [List.getElem?_map] at hr
    cases hq : pl[j]? with
    | none => simp [hq] at hr
    | some r0 =>
      simp only [hq, Option.map_some, Option.some.injEq] at hr
      have h7 := idxAll_spec pl 0 h4 j r0 hq
      simp only [Nat.zero_add, fieldB, h5] at h7
      have hj' : fs[j]? = some f := by simpa using hj
      simp only [hj', Bool.and_eq_true, beq_iff_eq] at h7
      obtain ⟨⟨⟨⟨q1, q2⟩, _⟩, _⟩, _⟩ := h7
      split at q2
      · rename_i info hinfo
        simp only [Sem.run_bind, run_sizeOf w0 ⟨info, hinfo, rfl⟩, Result.andThen_ok, Sem.run_pure, ← hr, q1]
        simp at q2; rw [q2]
      · cases q2
  have hfill := fill_eq (plF pl) (evP F ps) z.toList cs h
  have e0 : (fun i => ((pl.map fun r => (r.1, r.2.1)).toArray)[i]?) = plF pl := by
    funext i
    simp only [plF, nth_eq, List.getElem?_toArray, List.getElem?_map]
    cases pl[i]? <;> rfl
  have e1 : fs = fs.toList.toArray := by simp
  have e2 : (fs.mapM fun (f : Field) => (do pure (f.offset, ← sizeOf f.type) : Sem (Nat × Nat))).run P w0 = .ok (pl.map fun r => (r.1, r.2.1)).toArray w0 := by
    rw [e1, List.mapM_toArray]
    simp only [Sem.run_map, hpl, Result.andThen_ok]
  simp only [Array.toArray_toList] at hfill
  have hzv : (zeroValue t).run P w0 = .ok zv w0 := by simp [zeroValue, typeInfo, h1, h2]
  simp only [execOp, ho, Instr.build, Sem.run_bind, hzv, Sem.run_pure, Result.andThen_ok, run_underlying h5, h3, e2, e0, hev, hfill]
theorem WQ.eqS {o : Oper} {t yt : TypeId} {x y : Operand} {ks : List FK} {xs ys : List Value} (hg : o.guard = none) (ho : o.op = .binOp .eql t x y yt) (hE : EqT P t ks) (hx : ev F x = .agg xs.toArray) (hy : ev F y = .agg ys.toArray) (kx : xs.map tyv = ks) (ky : ys.map tyv = ks)
    (hk : WQ P n os l w K (updo F o.dst (.bool (vEqs xs ys)))) : WQ P n os (o :: l) w K F := by
  refine WQ.val hg (fun hok mm => ?_) hk
  generalize hw0 : w.drewN mm = w0
  clear hw0
  have e1 := okX_at (F := F) hok (x := x) (by simp [ho, Op.operands])
  have e2 := okX_at (F := F) hok (x := y) (by simp [ho, Op.operands])
  have h1 := run_equalIn_agg (P := P) w0 9999 t xs.toArray ys.toArray hE.und hE.held
  have h2 := run_eqFields (P := P) (w := w0) 9998 xs.toArray ys.toArray _ 0 ks xs ys hE.fs (by simp) (by simp) kx ky
  simp only [execOp, ho, e1, e2, hx, hy, Sem.run_bind, run_eqGuard_agg w0 _ _ _ _ _ _ hE.guard, run_eql_struct, h1, h2, Result.andThen_ok, Sem.run_pure]
theorem WQ.neS {o : Oper} {t yt : TypeId} {x y : Operand} {ks : List FK} {xs ys : List Value} (hg : o.guard = none) (ho : o.op = .binOp .neq t x y yt) (hE : EqT P t ks) (hx : ev F x = .agg xs.toArray) (hy : ev F y = .agg ys.toArray) (kx : xs.map tyv = ks) (ky : ys.map tyv = ks)
    (hk : WQ P n os l w K (updo F o.dst (.bool (!vEqs xs ys)))) : WQ P n os (o :: l) w K F := by
  refine WQ.val hg (fun hok mm => ?_) hk
  generalize hw0 : w.drewN mm = w0
  clear hw0
  have e1 := okX_at (F := F) hok (x := x) (by simp [ho, Op.operands])
  have e2 := okX_at (F := F) hok (x := y) (by simp [ho, Op.operands])
  have h1 := run_equalIn_agg (P := P) w0 9999 t xs.toArray ys.toArray hE.und hE.held
  have h2 := run_eqFields (P := P) (w := w0) 9998 xs.toArray ys.toArray _ 0 ks xs ys hE.fs (by simp) (by simp) kx ky
  simp only [execOp, ho, e1, e2, hx, hy, Sem.run_bind, run_eqGuard_agg w0 _ _ _ _ _ _ hE.guard, run_neq_struct, h1, h2, Result.andThen_ok, Sem.run_pure]
theorem WQ.ixs {o : Oper} {t : TypeId} {x y : Operand} {s : ByteArray} {kk : IntKind} {v : Int} (hg : o.guard = none) (ho : o.op = .index t x y) (k : Nat) {b : Int} (hT : mem T.strs t = true) (hx : ev F x = .string s) (hy : ev F y = .int kk v) (hv : v = k) (hb : (sb s)[k]? = some b)
    (hk : WQ P n os l w K (updo F o.dst (.int .u8 b))) : WQ P n os (o :: l) w K F := by
  subst hv
  have hu : P.underlying t = some .string := Tab.str hT
  refine WQ.val hg (fun hok mm => ?_) hk
  generalize hw0 : w.drewN mm = w0
  clear hw0
  have e1 := okX_at (F := F) hok (x := x) (by simp [ho, Op.operands])
  have e2 := okX_at (F := F) hok (x := y) (by simp [ho, Op.operands])
  simp only [sb, List.getElem?_map] at hb
  cases hq : s.data.toList[k]? with
  | none => simp [hq] at hb
  | some c =>
    simp only [hq, Option.map_some, Option.some.injEq] at hb
    have hs : s[k]? = some c := by
      have hlt := (List.getElem?_eq_some_iff.1 hq).1
      have hlt2 : k < s.size := by simpa using hlt
      have h3 : s[k] = c := (List.getElem?_eq_some_iff.1 hq).2
      rw [getElem?_pos s k hlt2, h3]
    subst hb
    simp [execOp, ho, e1, hx, e2, hy, Instr.index, asIntOf, run_underlying hu, hs]
theorem RQ.val {o : Oper} {v : Value} {d : Nat} (hg : o.guard = none) (hr : okO n o = true → ∀ m, (execOp (act n F).eval o).run P (w.drewN m) = .ok (.value v) (w.drewN m)) (hd : o.dst = some d) (hv : F d = v) : RQ P n os w F o :=
  ⟨fun _ h2 => by
    unfold wpQuiet
    rw [if_pos (by simp [Region.wanted, hg])]
    refine ⟨v, ?_, ?_⟩
    · rintro w' ⟨m, rfl⟩
      unfold Oper.quietAt
      rw [hr h2 m]
      exact ⟨rfl, rfl⟩
    · show _ = _
      rw [act_put, hd]
      show act n (upd F d v) = _
      rw [rebase hv]⟩
theorem RQ.ldF {o : Oper} {t : TypeId} {x : Operand} {b : Nat} {cs : Array Value} {t' : TypeId} (hg : o.guard = none) (ho : o.op = .load t x) (i : Nat) (hS : St g L w) (hi : L[i]? = some (cel b cs t')) (hx : ev F x = .pointer (some ⟨b, 0, none⟩)) (ht : AggT P t cs.size)
    {d : Nat} (hd : o.dst = some d) (hfd : F d = (.agg cs)) : RQ P n os w F o := by
  refine RQ.val hg (fun hok mm => ?_) hd hfd
  generalize hw0 : w.drewN mm = w0
  replace hS : St g L w0 := hw0 ▸ hS.drewN mm
  clear hw0
  have e1 := okX_at (F := F) hok (x := x) (by simp [ho, Op.operands])
  have hl := run_loadAgg (P := P) (w := w0) (b := b) (off := 0) (cs := cs.toList) ht (by simp) (fun j u hj => by rw [Nat.zero_add]; exact hS.ld i hi (by simpa using hj))
  simp only [execOp, ho, e1, hx, Instr.loadAt, Instr.sureAddr, Sem.run_bind, Sem.run_pure, Result.andThen_ok, hl, Array.toArray_toList]
theorem RQ.ldC {o : Oper} {t : TypeId} {x : Operand} {b off : Nat} (hg : o.guard = none) (ho : o.op = .load t x) (cs : List Value) (ht : AggT P t cs.length) (hx : ev F x = .pointer (some ⟨b, off, none⟩)) (hc : ∀ (j : Nat) (u : Value), cs[j]? = some u → w.cell? ⟨b, off + j, none⟩ = some u)
    {d : Nat} (hd : o.dst = some d) (hfd : F d = (.agg cs.toArray)) : RQ P n os w F o := by
  refine RQ.val hg (fun hok mm => ?_) hd hfd
  generalize hw0 : w.drewN mm = w0
  replace hc : ∀ (j : Nat) (u : Value), cs[j]? = some u → w0.cell? ⟨b, off + j, none⟩ = some u := by subst hw0; exact hc
  clear hw0
  have e1 := okX_at (F := F) hok (x := x) (by simp [ho, Op.operands])
  simp only [execOp, ho, e1, hx, Instr.loadAt, Instr.sureAddr, Sem.run_bind, Sem.run_pure, Result.andThen_ok, run_loadAgg ht rfl hc]
theorem RQ.ix {o : Oper} {t e : TypeId} {z : Array Value} {size bytes m c : Nat} {x y : Operand} {a : Option Addr} {kk : IntKind} {i : Int} (hg : o.guard = none) (ho : o.op = .indexAddr t x y) (k : Nat) (hE : Elem P t e z size bytes) (hx : ev F x = .slice a m c) (hy : ev F y = .int kk i) (hik : i = k) (hlt : k < m) (hA : IsA a)
    {d : Nat} (hd : o.dst = some d) (hfd : F d = (.pointer (some ⟨bo a, oo a + k * size, none⟩))) : RQ P n os w F o := by
  refine RQ.val hg (fun hok mm => ?_) hd hfd
  generalize hw0 : w.drewN mm = w0
  clear hw0
  have e1 := okX_at (F := F) hok (x := x) (by simp [ho, Op.operands])
  have e2 := okX_at (F := F) hok (x := y) (by simp [ho, Op.operands])
  obtain ⟨b, off, rfl⟩ := hA
  obtain ⟨info, zv, h1, h2, h3, h4, h5⟩ := hE.info
  subst hik
  have hr : (0 : Int) ≤ k ∧ (k : Int) < m := by omega
  have hadd : (⟨b, off, none⟩ : Addr).add (k * size) = ⟨b, off + k * size, none⟩ := by unfold Addr.add; split <;> simp_all
  simp only [execOp, ho, e1, hx, e2, hy, Instr.indexAt, asIntOf, Sem.run_bind, Sem.run_pure, Result.andThen_ok, run_underlying hE.und, hr, and_self, if_true]
  simp [sizeOf, typeInfo, h1, h4, hadd, bo, oo]
theorem RQ.build {o : Oper} {t : TypeId} {ps : List (Nat × Operand)} {pl : List (Nat × Nat × Bool)} {cs : List Value} (hg : o.guard = none) (ho : o.op = .build t ps.toArray) (hz : ZV P t z) (hf : lk T.flds t = some pl) (h : fillL (plF pl) z.toList (evP F ps) = some cs)
    {d : Nat} (hd : o.dst = some d) (hfd : F d = (.agg cs.toArray)) : RQ P n os w F o := by
  obtain ⟨i, zv, h1, h2, h3⟩ := hz
  obtain ⟨h4, fs, h5, h6⟩ := (Tab.parts (P := P) (T := T)).2.2.2.2.2.1 _ (lk_mem _ _ _ hf)
  refine RQ.val hg (fun hok mm => ?_) hd hfd
  generalize hw0 : w.drewN mm = w0
  clear hw0
  have hev := evP_act (F := F) (ps := ps) hok (fun p hp => by
    simp only [ho, Op.operands]
    exact List.mem_map.2 ⟨p, by simpa using hp, rfl⟩)
  have hpl : (fs.toList.mapM fun (f : Field) => (do Pure.pure (f.offset, ← sizeOf f.type) : Sem (Nat × Nat))).run P w0 = .ok (pl.map fun r => (r.1, r.2.1)) w0 := by
    refine run_mapM _ w0 _ _ (by simpa using h6) fun j f r hj hr => ?_
    rw [List.getElem?_map] at hr
    cases hq : pl[j]? with
    | none => simp [hq] at hr
    | some r0 =>
      simp only [hq, Option.map_some, Option.some.injEq] at hr
      have h7 := idxAll_spec pl 0 h4 j r0 hq
      simp only [Nat.zero_add, fieldB, h5] at h7
      have hj' : fs[j]? = some f := by simpa using hj
      simp only [hj', Bool.and_eq_true, beq_iff_eq] at h7
      obtain ⟨⟨⟨⟨q1, q2⟩, _⟩, _⟩, _⟩ := h7
      split at q2
      · rename_i info hinfo
        simp only [Sem.run_bind, run_sizeOf w0 ⟨info, hinfo, rfl⟩, Result.andThen_ok, Sem.run_pure, ← hr, q1]
        simp at q2; rw [q2]
      · cases q2
  have hfill := fill_eq (plF pl) (evP F ps) z.toList cs h
  have e0 : (fun i => ((pl.map fun r => (r.1, r.2.1)).toArray)[i]?) = plF pl := by
    funext i
    simp only [plF, nth_eq, List.getElem?_toArray, List.getElem?_map]
    cases pl[i]? <;> rfl
  have e1 : fs = fs.toList.toArray := by simp
  have e2 : (fs.mapM fun (f : Field) => (do Pure.pure (f.offset, ← sizeOf f.type) : Sem (Nat × Nat))).run P w0 = .ok (pl.map fun r => (r.1, r.2.1)).toArray w0 := by
    rw [e1, List.mapM_toArray]
    simp only [Sem.run_map, hpl, Result.andThen_ok]
  simp only [Array.toArray_toList] at hfill
  have hzv : (zeroValue t).run P w0 = .ok zv w0 := by simp [zeroValue, typeInfo, h1, h2]
  simp only [execOp, ho, Instr.build, Sem.run_bind, hzv, Sem.run_pure, Result.andThen_ok, run_underlying h5, h3, e2, e0, hev, hfill]
theorem RQ.eqS {o : Oper} {t yt : TypeId} {x y : Operand} {ks : List FK} {xs ys : List Value} (hg : o.guard = none) (ho : o.op = .binOp .eql t x y yt) (hE : EqT P t ks) (hx : ev F x = .agg xs.toArray) (hy : ev F y = .agg ys.toArray) (kx : xs.map tyv = ks) (ky : ys.map tyv = ks)
    {d : Nat} (hd : o.dst = some d) (hfd : F d = (.bool (vEqs xs ys))) : RQ P n os w F o := by
  refine RQ.val hg (fun hok mm => ?_) hd hfd
  generalize hw0 : w.drewN mm = w0
  clear hw0
  have e1 := okX_at (F := F) hok (x := x) (by simp [ho, Op.operands])
  have e2 := okX_at (F := F) hok (x := y) (by simp [ho, Op.operands])
  have h1 := run_equalIn_agg (P := P) w0 9999 t xs.toArray ys.toArray hE.und hE.held
  have h2 := run_eqFields (P := P) (w := w0) 9998 xs.toArray ys.toArray _ 0 ks xs ys hE.fs (by simp) (by simp) kx ky
  simp only [execOp, ho, e1, e2, hx, hy, Sem.run_bind, run_eqGuard_agg w0 _ _ _ _ _ _ hE.guard, run_eql_struct, h1, h2, Result.andThen_ok, Sem.run_pure]
theorem RQ.neS {o : Oper} {t yt : TypeId} {x y : Operand} {ks : List FK} {xs ys : List Value} (hg : o.guard = none) (ho : o.op = .binOp .neq t x y yt) (hE : EqT P t ks) (hx : ev F x = .agg xs.toArray) (hy : ev F y = .agg ys.toArray) (kx : xs.map tyv = ks) (ky : ys.map tyv = ks)
    {d : Nat} (hd : o.dst = some d) (hfd : F d = (.bool (!vEqs xs ys))) : RQ P n os w F o := by
  refine RQ.val hg (fun hok mm => ?_) hd hfd
  generalize hw0 : w.drewN mm = w0
  clear hw0
  have e1 := okX_at (F := F) hok (x := x) (by simp [ho, Op.operands])
  have e2 := okX_at (F := F) hok (x := y) (by simp [ho, Op.operands])
  have h1 := run_equalIn_agg (P := P) w0 9999 t xs.toArray ys.toArray hE.und hE.held
  have h2 := run_eqFields (P := P) (w := w0) 9998 xs.toArray ys.toArray _ 0 ks xs ys hE.fs (by simp) (by simp) kx ky
  simp only [execOp, ho, e1, e2, hx, hy, Sem.run_bind, run_eqGuard_agg w0 _ _ _ _ _ _ hE.guard, run_neq_struct, h1, h2, Result.andThen_ok, Sem.run_pure]
theorem RQ.ixs {o : Oper} {t : TypeId} {x y : Operand} {s : ByteArray} {kk : IntKind} {v : Int} (hg : o.guard = none) (ho : o.op = .index t x y) (k : Nat) {b : Int} (hT : mem T.strs t = true) (hx : ev F x = .string s) (hy : ev F y = .int kk v) (hv : v = k) (hb : (sb s)[k]? = some b)
    {d : Nat} (hd : o.dst = some d) (hfd : F d = (.int .u8 b)) : RQ P n os w F o := by
  subst hv
  have hu : P.underlying t = some .string := Tab.str hT
  refine RQ.val hg (fun hok mm => ?_) hd hfd
  generalize hw0 : w.drewN mm = w0
  clear hw0
  have e1 := okX_at (F := F) hok (x := x) (by simp [ho, Op.operands])
  have e2 := okX_at (F := F) hok (x := y) (by simp [ho, Op.operands])
  simp only [sb, List.getElem?_map] at hb
  cases hq : s.data.toList[k]? with
  | none => simp [hq] at hb
  | some c =>
    simp only [hq, Option.map_some, Option.some.injEq] at hb
    have hs : s[k]? = some c := by
      have hlt := (List.getElem?_eq_some_iff.1 hq).1
      have hlt2 : k < s.size := by simpa using hlt
      have h3 : s[k] = c := (List.getElem?_eq_some_iff.1 hq).2
      rw [getElem?_pos s k hlt2, h3]
    subst hb
    simp [execOp, ho, e1, hx, e2, hy, Instr.index, asIntOf, run_underlying hu, hs]
theorem St.part {b t off : Nat} {cs : Array Value} {sub : List Value} (h : St g L w) (i : Nat) (hi : L[i]? = some (cel b cs t)) (hs : (cs.toList.drop off).take sub.length = sub) : ∀ (j : Nat) (u : Value), sub[j]? = some u → w.cell? ⟨b, off + j, none⟩ = some u := fun j u hj => h.ld i hi (by
  have hlt := (List.getElem?_eq_some_iff.1 hj).1
  rw [← hs, List.getElem?_take_of_lt hlt, List.getElem?_drop] at hj
  simpa using hj)
end
section
variable {P : Program} {T : Tab} [hT : TabOk P T] {n : Nat} {os l : List Oper} {K : Kt} {F : Fm} {w : World}
theorem wanted_at (hos : okL n os = true) {o : Oper} {i d : Nat} {b v : Bool} (hg : o.guard = some (i, b)) (hs : gslot os i = some d) (hv : F d = .bool v) : Region.wanted o (yielded os.toArray (act n F).tmps) = (v == b) := by
  unfold Region.wanted
  simp only [hg]
  unfold gslot at hs
  rw [nth_eq] at hs
  cases hj : os[i]? with
  | none => simp [hj] at hs
  | some oj =>
    simp only [hj] at hs
    have hlt : d < n := by
      have h1 := okL_get os hos i oj hj
      simp only [okO, hs, okD, Bool.and_eq_true] at h1
      exact blt_iff.1 h1.2
    simp [yielded, hj, hs, act_get? n F d hlt, hv]
/-- an operation whose guard holds -/
theorem WL.ung {o : Oper} {i d : Nat} {b : Bool} (hg : o.guard = some (i, b)) (hs : gslot os i = some d) (hv : F d = .bool b) (h : WL P n os ({ o with guard := none } :: l) K F w) : WL P n os (o :: l) K F w :=
  ⟨fun h1 h2 => by
    have h3 := h.go h1 h2
    have hw := wanted_at (F := F) h1 hg hs hv
    unfold wpList at h3 ⊢
    rw [if_pos (by simp [Region.wanted])] at h3
    rw [if_pos (by rw [hw]; simp)]
    exact h3⟩
/-- an operation whose guard does not hold -/
theorem WL.skp {o : Oper} {i d : Nat} {b v : Bool} (hg : o.guard = some (i, b)) (hs : gslot os i = some d) (hv : F d = .bool v) (hne : (v == b) = false) (h : WL P n os l K (updo F o.dst undef) w) : WL P n os (o :: l) K F w :=
  ⟨fun h1 h2 => by
    obtain ⟨_, h4⟩ := okL_cons h2
    have hw := wanted_at (F := F) h1 hg hs hv
    unfold wpList
    rw [if_neg (by rw [hw, hne]; decide), act_put]
    exact h.go h1 h4⟩
theorem WQ.ung {K : Fm → Prop} {o : Oper} {i d : Nat} {b : Bool} (hg : o.guard = some (i, b)) (hs : gslot os i = some d) (hv : F d = .bool b) (h : WQ P n os ({ o with guard := none } :: l) w K F) : WQ P n os (o :: l) w K F :=
  ⟨fun h1 h2 => by
    have h3 := h.go h1 h2
    have hw := wanted_at (F := F) h1 hg hs hv
    unfold wpQuiet at h3 ⊢
    rw [if_pos (by simp [Region.wanted])] at h3
    rw [if_pos (by rw [hw]; simp)]
    exact h3⟩
theorem WQ.skp {K : Fm → Prop} {o : Oper} {i d : Nat} {b v : Bool} (hg : o.guard = some (i, b)) (hs : gslot os i = some d) (hv : F d = .bool v) (hne : (v == b) = false) (h : WQ P n os l w K (updo F o.dst undef)) : WQ P n os (o :: l) w K F :=
  ⟨fun h1 h2 => by
    obtain ⟨_, h4⟩ := okL_cons h2
    have hw := wanted_at (F := F) h1 hg hs hv
    unfold wpQuiet
    rw [if_neg (by rw [hw, hne]; decide), act_put]
    exact h.go h1 h4⟩
theorem RQ.ung {o : Oper} {i d : Nat} {b : Bool} (hg : o.guard = some (i, b)) (hs : gslot os i = some d) (hv : F d = .bool b) (h : RQ P n os w F { o with guard := none }) : RQ P n os w F o :=
  ⟨fun h1 h2 => by
    have h3 := h.go h1 h2
    have hw := wanted_at (F := F) h1 hg hs hv
    unfold wpQuiet at h3 ⊢
    rw [if_pos (by simp [Region.wanted])] at h3
    rw [if_pos (by rw [hw]; simp)]
    exact h3⟩
theorem RQ.skp {o : Oper} {i d t : Nat} {b v : Bool} (hg : o.guard = some (i, b)) (hs : gslot os i = some d) (hv : F d = .bool v) (hne : (v == b) = false) (hd : o.dst = some t) (hu : F t = undef) : RQ P n os w F o :=
  ⟨fun h1 _ => by
    have hw := wanted_at (F := F) h1 hg hs hv
    unfold wpQuiet
    rw [if_neg (by rw [hw, hne]; decide), act_put, hd]
    show _ = _
    show act n (upd F t undef) = _
    rw [rebase hu]⟩
end
end Go.V

/-! ## Enx -/
namespace Go.V
open Go Go.RowKit

theorem sb_extract (s : ByteArray) (a b : Nat) : sb (s.extract a b) = ((sb s).take b).drop a := by
  unfold sb
  rw [ByteArray.data_extract, Array.toList_extract, List.extract_eq_take_drop, ← List.map_take, ← List.map_drop, List.drop_take]
theorem mkS_extract (s : ByteArray) (a b : Nat) : s.extract a b = mkS (((sb s).take b).drop a) := by rw [← sb_extract, mkS_sb]
section
variable {P : Program} {T : Tab} [hT : TabOk P T] {n : Nat} {os l : List Oper} {K : Kt} {F : Fm} {w : World}
theorem run_slS {t : TypeId} {x : Value} {lo hi : Option Value} {v : Value} {w : World} (hu : P.underlying t = some .string) (h : (Instr.slice t x lo hi none).run P w = .ok v w) : (Instr.sliceAt t x lo hi none).run P w = .ok v w := by
  simp only [Instr.sliceAt, Sem.run_bind, run_underlying hu, Result.andThen_ok, h]
/-- s[:hi] -/
theorem WL.ssHi {o : Oper} {t : TypeId} {x y : Operand} {kk : IntKind} {v : Int} {s : ByteArray} (hg : o.guard = none) (ho : o.op = .slice t x none (some y) none) (hi : Nat) (hT : mem T.strs t = true) (hx : ev F x = .string s) (hy : ev F y = .int kk v) (hv : v = hi) (hle : hi ≤ s.size)
    (hk : WL P n os l K (updo F o.dst (.string (mkS ((sb s).take hi)))) w) : WL P n os (o :: l) K F w := by
  subst hv
  have hu : P.underlying t = some .string := Tab.str hT
  refine WL.val hg (fun hok => ?_) hk
  have e1 := okX_at (F := F) hok (x := x) (by simp [ho, Op.operands])
  have e2 := okX_at (F := F) hok (x := y) (by simp [ho, Op.operands])
  have hr := run_slS (v := .string (mkS ((sb s).take hi))) hu (by
    rw [run_slice_string_to_if w t s kk (hi : Int) hu, if_pos (by omega), mkS_extract]; simp)
  simp only [execOp, ho, e1, hx, Option.map_some, Option.map_none, e2, hy, Sem.run_bind, hr, Result.andThen_ok, Sem.run_pure]
/-- s[lo:] -/
theorem WL.ssLo {o : Oper} {t : TypeId} {x y : Operand} {kk : IntKind} {v : Int} {s : ByteArray} (hg : o.guard = none) (ho : o.op = .slice t x (some y) none none) (lo : Nat) (hT : mem T.strs t = true) (hx : ev F x = .string s) (hy : ev F y = .int kk v) (hv : v = lo) (hle : lo ≤ s.size)
    (hk : WL P n os l K (updo F o.dst (.string (mkS ((sb s).drop lo)))) w) : WL P n os (o :: l) K F w := by
  subst hv
  have hu : P.underlying t = some .string := Tab.str hT
  refine WL.val hg (fun hok => ?_) hk
  have e1 := okX_at (F := F) hok (x := x) (by simp [ho, Op.operands])
  have e2 := okX_at (F := F) hok (x := y) (by simp [ho, Op.operands])
  have hr := run_slS (v := .string (mkS ((sb s).drop lo))) hu (by
    rw [run_slice_string_from_if w t s kk (lo : Int) hu, if_pos (by omega), mkS_extract, List.take_of_length_le (by rw [sb_len]; exact Nat.le_refl _)]; simp)
  simp only [execOp, ho, e1, hx, Option.map_some, Option.map_none, e2, hy, Sem.run_bind, hr, Result.andThen_ok, Sem.run_pure]
/-- s[lo:hi] -/
theorem WL.ssLH {o : Oper} {t : TypeId} {x y y' : Operand} {kk kk' : IntKind} {v v' : Int} {s : ByteArray} (hg : o.guard = none) (ho : o.op = .slice t x (some y) (some y') none) (lo hi : Nat) (hT : mem T.strs t = true) (hx : ev F x = .string s) (hy : ev F y = .int kk v) (hv : v = lo) (hy' : ev F y' = .int kk' v') (hv' : v' = hi) (hlh : lo ≤ hi) (hle : hi ≤ s.size)
    (hk : WL P n os l K (updo F o.dst (.string (mkS (((sb s).take hi).drop lo)))) w) : WL P n os (o :: l) K F w := by
  subst hv; subst hv'
  have hu : P.underlying t = some .string := Tab.str hT
  refine WL.val hg (fun hok => ?_) hk
  have e1 := okX_at (F := F) hok (x := x) (by simp [ho, Op.operands])
  have e2 := okX_at (F := F) hok (x := y) (by simp [ho, Op.operands])
  have e3 := okX_at (F := F) hok (x := y') (by simp [ho, Op.operands])
  have hr := run_slS (v := .string (mkS (((sb s).take hi).drop lo))) hu (by
    rw [run_slice_string w t s kk kk' (lo : Int) (hi : Int) hu (by omega) (by omega) (by omega), mkS_extract]; simp)
  simp only [execOp, ho, e1, hx, Option.map_some, Option.map_none, e2, hy, e3, hy', Sem.run_bind, hr, Result.andThen_ok, Sem.run_pure]
end

section
variable {P : Program} {T : Tab} [hT : TabOk P T] {n : Nat} {os l : List Oper} {K : Fm → Prop} {F : Fm} {w g : World} {L : List HP} {e size bytes c : Nat} {z : Array Value} {ls : List (List Value)} {a : Option Addr}
theorem WQ.slLo {o : Oper} {t : TypeId} {x y : Operand} {kk : IntKind} {v : Int} (hg : o.guard = none) (ho : o.op = .slice t x (some y) none none) (i lo : Nat) (ms : List (List Value)) (hE : Elem P t e z size bytes) (hS : St g L w) (hi : L[i]? = some (Sh e size ls a c)) (hx : ev F x = .slice a ls.length c) (hy : ev F y = .int kk v) (hv : v = lo) (hle : lo ≤ ls.length) (hms : ls.drop lo = ms)
    (hk : ∀ a', cutA a c lo size = a' → St g (Sh e size ms a' (c - lo) :: L) w → WQ P n os l w K (updo F o.dst (.slice a' ms.length (c - lo)))) : WQ P n os (o :: l) w K F := by
  subst hms; subst hv
  have h0 := (hS.dup i hi (fun _ _ h => Sh.dup h)).impl (fun o r h => Sh_cut hle (Nat.le_refl _) h)
  rw [List.take_length] at h0
  have hk' := hk _ rfl h0
  rw [List.length_drop] at hk'
  refine WQ.val hg (fun hok m => ?_) hk'
  have e1 := okX_at (F := F) hok (x := x) (by simp [ho, Op.operands])
  have e2 := okX_at (F := F) hok (x := y) (by simp [ho, Op.operands])
  simp only [execOp, ho, e1, hx, Option.map_some, Option.map_none, e2, hy, Sem.run_bind, run_sliceAt hE _ _ lo ls.length ls.length (bounds_lo hle), Result.andThen_ok, Sem.run_pure]
theorem WQ.slHi {o : Oper} {t : TypeId} {x y : Operand} {kk : IntKind} {v : Int} (hg : o.guard = none) (ho : o.op = .slice t x none (some y) none) (i hi : Nat) (ms : List (List Value)) (hE : Elem P t e z size bytes) (hS : St g L w) (hi' : L[i]? = some (Sh e size ls a c)) (hx : ev F x = .slice a ls.length c) (hy : ev F y = .int kk v) (hv : v = hi) (hle : hi ≤ ls.length) (hms : ls.take hi = ms)
    (hk : ∀ a', cutA a c 0 size = a' → St g (Sh e size ms a' c :: L) w → WQ P n os l w K (updo F o.dst (.slice a' ms.length c))) : WQ P n os (o :: l) w K F := by
  subst hms; subst hv
  have h0 := (hS.dup i hi' (fun _ _ h => Sh.dup h)).impl (fun o r h => Sh_cut (Nat.zero_le _) hle h)
  rw [List.drop_zero, Nat.sub_zero] at h0
  have hk' := hk _ rfl h0
  rw [List.length_take, Nat.min_eq_left hle] at hk'
  obtain ⟨_, _, ⟨_, hc, _⟩, _, _⟩ := hS.get i hi'
  refine WQ.val hg (fun hok m => ?_) hk'
  have e1 := okX_at (F := F) hok (x := x) (by simp [ho, Op.operands])
  have e2 := okX_at (F := F) hok (x := y) (by simp [ho, Op.operands])
  have hr := run_sliceAt (P := P) (w := w.drewN m) (c := c) (a := a) hE none (some (.int kk (hi : Int))) 0 hi ls.length (bounds_hi (by omega))
  simp only [execOp, ho, e1, hx, Option.map_some, Option.map_none, e2, hy, Sem.run_bind, hr, Result.andThen_ok, Sem.run_pure, Nat.sub_zero]
theorem WQ.slLH {o : Oper} {t : TypeId} {x y y' : Operand} {kk kk' : IntKind} {v v' : Int} (hg : o.guard = none) (ho : o.op = .slice t x (some y) (some y') none) (i lo hi : Nat) (ms : List (List Value)) (hE : Elem P t e z size bytes) (hS : St g L w) (hi' : L[i]? = some (Sh e size ls a c)) (hx : ev F x = .slice a ls.length c) (hy : ev F y = .int kk v) (hv : v = lo) (hy' : ev F y' = .int kk' v') (hv' : v' = hi)
    (hlh : lo ≤ hi) (hle : hi ≤ ls.length) (hms : (ls.take hi).drop lo = ms)
    (hk : ∀ a', cutA a c lo size = a' → St g (Sh e size ms a' (c - lo) :: L) w → WQ P n os l w K (updo F o.dst (.slice a' ms.length (c - lo)))) : WQ P n os (o :: l) w K F := by
  subst hms; subst hv; subst hv'
  have h0 := (hS.dup i hi' (fun _ _ h => Sh.dup h)).impl (fun o r h => Sh_cut hlh hle h)
  have hk' := hk _ rfl h0
  rw [List.length_drop, List.length_take, Nat.min_eq_left hle] at hk'
  obtain ⟨_, _, ⟨_, hc, _⟩, _, _⟩ := hS.get i hi'
  refine WQ.val hg (fun hok m => ?_) hk'
  have e1 := okX_at (F := F) hok (x := x) (by simp [ho, Op.operands])
  have e2 := okX_at (F := F) hok (x := y) (by simp [ho, Op.operands])
  have e3 := okX_at (F := F) hok (x := y') (by simp [ho, Op.operands])
  have hr := run_sliceAt (P := P) (w := w.drewN m) (c := c) (a := a) hE (some (.int kk (lo : Int))) (some (.int kk' (hi : Int))) lo hi ls.length (bounds_lh hlh (by omega))
  simp only [execOp, ho, e1, hx, Option.map_some, Option.map_none, e2, hy, e3, hy', Sem.run_bind, hr, Result.andThen_ok, Sem.run_pure]
theorem RQ.slLo {o : Oper} {t : TypeId} {x y : Operand} {kk : IntKind} {v : Int} {a' : Option Addr} {ms : List (List Value)} {d : Nat} (hg : o.guard = none) (ho : o.op = .slice t x (some y) none none) (lo : Nat) (hE : Elem P t e z size bytes) (hx : ev F x = .slice a ls.length c) (hy : ev F y = .int kk v) (hv : v = lo) (hle : lo ≤ ls.length) (hms : ls.drop lo = ms) (ha : cutA a c lo size = a')
    (hd : o.dst = some d) (hfd : F d = .slice a' ms.length (c - lo)) : RQ P n os w F o := by
  subst hms; subst hv; subst ha
  rw [List.length_drop] at hfd
  refine RQ.val hg (fun hok m => ?_) hd hfd
  have e1 := okX_at (F := F) hok (x := x) (by simp [ho, Op.operands])
  have e2 := okX_at (F := F) hok (x := y) (by simp [ho, Op.operands])
  simp only [execOp, ho, e1, hx, Option.map_some, Option.map_none, e2, hy, Sem.run_bind, run_sliceAt hE _ _ lo ls.length ls.length (bounds_lo hle), Result.andThen_ok, Sem.run_pure]
theorem RQ.slHi {o : Oper} {t : TypeId} {x y : Operand} {kk : IntKind} {v : Int} {a' : Option Addr} {ms : List (List Value)} {d : Nat} (hg : o.guard = none) (ho : o.op = .slice t x none (some y) none) (i hi : Nat) (hE : Elem P t e z size bytes) (hS : St g L w) (hi' : L[i]? = some (Sh e size ls a c)) (hx : ev F x = .slice a ls.length c) (hy : ev F y = .int kk v) (hv : v = hi) (hle : hi ≤ ls.length) (hms : ls.take hi = ms) (ha : cutA a c 0 size = a')
    (hd : o.dst = some d) (hfd : F d = .slice a' ms.length c) : RQ P n os w F o := by
  subst hms; subst hv; subst ha
  rw [List.length_take, Nat.min_eq_left hle] at hfd
  obtain ⟨_, _, ⟨_, hc, _⟩, _, _⟩ := hS.get i hi'
  refine RQ.val hg (fun hok m => ?_) hd hfd
  have e1 := okX_at (F := F) hok (x := x) (by simp [ho, Op.operands])
  have e2 := okX_at (F := F) hok (x := y) (by simp [ho, Op.operands])
  have hr := run_sliceAt (P := P) (w := w.drewN m) (c := c) (a := a) hE none (some (.int kk (hi : Int))) 0 hi ls.length (bounds_hi (by omega))
  simp only [execOp, ho, e1, hx, Option.map_some, Option.map_none, e2, hy, Sem.run_bind, hr, Result.andThen_ok, Sem.run_pure, Nat.sub_zero]
theorem RQ.slLH {o : Oper} {t : TypeId} {x y y' : Operand} {kk kk' : IntKind} {v v' : Int} {a' : Option Addr} {ms : List (List Value)} {d : Nat} (hg : o.guard = none) (ho : o.op = .slice t x (some y) (some y') none) (i lo hi : Nat) (hE : Elem P t e z size bytes) (hS : St g L w) (hi' : L[i]? = some (Sh e size ls a c)) (hx : ev F x = .slice a ls.length c) (hy : ev F y = .int kk v) (hv : v = lo) (hy' : ev F y' = .int kk' v') (hv' : v' = hi) (hlh : lo ≤ hi) (hle : hi ≤ ls.length) (hms : (ls.take hi).drop lo = ms) (ha : cutA a c lo size = a')
    (hd : o.dst = some d) (hfd : F d = .slice a' ms.length (c - lo)) : RQ P n os w F o := by
  subst hms; subst hv; subst hv'; subst ha
  rw [List.length_drop, List.length_take, Nat.min_eq_left hle] at hfd
  obtain ⟨_, _, ⟨_, hc, _⟩, _, _⟩ := hS.get i hi'
  refine RQ.val hg (fun hok m => ?_) hd hfd
  have e1 := okX_at (F := F) hok (x := x) (by simp [ho, Op.operands])
  have e2 := okX_at (F := F) hok (x := y) (by simp [ho, Op.operands])
  have e3 := okX_at (F := F) hok (x := y') (by simp [ho, Op.operands])
  have hr := run_sliceAt (P := P) (w := w.drewN m) (c := c) (a := a) hE (some (.int kk (lo : Int))) (some (.int kk' (hi : Int))) lo hi ls.length (bounds_lh hlh (by omega))
  simp only [execOp, ho, e1, hx, Option.map_some, Option.map_none, e2, hy, e3, hy', Sem.run_bind, hr, Result.andThen_ok, Sem.run_pure]
end

/-! ### things that are shared, one bundle for each of a list -/
def Shs {α : Type} (f : α → List HP) (zs : List α) : HP := ⟨fun _ r => ∀ z ∈ zs, All (f z) (fun _ => none) r, fun _ _ _ _ _ hr h z hz => All.mono (f z) (Sub.refl _) hr (h z hz)⟩
section
variable {α : Type} {f : α → List HP} {zs : List α} {g w : World} {L : List HP}
theorem Dj.none (h : Hp) : Dj (fun _ => none) h := fun _ => .inl rfl
theorem St.shsNil (h : St g L w) (f : α → List HP) : St g (Shs f [] :: L) w := h.add fun _ _ => fun _ hz => by cases hz
/-- the bundle of one of them -/
theorem St.shsGet (h : St g L w) (i : Nat) {z : α} (hi : L[i]? = some (Shs f zs)) (hz : z ∈ zs) : St g (f z ++ L) w := by
  obtain ⟨o, r, a, b, c, d, e⟩ := h.own
  obtain ⟨o1, o2, h1, h2, hd, hh, hL⟩ := All.perm (perm_at hi) e
  exact ⟨h.os, h.tape, h.output, h.size, o, r, a, b, c, d, All.cat (f z) L (fun _ _ h => by cases h) (Sub.refl _) (Dj.none _) (hh z hz) e⟩
/-- a thing that owns nothing -/
def Sht (A : HP) : Prop := ∀ o r, A.h o r → A.h (fun _ => none) r
theorem Sht.sh {e size c : Nat} {ls : List (List Value)} {a : Option Addr} : Sht (Sh e size ls a c) := fun _ _ h => Sh.dup h
theorem Sht.shs : Sht (Shs f zs) := fun _ _ h => h
theorem All.none_of : ∀ (M : List HP) {o r : Hp}, (∀ A ∈ M, Sht A) → All M o r → All M (fun _ => none) r
  | [], _, _, _, _ => trivial
  | A :: M, _, _, hA, ⟨_, _, _, _, _, hh, hM⟩ => ⟨fun _ => none, fun _ => none, Sub.refl _, Sub.refl _, Dj.none _, hA A (List.mem_cons_self ..) _ _ hh, All.none_of M (fun B hB => hA B (List.mem_cons_of_mem _ hB)) hM⟩
/-- one bundle more -/
theorem St.shsCons (h : St g (Shs f zs :: L) w) {z : α} (hf : ∀ A ∈ f z, Sht A) (is : List Nat) (hp : Go.V.pick L is = some (f z)) : St g (Shs f (z :: zs) :: L) w := by
  obtain ⟨R, hR⟩ := St.sub_of is hp
  obtain ⟨o, r, a, b, c, d, o1, o2, h1, h2, hd, hh, hL⟩ := h.own
  have h3 := All.none_of (f z) hf (All.fst (f z) R (All.perm hR hL))
  exact ⟨h.os, h.tape, h.output, h.size, o, r, a, b, c, d, o1, o2, h1, h2, hd, fun y hy => by
    rcases List.mem_cons.1 hy with rfl | hy
    · exact h3
    · exact hh y hy, hL⟩
end
end Go.V

/-! ## Map -/
namespace Go.V
open Go Go.RowKit

/-- t is a map type: its keys' type and what it is, its elements' type and zero value -/
structure MapT (P : Program) (t kt : TypeId) (d : TypeDesc) (et : TypeId) (z : Value) : Prop where
  und : P.underlying t = some (.map kt et)
  key : P.underlying kt = some d
  zero : ∃ i, P.info? et = some i ∧ i.zero = some z
theorem mtMk {P : Program} {t kt : TypeId} {d : TypeDesc} {et : TypeId} {z : Value} (h1 : P.underlying t = some (.map kt et)) (h2 : P.underlying kt = some d) (h : (P.info? et).map (fun i => i.zero) = some (some z)) : MapT P t kt d et z := by
  cases hi : P.info? et with
  | none => rw [hi] at h; cases h
  | some i => rw [hi] at h; exact ⟨h1, h2, ⟨i, hi, by simpa using h⟩⟩
/-- the entries -/
def mE (l : List (Value × Value × Nat)) : Array MapEntry := (l.map fun x => { key := x.1, val := x.2.1, born := x.2.2 }).toArray
@[simp] theorem mE_size (l : List (Value × Value × Nat)) : (mE l).size = l.length := by simp [mE]
@[simp] theorem mE_toList (l : List (Value × Value × Nat)) : (mE l).toList = l.map fun x => { key := x.1, val := x.2.1, born := x.2.2 } := by simp [mE]
theorem mE_nil : mE [] = #[] := rfl
/-- what a look-up gives -/
def lkV (r : Option (Nat × Value)) (z : Value) (ok : Bool) : Value := match ok, r with
  | true, some (_, u) => .tuple #[u, .bool true]
  | true, none => .tuple #[z, .bool false]
  | false, some (_, u) => u
  | false, none => z
/-- where a key stands -/
def mfind (d : TypeDesc) (k : Value) (l : List (Value × Value × Nat)) : Option (Option (Nat × Value)) := Instr.findNow d k (mE l).toList 0
theorem mfind_none {d : TypeDesc} {k : Value} (hk : MapKept.IsKey d k) {l : List (Value × Value × Nat)} (hl : ∀ x ∈ l, MapKept.IsKey d x.1) (h : ∀ x ∈ l, x.1 ≠ k) : mfind d k l = some none := by
  rcases MapKept.findNow_spec hk (mE l).toList 0 (fun x hx => by
    rw [mE_toList] at hx
    obtain ⟨y, hy, rfl⟩ := List.mem_map.1 hx
    exact hl y hy) with ⟨h1, _⟩ | ⟨j, e, _, h2, h3⟩
  · exact h1
  · rw [mE_toList, List.getElem?_map] at h2
    cases hj : l[j]? with
    | none => rw [hj] at h2; cases h2
    | some y =>
      rw [hj] at h2
      simp only [Option.map_some, Option.some.injEq] at h2
      subst h2
      exact absurd h3 (h y (List.mem_of_getElem? hj))
theorem mfind_some {d : TypeDesc} {k v : Value} {b i : Nat} (hk : MapKept.IsKey d k) {l : List (Value × Value × Nat)} (hl : ∀ x ∈ l, MapKept.IsKey d x.1) (h : l[i]? = some (k, v, b)) (hu : ∀ j, j < i → ∀ y, l[j]? = some y → y.1 ≠ k) : mfind d k l = some (some (i, v)) := by
  have aux : ∀ (l : List (Value × Value × Nat)) (i m : Nat), (∀ x ∈ l, MapKept.IsKey d x.1) → l[i]? = some (k, v, b) → (∀ j, j < i → ∀ y, l[j]? = some y → y.1 ≠ k) →
      Instr.findNow d k (l.map fun x => { key := x.1, val := x.2.1, born := x.2.2 }) m = some (some (m + i, v)) := by
    intro l
    induction l with
    | nil => intro i m _ h; simp at h
    | cons x l ih =>
      intro i m hl h hu
      obtain ⟨r, hr, hiff⟩ := MapKept.sameNow_of_keys hk (hl x (List.mem_cons_self ..))
      cases i with
      | zero =>
        simp only [List.getElem?_cons_zero, Option.some.injEq] at h
        subst h
        rw [hiff.2 rfl] at hr
        simp only [List.map_cons, Instr.findNow, hr, Nat.add_zero]
      | succ i =>
        have hne := hu 0 (by omega) x rfl
        cases r with
        | true => exact absurd (hiff.1 rfl).symm hne
        | false =>
          simp only [List.map_cons, Instr.findNow, hr]
          rw [ih i (m + 1) (fun y hy => hl y (List.mem_cons_of_mem _ hy)) (by simpa using h) (fun j hj y hy => hu (j + 1) (by omega) y (by simpa using hy))]
          congr 2; rw [Nat.add_assoc, Nat.add_comm 1 i]
  have := aux l i 0 hl h hu
  rw [Nat.zero_add] at this
  rw [mfind, mE_toList]; exact this
section
variable {P : Program} {T : Tab} [hT : TabOk P T] {n : Nat} {os l : List Oper} {K : Kt} {F : Fm} {w g : World} {L : List HP} {t kt et : TypeId} {d : TypeDesc} {z : Value} {b c : Nat} {es : Array MapEntry}
/-- make(map) -/
theorem WL.mkM {o : Oper} (hg : o.guard = none) (ho : o.op = .makeMap t none) (hS : St g L w) (hk : ∀ b w', St g (blk b (.map (mE []) 0) :: L) w' → WL P n os l K (updo F o.dst (.map (some b))) w') : WL P n os (o :: l) K F w := by
  refine WL.val hg (fun _ => ?_) (hk w.heap.size (w.alloc (.map #[] 0)) (hS.new _))
  simp [execOp, ho, Instr.makeMap, newObj]
  rfl
theorem run_lookup_m {k v : Value} {ok : Bool} {r : Option (Nat × Value)} (hM : MapT P t kt d et z) (hb : w.heap[b]? = some (.map es c)) (hk : MapKept.IsKey d k) (hf : Instr.findNow d k es.toList 0 = some r) (hv : lkV r z ok = v) : (Instr.lookup t (.map (some b)) k ok).run P w = .ok v w := by
  subst hv
  obtain ⟨i, i1, i2⟩ := hM.zero
  have hz : (zeroValue et).run P w = .ok z w := by simp [zeroValue, typeInfo, i1, i2]
  have h1 := MapKept.run_checkKey (w := w) hM.key hk es.isEmpty 9999
  have h2 := MapKept.run_findKey (w := w) hM.key hf
  unfold Instr.lookup
  simp only [Sem.run_bind, run_underlying hM.und, Result.andThen_ok, MapKept.run_getObj_map hb, Sem.run_pure, h1, h2]
  cases r with
  | none => cases ok <;> simp [hz, lkV]
  | some q => obtain ⟨j, u⟩ := q; cases ok <;> simp [lkV]
/-- m[k] -/
theorem WL.lk {o : Oper} {x y : Operand} {ok : Bool} {k v : Value} {r : Option (Nat × Value)} (hg : o.guard = none) (ho : o.op = .lookup t x y ok) (hM : MapT P t kt d et z) (i : Nat) (hS : St g L w) (hi : L[i]? = some (blk b (.map es c))) (hx : ev F x = .map (some b)) (hy : ev F y = k) (hkk : MapKept.IsKey d k) (hf : Instr.findNow d k es.toList 0 = some r) (hv : lkV r z ok = v)
    (hk : WL P n os l K (updo F o.dst v) w) : WL P n os (o :: l) K F w := by
  refine WL.val hg (fun hok => ?_) hk
  have e1 := okX_at (F := F) hok (x := x) (by simp [ho, Op.operands])
  have e2 := okX_at (F := F) hok (x := y) (by simp [ho, Op.operands])
  simp only [execOp, ho, e1, hx, e2, hy, Sem.run_bind, run_lookup_m hM (hS.heap i hi) hkk hf hv, Result.andThen_ok, Sem.run_pure]
/-- m[k] = v, a new key -/
theorem WL.muN {o : Oper} {x y q : Operand} {k v : Value} {m : List (Value × Value × Nat)} (hg : o.guard = none) (hd : o.dst = none) (ho : o.op = .mapUpdate t x y q) (hM : MapT P t kt d et z) (i : Nat) (hS : St g L w) (hi : L[i]? = some (blk b (.map (mE m) c))) (hx : ev F x = .map (some b)) (hy : ev F y = k) (hq : ev F q = v) (hkk : MapKept.IsKey d k) (hf : mfind d k m = some none)
    (hk : ∀ w', St g (L.set i (blk b (.map (mE (m ++ [(k, v, c)])) (c + 1)))) w' → WL P n os l K F w') : WL P n os (o :: l) K F w := by
  have hb := hS.heap i hi
  have hS' := ((hS.at_ i hi).setObj (ob' := .map (mE (m ++ [(k, v, c)])) (c + 1))).back i hi
  refine WL.unit hg hd (fun hok => ?_) (hk _ hS')
  have e1 := okX_at (F := F) hok (x := x) (by simp [ho, Op.operands])
  have e2 := okX_at (F := F) hok (x := y) (by simp [ho, Op.operands])
  have e3 := okX_at (F := F) hok (x := q) (by simp [ho, Op.operands])
  have h1 := MapKept.run_checkKey (w := w) hM.key hkk false 9999
  have h2 := MapKept.run_findKey (w := w) hM.key hf
  have h3 : (mE m).push { key := k, val := v, born := c } = mE (m ++ [(k, v, c)]) := by simp [mE]
  have hr : (Instr.mapUpdate t (.map (some b)) k v).run P w = .ok () { w with heap := w.heap.setIfInBounds b (.map (mE (m ++ [(k, v, c)])) (c + 1)) } := by
    unfold Instr.mapUpdate
    simp only [Sem.run_bind, run_underlying hM.und, Result.andThen_ok, MapKept.run_getObj_map hb, h1, h2, h3, MapKept.run_setObj_map _ hb]
  simp only [execOp, ho, e1, hx, e2, hy, e3, hq, Sem.run_bind, hr, Result.andThen_ok, Sem.run_pure]
/-- delete(m, k), a key that is there -/
theorem WL.del {o : Oper} {x y : Operand} {k v : Value} {j : Nat} {m : List (Value × Value × Nat)} (hg : o.guard = none) (ho : o.op = .call { callee := .builtin .delete, args := #[x, y], argTypes := #[t, kt] }) (hM : MapT P t kt d et z) (i : Nat) (hS : St g L w) (hi : L[i]? = some (blk b (.map (mE m) c))) (hx : ev F x = .map (some b)) (hy : ev F y = k) (hkk : MapKept.IsKey d k) (hf : mfind d k m = some (some (j, v))) (hj : j < m.length)
    (hk : ∀ w', St g (L.set i (blk b (.map (mE (m.eraseIdx j)) c))) w' → WL P n os l K (updo F o.dst (.tuple #[])) w') : WL P n os (o :: l) K F w := by
  have hb := hS.heap i hi
  have hS' := ((hS.at_ i hi).setObj (ob' := .map (mE (m.eraseIdx j)) c)).back i hi
  refine WL.val hg (fun hok => ?_) (hk _ hS')
  have e1 := okX_at (F := F) hok (x := x) (by simp [ho, Op.operands, Call.operands])
  have e2 := okX_at (F := F) hok (x := y) (by simp [ho, Op.operands, Call.operands])
  have h1 := MapKept.run_checkKey (w := w) hM.key hkk (mE m).isEmpty 9999
  have h2 := MapKept.run_findKey (w := w) hM.key hf
  have h3 : (mE m).eraseIdxIfInBounds j = mE (m.eraseIdx j) := by
    rw [Array.eraseIdxIfInBounds, dif_pos (by simpa using hj)]
    apply Array.ext'
    rw [Array.toList_eraseIdx, mE_toList, mE_toList]
    simp [List.eraseIdx_eq_take_drop_succ]
  have hr : (Builtin.delete_ #[t, kt] o.type #[.map (some b), k]).run P w = .ok (.tuple #[]) { w with heap := w.heap.setIfInBounds b (.map (mE (m.eraseIdx j)) c) } := by
    unfold Builtin.delete_
    simp only [List.getElem?_toArray, List.getElem?_cons_zero, List.getElem?_cons_succ, Sem.run_bind, run_underlying hM.und, Result.andThen_ok, MapKept.run_getObj_map hb, h1, h2, h3, MapKept.run_setObj_map _ hb, Sem.run_pure]
  simp only [execOp, ho, resolve, invoke, builtin, Sem.run_bind, Sem.run_pure, Result.andThen_ok, List.map_toArray, List.map_cons, List.map_nil, e1, e2, hx, hy, hr]
/-- len(m) -/
theorem WL.lenM {o : Oper} {x : Operand} (hg : o.guard = none) (ho : o.op = .call { callee := .builtin .len, args := #[x], argTypes := #[t] }) (hM : MapT P t kt d et z) (i : Nat) (hS : St g L w) (hi : L[i]? = some (blk b (.map es c))) (hx : ev F x = .map (some b))
    (hk : WL P n os l K (updo F o.dst (.int .i64 (es.size : Int))) w) : WL P n os (o :: l) K F w := by
  refine WL.val hg (fun hok => ?_) hk
  have e1 := okX_at (F := F) hok (x := x) (by simp [ho, Op.operands, Call.operands])
  have hr : (Builtin.len_ #[t] o.type #[.map (some b)]).run P w = .ok (.int .i64 (es.size : Int)) w := by
    simp [Builtin.len_, run_underlying hM.und, MapKept.run_getObj_map (hS.heap i hi), goInt]
  simp only [execOp, ho, resolve, invoke, builtin, Sem.run_bind, Sem.run_pure, Result.andThen_ok, List.map_toArray, List.map_cons, List.map_nil, e1, hx, hr]
end
/-! ### an operation whose guard was not performed itself -/
section
variable {P : Program} {T : Tab} [hT : TabOk P T] {n : Nat} {os l : List Oper} {K : Kt} {F : Fm} {w : World}
theorem wanted_un (hos : okL n os = true) {o : Oper} {i d : Nat} {b : Bool} (hg : o.guard = some (i, b)) (hs : gslot os i = some d) (hv : F d = undef) : Region.wanted o (yielded os.toArray (act n F).tmps) = false := by
  unfold Region.wanted
  simp only [hg]
  unfold gslot at hs
  rw [nth_eq] at hs
  cases hj : os[i]? with
  | none => simp [hj] at hs
  | some oj =>
    simp only [hj] at hs
    have hlt : d < n := by
      have h1 := okL_get os hos i oj hj
      simp only [okO, hs, okD, Bool.and_eq_true] at h1
      exact blt_iff.1 h1.2
    simp [yielded, hj, hs, act_get? n F d hlt, hv, undef]
theorem WL.skU {o : Oper} {i d : Nat} {b : Bool} (hg : o.guard = some (i, b)) (hs : gslot os i = some d) (hv : F d = undef) (h : WL P n os l K (updo F o.dst undef) w) : WL P n os (o :: l) K F w :=
  ⟨fun h1 h2 => by
    obtain ⟨_, h4⟩ := okL_cons h2
    have hw := wanted_un (F := F) h1 hg hs hv
    unfold wpList
    rw [if_neg (by rw [hw]; decide), act_put]
    exact h.go h1 h4⟩
theorem WQ.skU {K : Fm → Prop} {o : Oper} {i d : Nat} {b : Bool} (hg : o.guard = some (i, b)) (hs : gslot os i = some d) (hv : F d = undef) (h : WQ P n os l w K (updo F o.dst undef)) : WQ P n os (o :: l) w K F :=
  ⟨fun h1 h2 => by
    obtain ⟨_, h4⟩ := okL_cons h2
    have hw := wanted_un (F := F) h1 hg hs hv
    unfold wpQuiet
    rw [if_neg (by rw [hw]; decide), act_put]
    exact h.go h1 h4⟩
end
/-! ### string(b), quietly -/
section
variable {P : Program} {T : Tab} [hT : TabOk P T] {n : Nat} {os l : List Oper} {F : Fm} {w : World}
omit hT in
theorem run_toS {sT dT e : TypeId} {a : Option Addr} {c : Nat} {bs : List Int} (hs : P.underlying sT = some (.slice e)) (hd : P.underlying dT = some .string) (he : P.underlying e = some (.int .u8)) (hsrc : Src w 1 (by8 bs) a) (hb : B8 bs) : (convert sT dT (.slice a bs.length c)).run P w = .ok (.string (mkS bs)) w := by
  by_cases h0 : bs = []
  · subst h0
    cases a with
    | none => rw [run_convert_bytes_string w sT dT e none _ c hs he hd]; simp [Conv.bytesToString, mkS]; rfl
    | some ad =>
      have := run_convert_bytes_back (P := P) w sT dT e ad c [] hs he hd (fun j hj => by simp at hj)
      simpa [mkS] using this
  · obtain ⟨⟨b, off, rfl⟩, hc⟩ := hsrc.rd (by rw [by8_len]; exact List.length_pos_iff.2 h0)
    have hlen : (bs.map fun x => UInt8.ofNat x.toNat).length = bs.length := by simp
    have := run_convert_bytes_back (P := P) w sT dT e ⟨b, off, none⟩ c (bs.map fun x => UInt8.ofNat x.toNat) hs he hd (fun j hj => by
      have hj' : j < bs.length := by simpa using hj
      rw [show (⟨b, off, none⟩ : Addr).add j = ⟨b, off + j, none⟩ by unfold Addr.add; split <;> simp_all]
      have h5 := flat_at (by8 bs) 1 (by8_ok _).len j [.int .u8 bs[j]] 0 (by8_at (List.getElem?_eq_getElem hj')) (by simp)
      simp only [Nat.mul_one, Nat.add_zero] at h5
      have h6 := hc j (.int .u8 bs[j]) (by rw [h5]; rfl)
      rw [show bo (some ⟨b, off, none⟩) = b from rfl, show oo (some ⟨b, off, none⟩) = off from rfl] at h6
      rw [h6]
      have h7 := hb bs[j] (List.getElem_mem hj')
      congr 2
      simp only [List.getElem_map, UInt8.toNat_ofNat']
      rw [show bs[j].toNat % 2 ^ 8 = bs[j].toNat from Nat.mod_eq_of_lt (by omega)]
      omega)
    rw [hlen] at this
    exact this
theorem WQ.toS {K : Fm → Prop} {o : Oper} {sT dT e : TypeId} {x : Operand} {a : Option Addr} {c : Nat} {bs : List Int} (hg : o.guard = none) (ho : o.op = .convert sT dT x) (hs : P.underlying sT = some (.slice e)) (hd : P.underlying dT = some .string) (he : P.underlying e = some (.int .u8)) (hsrc : ∀ m, Src (w.drewN m) 1 (by8 bs) a) (hb : B8 bs) (hx : ev F x = .slice a (by8 bs).length c)
    (hk : WQ P n os l w K (updo F o.dst (.string (mkS bs)))) : WQ P n os (o :: l) w K F := by
  rw [by8_len] at hx
  refine WQ.val hg (fun hok m => ?_) hk
  have e1 := okX_at (F := F) hok (x := x) (by simp [ho, Op.operands])
  simp only [execOp, ho, e1, hx, Sem.run_bind, run_toS hs hd he (hsrc m) hb, Result.andThen_ok, Sem.run_pure]
theorem RQ.toS {o : Oper} {sT dT e : TypeId} {x : Operand} {a : Option Addr} {c d : Nat} {bs : List Int} (hg : o.guard = none) (ho : o.op = .convert sT dT x) (hs : P.underlying sT = some (.slice e)) (hd : P.underlying dT = some .string) (he : P.underlying e = some (.int .u8)) (hsrc : ∀ m, Src (w.drewN m) 1 (by8 bs) a) (hb : B8 bs) (hx : ev F x = .slice a (by8 bs).length c)
    (hdd : o.dst = some d) (hfd : F d = .string (mkS bs)) : RQ P n os w F o := by
  rw [by8_len] at hx
  refine RQ.val hg (fun hok m => ?_) hdd hfd
  have e1 := okX_at (F := F) hok (x := x) (by simp [ho, Op.operands])
  simp only [execOp, ho, e1, hx, Sem.run_bind, run_toS hs hd he (hsrc m) hb, Result.andThen_ok, Sem.run_pure]
end
/-! ### is a slice nil -/
section
variable {P : Program} {T : Tab} [hT : TabOk P T] {n : Nat} {os l : List Oper} {K : Kt} {F : Fm} {w g : World} {L : List HP} {e size bytes c m : Nat} {z : Array Value} {ls : List (List Value)} {a : Option Addr}
theorem WL.eqN {o : Oper} {t yt : TypeId} {x y : Operand} (hg : o.guard = none) (ho : o.op = .binOp .eql t x y yt) (hE : Elem P t e z size bytes) (hx : ev F x = .slice a m c) (hy : ev F y = .slice none 0 0)
    (hk : WL P n os l K (updo F o.dst (.bool a.isNone)) w) : WL P n os (o :: l) K F w := by
  refine WL.val hg (fun hok => ?_) hk
  have e1 := okX_at (F := F) hok (x := x) (by simp [ho, Op.operands])
  have e2 := okX_at (F := F) hok (x := y) (by simp [ho, Op.operands])
  have hE1 : ∀ d : Nat, (Op.equalIn (d + 1) t (.slice a m c) (.slice none 0 0)).run P w = .ok a.isNone w := fun d => by
    cases a <;> simp [Op.equalIn, run_underlying hE.und]
  have hE2 : (Op.equal t (.slice a m c) (.slice none 0 0)).run P w = .ok a.isNone w := hE1 9999
  have hG : (eqGuard .eql t x y (.slice a m c) (.slice none 0 0)).run P w = .ok () w := by
    have h0 : ∀ d : Nat, (Op.eqGuardIn (d + 1) t (.slice a m c) (.slice none 0 0)).run P w = .ok false w := fun d => by simp [Op.eqGuardIn, run_underlying hE.und]
    simp [eqGuard]
  simp only [execOp, ho, e1, e2, hx, hy, Sem.run_bind, hG, binOp, hE2, Result.andThen_ok, Sem.run_pure]
theorem St.nilLO (h : St g L w) (i : Nat) (hi : L[i]? = some (Own e size ls none c)) : ls = [] := by
  obtain ⟨_, _, ⟨_, h2⟩, _, _⟩ := h.get i hi
  rcases h2 with ⟨_, _, h3⟩ | ⟨_, _, h3, _⟩
  · exact h3
  · cases h3
theorem St.nilLS (h : St g L w) (i : Nat) (hi : L[i]? = some (Sh e size ls none c)) : ls = [] := by
  obtain ⟨_, _, ⟨_, _, h3⟩, _, _⟩ := h.get i hi
  cases ls with
  | nil => rfl
  | cons x l =>
    obtain ⟨_, _, _, _, _, h4, _⟩ := h3 (by simp)
    cases h4
end
/-! ### lists of words -/
def u64s (l : List Int) : List (List Value) := l.map fun x => [.int .u64 x]
@[simp] theorem u64s_len (l : List Int) : (u64s l).length = l.length := by simp [u64s]
theorem u64s_at {l : List Int} {k : Nat} {x : Int} (h : l[k]? = some x) : (u64s l)[k]? = some [.int .u64 x] := by simp [u64s, h]
theorem u64s_app (l m : List Int) : u64s (l ++ m) = u64s l ++ u64s m := by simp [u64s]
theorem u64s_drop (l : List Int) (k : Nat) : (u64s l).drop k = u64s (l.drop k) := by simp [u64s]
theorem u64s_take (l : List Int) (k : Nat) : (u64s l).take k = u64s (l.take k) := by simp [u64s]
theorem u64s_nil : u64s [] = [] := rfl
theorem u64s_snoc (l : List Int) (x : Int) : u64s l ++ [[.int .u64 x]] = u64s (l ++ [x]) := by simp [u64s]
theorem u64s_set (l : List Int) (k : Nat) (x : Int) : (u64s l).set k [.int .u64 x] = u64s (l.set k x) := by simp [u64s, List.map_set]
theorem u64s_ok (l : List Int) : OkE 1 (u64s l) := fun x hx => by
  obtain ⟨y, _, rfl⟩ := List.mem_map.1 hx
  exact ⟨rfl, fun u hu => by simp at hu; rcases hu with rfl <;> rfl⟩
/-! ### a bundle of things, a list of them for each of a list -/
def Buns {α : Type} (f : α → List HP) (zs : List α) : HP := ⟨fun o r => All (zs.flatMap f) o r, fun _ _ _ _ ho hr h => All.mono (zs.flatMap f) ho hr h⟩
section
variable {α : Type} {f : α → List HP} {zs : List α} {g w : World} {L : List HP}
theorem Buns.all {o r : Hp} (h : All (zs.flatMap f) o r) (M : List HP) {o2 : Hp} (hd : Dj o o2) {o' : Hp} (h1 : Sub o o') (h2 : Sub o2 o') (hM : All M o2 r) : All (Buns f zs :: M) o' r := ⟨o, o2, h1, h2, hd, h, hM⟩
theorem St.bunNil (h : St g L w) (f : α → List HP) : St g (Buns f [] :: L) w := by
  refine h.add fun o r => ?_
  exact trivial
/-- the bundle laid open -/
theorem St.bunOpen (h : St g (Buns f zs :: L) w) : St g (zs.flatMap f ++ L) w := by
  obtain ⟨o, r, a, b, c, d, o1, o2, h1, h2, hd, hh, hL⟩ := h.own
  exact ⟨h.os, h.tape, h.output, h.size, o, r, a, b, c, d, All.cat (zs.flatMap f) L h1 h2 hd hh hL⟩
theorem St.bunClose (h : St g (zs.flatMap f ++ L) w) : St g (Buns f zs :: L) w := by
  obtain ⟨o, r, a, b, c, d, e⟩ := h.own
  obtain ⟨o1, o2, h1, h2, hd, hM, hL⟩ := All.app (zs.flatMap f) L e
  exact ⟨h.os, h.tape, h.output, h.size, o, r, a, b, c, d, o1, o2, h1, h2, hd, hM, hL⟩
theorem flat_perm {k : Nat} {z : α} (hk : zs[k]? = some z) : (zs.flatMap f).Perm (f z ++ (zs.eraseIdx k).flatMap f) := by
  have h1 : zs = zs.take k ++ z :: zs.drop (k + 1) := by
    have hl := (List.getElem?_eq_some_iff.1 hk).1
    have h2 : zs[k] = z := (List.getElem?_eq_some_iff.1 hk).2
    rw [← h2, ← List.drop_eq_getElem_cons hl, List.take_append_drop]
  rw [List.eraseIdx_eq_take_drop_succ]
  conv => lhs; rw [h1]
  rw [List.flatMap_append, List.flatMap_cons, List.flatMap_append, ← List.append_assoc, ← List.append_assoc]
  exact List.Perm.append_right _ List.perm_append_comm
/-- one of the bundle -/
theorem St.bunGet (h : St g (Buns f zs :: L) w) {k : Nat} {z : α} (hk : zs[k]? = some z) : St g (f z ++ Buns f (zs.eraseIdx k) :: L) w := by
  have h1 := h.bunOpen
  have h2 : St g ((zs.eraseIdx k).flatMap f ++ (f z ++ L)) w := h1.perm (by
    refine (List.Perm.append_right L (flat_perm hk)).trans ?_
    rw [← List.append_assoc]
    exact List.Perm.append_right L List.perm_append_comm)
  exact h2.bunClose.perm (by
    have : ∀ (B : HP) (X : List HP), (B :: (X ++ L)).Perm (X ++ B :: L) := fun B X => (List.perm_middle (a := B) (l₁ := X) (l₂ := L)).symm
    exact this _ _)
/-- and back, another one -/
theorem St.bunPut {k : Nat} {z : α} (h : St g (f z ++ Buns f (zs.eraseIdx k) :: L) w) (hk : k < zs.length) : St g (Buns f (zs.set k z) :: L) w := by
  have h1 : St g (Buns f (zs.eraseIdx k) :: (f z ++ L)) w := h.perm List.perm_middle
  have h2 := h1.bunOpen
  refine (h2.perm ?_).bunClose
  have h3 : (zs.set k z)[k]? = some z := by simp [hk]
  have h4 := flat_perm (f := f) h3
  rw [show (zs.set k z).eraseIdx k = zs.eraseIdx k by rw [List.eraseIdx_set_eq]] at h4
  rw [← List.append_assoc]
  exact List.Perm.append_right L (List.perm_append_comm.trans h4.symm)
theorem St.bunBack {k : Nat} {z : α} (h : St g (f z ++ Buns f (zs.eraseIdx k) :: L) w) (hk : zs[k]? = some z) : St g (Buns f zs :: L) w := by
  have h1 := h.bunPut (List.getElem?_eq_some_iff.1 hk).1
  rwa [show zs.set k z = zs by rw [← (List.getElem?_eq_some_iff.1 hk).2]; exact List.set_getElem_self _] at h1
/-- one more, at the end -/
theorem St.bunSnoc {z : α} (h : St g (f z ++ Buns f zs :: L) w) : St g (Buns f (zs ++ [z]) :: L) w := by
  have h1 : St g (Buns f zs :: (f z ++ L)) w := h.perm List.perm_middle
  have h2 := h1.bunOpen
  refine (h2.perm ?_).bunClose
  rw [List.flatMap_append, List.flatMap_cons, List.flatMap_nil, List.append_nil, List.append_assoc]
end
end Go.V

/-! ## Arr -/
namespace Go.V
open Go Go.RowKit

/-- values of type e are one cell -/
def oneB (P : Program) (e : TypeId) : Bool := (P.underlying e).isSome && !isAggB P e && (match P.info? e with | some i => i.size == 1 | none => false)
/-- t is an array of m elements of type e, each of one cell -/
structure ArrT (P : Program) (t : TypeId) (m : Nat) (e : TypeId) : Prop where
  und : P.underlying t = some (.array m e)
  elem : oneB P e = true
section
variable {P : Program} {T : Tab} [hT : TabOk P T] {n : Nat} {os l : List Oper} {K : Kt} {F : Fm} {w : World} {t e : TypeId} {m : Nat} {z : Array Value}
theorem ArrT.one (h : ArrT P t m e) : (P.underlying e).isSome = true ∧ isAggB P e = false ∧ ∃ i, P.info? e = some i ∧ i.size = 1 := by
  have h1 := h.elem
  simp only [oneB, Bool.and_eq_true, Bool.not_eq_true'] at h1
  obtain ⟨⟨h2, h3⟩, h4⟩ := h1
  refine ⟨h2, h3, ?_⟩
  cases hi : P.info? e with
  | none => rw [hi] at h4; cases h4
  | some i => rw [hi] at h4; exact ⟨i, rfl, by simpa using h4⟩
/-- [m]T{..} -/
theorem WL.buildA {o : Oper} {ps : List (Nat × Operand)} {cs : List Value} (hg : o.guard = none) (ho : o.op = .build t ps.toArray) (hA : ArrT P t m e) (hz : ZV P t z) (h : fillL (fun i => some (i, 1)) z.toList (evP F ps) = some cs)
    (hk : WL P n os l K (updo F o.dst (.agg cs.toArray)) w) : WL P n os (o :: l) K F w := by
  obtain ⟨i, zv, h1, h2, h3⟩ := hz
  obtain ⟨_, _, hi⟩ := hA.one
  refine WL.val hg (fun hok => ?_) hk
  have hev := evP_act (F := F) (ps := ps) hok (fun p hp => by
    simp only [ho, Op.operands]
    exact List.mem_map.2 ⟨p, by simpa using hp, rfl⟩)
  have hfill := fill_eq (fun i => some (i, 1)) (evP F ps) z.toList cs h
  simp only [Array.toArray_toList] at hfill
  have hzv : (zeroValue t).run P w = .ok zv w := by simp [zeroValue, typeInfo, h1, h2]
  simp only [execOp, ho, Instr.build, Sem.run_bind, hzv, Sem.run_pure, Result.andThen_ok, run_underlying hA.und, run_sizeOf w hi, h3, hev, Nat.mul_one, hfill]
/-- a[k] of an array -/
theorem WL.ixA {o : Oper} {x y : Operand} {kk : IntKind} {v : Int} {cs : Array Value} {u : Value} (hg : o.guard = none) (ho : o.op = .index t x y) (k : Nat) (hA : ArrT P t m e) (hx : ev F x = .agg cs) (hy : ev F y = .int kk v) (hv : v = k) (hm : k < m) (hu : cs[k]? = some u)
    (hk : WL P n os l K (updo F o.dst u) w) : WL P n os (o :: l) K F w := by
  subst hv
  obtain ⟨h1, h2, hi⟩ := hA.one
  refine WL.val hg (fun hok => ?_) hk
  have e1 := okX_at (F := F) hok (x := x) (by simp [ho, Op.operands])
  have e2 := okX_at (F := F) hok (x := y) (by simp [ho, Op.operands])
  have hb : (0 : Int) ≤ (k : Int) ∧ (k : Int) < (m : Int) := ⟨by omega, by omega⟩
  simp only [execOp, ho, e1, hx, e2, hy, Instr.index, asIntOf, Sem.run_bind, Sem.run_pure, Result.andThen_ok, run_underlying hA.und, if_pos hb, run_sizeOf w hi, part, run_isAgg w h1, h2, Bool.false_eq_true, if_false, Int.toNat_natCast, Nat.mul_one, hu]
end
end Go.V

/-! ## Row -/
namespace Go.V
open Go Go.RowKit Go.ChangeShapes Go.WideShapes

section
variable {H : Type} {enc : TypeId × Value → H} {P : Program}

/-- these cells read as a datum of type t -/
def Rdc (enc : TypeId × Value → H) (P : Program) (w : World) (t : TypeId) (cs : List Value) : Prop := ∃ n x, DataW.trod enc P w 0 (fun _ => true) true n t cs = some x
variable {w : World} {t e : TypeId} {cs : List Value}
theorem Rdc.int {k : IntKind} (h : Rdc enc P w t cs) (ht : P.underlying t = some (.int k)) : ∃ n, cs = [.int k n] ∧ k.min ≤ n ∧ n ≤ k.max := by
  obtain ⟨m, x, hx⟩ := h
  obtain ⟨n, h1, _, h3⟩ := DataW.trod_int ht hx
  simp only [Lit.wf, Bool.and_eq_true, decide_eq_true_eq] at h3
  exact ⟨n, h1, h3.1, h3.2⟩
theorem Rdc.bool (h : Rdc enc P w t cs) (ht : P.underlying t = some .bool) : ∃ b, cs = [.bool b] := by
  obtain ⟨m, x, hx⟩ := h
  obtain ⟨b, h1, _⟩ := DataW.trod_bool ht hx
  exact ⟨b, h1⟩
theorem Rdc.str (h : Rdc enc P w t cs) (ht : P.underlying t = some .string) : ∃ s, cs = [.string s] ∧ s.size ≤ maxLen := by
  obtain ⟨m, x, hx⟩ := h
  obtain ⟨s, h1, _, h3⟩ := DataW.trod_string ht hx
  exact ⟨s, h1, h3⟩
theorem Rdc.struct {fs : Array Field} (h : Rdc enc P w t cs) (ht : P.underlying t = some (.struct fs)) : cs.length = P.cellsOf t ∧ ∀ (i : Nat) (f : Field), fs[i]? = some f → Rdc enc P w f.type ((cs.drop f.offset).take (P.cellsOf f.type)) := by
  obtain ⟨m, x, hx⟩ := h
  obtain ⟨xs, n, _, _, hl, hlen, hf⟩ := DataW.trod_struct ht hx
  refine ⟨hl, fun i f hi => ?_⟩
  have hlt : i < xs.length := by rw [hlen]; exact (Array.getElem?_eq_some_iff.1 hi).1
  exact ⟨n, xs[i], by rw [hf i f hi, List.getElem?_eq_getElem hlt]⟩
/-- a thing that is in memory when the call begins -/
def Hw (w : World) (A : HP) : Prop := ∀ r : Hp, (∀ k, k < w.heap.size → r k = w.heap[k]?) → A.h (fun _ => none) r
theorem Hw.add {L : List HP} {A : HP} {w' : World} (h : Hw w A) (hS : St w L w') : St w (A :: L) w' := hS.add h
theorem Rdc.slice {size : Nat} (h : Rdc enc P w t cs) (ht : P.underlying t = some (.slice e)) (hc : P.cellsOf e = size) (hp : 0 < size) (ho : ∀ x, Rdc enc P w e x → x.length = size ∧ ∀ u ∈ x, u.oneCell' = true) :
    ∃ a c ls, cs = [.slice a ls.length c] ∧ ls.length ≤ maxLen ∧ (∀ x ∈ ls, Rdc enc P w e x) ∧ ∀ e', Hw w (Sh e' size ls a c) := by
  obtain ⟨m, x, hx⟩ := h
  rcases Go.Deep.open_slice ht hx with ⟨h1, _⟩ | ⟨a, len, cap, mm, n, D, Pl, h1, _, hlc, hcm, hmm, _, hel⟩
  · exact ⟨none, 0, [], h1, Nat.zero_le _, (fun _ h => by cases h), fun _ _ _ => ⟨OkE.nil _, Nat.zero_le _, fun h => by simp at h⟩⟩
  · simp only [if_true] at hmm
    subst hmm
    rw [hc] at hel
    have hel2 : ∀ i, i < len → ∃ cs' : List Value, w.cells? 0 (a.add (i * size)) size = some cs' ∧ Rdc enc P w e cs' := fun i hi => by
      obtain ⟨cs', q1, q2⟩ := hel i (by omega)
      exact ⟨cs', q1, n, _, q2⟩
    obtain ⟨V, hV⟩ := Go.Deep.choose_lt (α := List Value) hel2
    have hlen : ((List.range len).map V).length = len := by simp
    have hrd : ∀ x ∈ (List.range len).map V, Rdc enc P w e x := fun x hx => by
      obtain ⟨i, hi, rfl⟩ := List.mem_map.1 hx
      exact (hV i (List.mem_range.1 hi)).2
    have hok : OkE size ((List.range len).map V) := fun x hx => ho x (hrd x hx)
    refine ⟨some a, mm, (List.range len).map V, by rw [hlen]; exact h1, by rw [hlen]; omega, hrd, fun _ r hr => ⟨hok, by rw [hlen]; exact hlc, fun hpos => ?_⟩⟩
    rw [hlen] at hpos
    have cell : ∀ j u, ((List.range len).map V).flatten[j]? = some u → w.cell? (a.add j) = some u := by
      intro j u hj
      have hjl : j < len * size := by
        have := (List.getElem?_eq_some_iff.1 hj).1
        rw [flat_len _ _ hok.len, hlen] at this
        exact this
      have hd : j / size < len := Nat.div_lt_of_lt_mul (by rw [Nat.mul_comm]; exact hjl)
      have hm : j % size < size := Nat.mod_lt _ hp
      obtain ⟨q1, q2⟩ := hV (j / size) hd
      obtain ⟨_, s2, s3⟩ := World.cells?_some q1
      have hat := flat_at ((List.range len).map V) size hok.len (j / size) (V (j / size)) (j % size) (by simp [hd]) (by rw [s2]; exact hm)
      have hdm : j / size * size + j % size = j := by rw [Nat.mul_comm]; exact Nat.div_add_mod j size
      rw [hdm, hj] at hat
      have h5 := s3 (j % size) hm
      rw [Go.Deep.add_add, hdm] at h5
      rw [h5, ← hat]
    have h0 : 0 < ((List.range len).map V).flatten.length := by rw [flat_len _ _ hok.len, hlen]; exact Nat.mul_pos hpos hp
    have c0 := cell 0 _ (List.getElem?_eq_getElem h0)
    have ha0 : a.add 0 = a := rfl
    rw [ha0] at c0
    have hspot : a.spot = none := by
      unfold World.cell? at c0
      split at c0
      · split at c0
        · cases c0
        · rename_i hs; cases hsp : a.spot with
          | none => rfl
          | some z => rw [hsp] at hs; simp at hs
      · cases c0
    obtain ⟨b, off, spot⟩ := a
    simp only at hspot
    subst hspot
    cases hb : w.heap[b]? with
    | none => simp [World.cell?, hb] at c0
    | some ob =>
      cases ob with
      | cells cur t' fz =>
        have hblt : b < w.heap.size := (Array.getElem?_eq_some_iff.1 hb).1
        refine ⟨b, off, cur, t', fz, rfl, by rw [hr b hblt, hb], fun j u hj => ?_⟩
        have := cell j u hj
        rw [show (⟨b, off, none⟩ : Addr).add j = ⟨b, off + j, none⟩ by unfold Addr.add; split <;> simp_all, cell_of_row w b _ cur t' fz hb] at this
        exact this
      | _ => simp [World.cell?, hb] at c0
theorem list_of {α β : Type} {p : α → β → Prop} : ∀ (l : List α), (∀ x ∈ l, ∃ y, p x y) → ∃ m : List β, m.length = l.length ∧ ∀ (i : Nat) (x : α) (y : β), l[i]? = some x → m[i]? = some y → p x y
  | [], _ => ⟨[], rfl, fun i x y h => by simp at h⟩
  | x :: l, h => by
    obtain ⟨y, hy⟩ := h x (List.mem_cons_self ..)
    obtain ⟨m, h1, h2⟩ := list_of l fun z hz => h z (List.mem_cons_of_mem _ hz)
    refine ⟨y :: m, by simp [h1], fun i x' y' hx hy' => ?_⟩
    cases i with
    | zero => simp at hx hy'; subst hx; subst hy'; exact hy
    | succ i => simp at hx hy'; exact h2 i x' y' hx hy'
/-- a list whose members have a form -/
theorem map_of {α β : Type} (f : α → β) (q : α → Prop) : ∀ (l : List β), (∀ x ∈ l, ∃ y, x = f y ∧ q y) → ∃ m : List α, l = m.map f ∧ ∀ y ∈ m, q y
  | [], _ => ⟨[], rfl, fun _ h => by cases h⟩
  | x :: l, h => by
    obtain ⟨y, rfl, hq⟩ := h x (List.mem_cons_self ..)
    obtain ⟨m, rfl, h2⟩ := map_of f q l fun z hz => h z (List.mem_cons_of_mem _ hz)
    exact ⟨y :: m, rfl, fun z hz => by
      rcases List.mem_cons.1 hz with rfl | hz
      · exact hq
      · exact h2 z hz⟩

/-! ### arguments -/
theorem Trod.rdc {v : Value} {d : DataW H} {p : List MemPlace} (h : DataW.Trod enc P w 0 (fun _ => true) true t v d p) : Rdc enc P w t v.cells.toList := by
  obtain ⟨n, hn⟩ := h; exact ⟨n, _, hn⟩
/-- each argument reads -/
def RdArgs (enc : TypeId × Value → H) (P : Program) (w : World) : List TypeId → List Value → Prop
  | [], [] => True
  | t :: ts, v :: vs => Rdc enc P w t v.cells.toList ∧ RdArgs enc P w ts vs
  | _, _ => False
theorem RdArgs.of : ∀ {ts : List TypeId} {vs : List Value} {ds : List (DataW H)} {p : List MemPlace}, DataW.TrodAll enc P w 0 (fun _ => true) true ts vs ds p → RdArgs enc P w ts vs
  | [], [], _, _, _ => trivial
  | _ :: _, _ :: _, _ :: _, _, ⟨_, _, h1, h2, _⟩ => ⟨Trod.rdc h1, RdArgs.of h2⟩
theorem TrodAll.len : ∀ {ts : List TypeId} {vs : List Value} {ds : List (DataW H)} {p : List MemPlace}, DataW.TrodAll enc P w 0 (fun _ => true) true ts vs ds p → ds.length = ts.length
  | [], [], [], _, _ => rfl
  | _ :: _, _ :: _, _ :: _, _, ⟨_, _, _, h2, _⟩ => by simp [TrodAll.len h2]
theorem TrodAll.stays (hl : laidOutB P = true) {W W' : World} (hb : Below W.heap.size W W') : ∀ {ts : List TypeId} {vs : List Value} {ds : List (DataW H)} {p : List MemPlace}, (∀ t ∈ ts, P.readableRec t = true ∧ t < P.types.size) →
    DataW.TrodAll enc P W 0 (fun _ => true) true ts vs ds p → (∀ x ∈ p, x.block < W.heap.size) → DataW.TrodAll enc P W' 0 (fun b => decide (b < W.heap.size)) true ts vs ds p
  | [], [], [], _, _, h, _ => h
  | t :: _, _ :: _, _ :: _, _, hr, ⟨_, _, h1, h2, e⟩, hlt => ⟨_, _, Below.trod hl (hr t (List.mem_cons_self ..)).1 (hr t (List.mem_cons_self ..)).2 h1 hb (fun x hx => hlt x (by rw [e]; exact List.mem_append_left _ hx)),
      TrodAll.stays hl hb (fun t ht => hr t (List.mem_cons_of_mem _ ht)) h2 (fun x hx => hlt x (by rw [e]; exact List.mem_append_right _ hx)), e⟩

/-- a law's row -/
theorem law_post {f : Func} {s : ChangeSpec} {apart : Bool} {W W' : World} {args : Array Value} {ds gs : List (DataW H)} {before : List MemPlace} {tb : TypeId} (hvars : s.vars = [])
    (hW : DataW.Whole enc P f.params.toList s.vars apart W args.toList ds gs before) (hl : laidOutB P = true) (hr : ∀ t ∈ f.params.toList, P.readableRec t = true ∧ t < P.types.size)
    (hrt : f.resultTypes = #[tb]) (htb : P.underlying tb = some .bool) (hs : ds.length = f.params.size → (s.fn H (ds ++ [])).results = [.lit (.bool true)] ∧ (s.fn H (ds ++ [])).args = ds ∧ (s.fn H (ds ++ [])).vars = []) (hb : Below W.heap.size W W') :
    s.post enc P f apart true false false W args (.bool true) W' := by
  have hW0 := hW
  obtain ⟨p, q, hA, hV, rfl, hz, hn⟩ := hW
  have hlt : ∀ x ∈ p ++ q, x.block < W.heap.size := fun x hx => hW0.lt x hx
  rw [hvars] at hV
  obtain ⟨rfl, rfl⟩ := trodVars_none hV
  obtain ⟨s1, s2, s3⟩ := hs (by rw [TrodAll.len hA]; simp)
  have hst := TrodAll.stays hl hb hr hA (fun x hx => hlt x (List.mem_append_left _ hx))
  refine ⟨ds, [], p ++ [], [], p, [], hW0, ?_, ?_, ?_, ?_, fun h => by cases h⟩
  · rw [s1, hrt]
    exact ⟨[], [], ⟨1, by simp [DataW.trod, htb, Value.cells]⟩, rfl, rfl⟩
  · rw [s2]; exact hst
  · rw [s3, hvars]; exact rfl
  · exact hb.frame _
theorem okv_int {r : Reach} {b : Nat} {k : IntKind} {v : Value} (h : Value.okWide P w r b t v) (ht : P.underlying t = some (.int k)) : v.cells.toList = [v] := by obtain ⟨n, rfl⟩ := okWide_int ht h; rfl
theorem okv_bool {r : Reach} {b : Nat} {v : Value} (h : Value.okWide P w r b t v) (ht : P.underlying t = some .bool) : v.cells.toList = [v] := by obtain ⟨n, rfl⟩ := okWide_bool ht h; rfl
theorem okv_str {r : Reach} {b : Nat} {v : Value} (h : Value.okWide P w r b t v) (ht : P.underlying t = some .string) : v.cells.toList = [v] := by obtain ⟨n, rfl⟩ := okWide_string ht h; rfl
theorem okv_slice {r : Reach} {b : Nat} {v : Value} (h : Value.okWide P w r b t v) (ht : P.underlying t = some (.slice e)) : v.cells.toList = [v] := by obtain ⟨_, _, _, rfl⟩ := okWide_slice ht h; rfl
theorem okv_agg {r : Reach} {b : Nat} {fs : Array Field} {v : Value} {l : List Value} (h : Value.okWide P w r b t v) (ht : P.underlying t = some (.struct fs)) (hl : v.cells.toList = l) : v = .agg l.toArray := by
  obtain ⟨cs, rfl, _⟩ := okWide_struct ht h
  subst hl
  simp [Value.cells]
theorem okv_one {v u : Value} (h : v.cells.toList = [v]) (h2 : v.cells.toList = [u]) : v = u := by
  rw [h] at h2; cases h2; rfl
/-- the arguments: each has its type's outer form and reads -/
def AOk (enc : TypeId × Value → H) (P : Program) (w : World) (base : Nat) : List TypeId → List Value → Prop
  | [], [] => True
  | t :: ts, v :: vs => (Value.okWide P w .any base t v ∧ Rdc enc P w t v.cells.toList) ∧ AOk enc P w base ts vs
  | _, _ => False
theorem AOk.of {base : Nat} : ∀ {ts : List TypeId} {vs : List Value}, RdArgs enc P w ts vs → (∀ (j : Nat) t v, ts[j]? = some t → vs[j]? = some v → Value.okWide P w .any base t v) → AOk enc P w base ts vs
  | [], [], _, _ => trivial
  | [], _ :: _, h, _ => h.elim
  | _ :: _, [], h, _ => h.elim
  | _ :: _, _ :: _, ⟨h1, h2⟩, hv => ⟨⟨hv 0 _ _ rfl rfl, h1⟩, AOk.of h2 fun j t v ht hj => hv (j + 1) t v (by simpa using ht) (by simpa using hj)⟩
theorem AOk.cons {base : Nat} {t : TypeId} {ts : List TypeId} {l : List Value} (h : AOk enc P w base (t :: ts) l) : ∃ v vs, l = v :: vs ∧ Value.okWide P w .any base t v ∧ Rdc enc P w t v.cells.toList ∧ AOk enc P w base ts vs := by
  cases l with
  | nil => exact h.elim
  | cons v vs => exact ⟨v, vs, rfl, h.1.1, h.1.2, h.2⟩
theorem AOk.nil {base : Nat} {l : List Value} (h : AOk enc P w base [] l) : l = [] := by
  cases l with
  | nil => rfl
  | cons v vs => exact h.elim
theorem AOk.args {base : Nat} {ts : Array TypeId} {args : Array Value} {ds : List (DataW H)} {p : List MemPlace} (hA : DataW.TrodAll enc P w 0 (fun _ => true) true ts.toList args.toList ds p)
    (hval : ∀ (j : Nat) t v, ts[j]? = some t → args[j]? = some v → Value.okWide P w .any base t v) : AOk enc P w base ts.toList args.toList :=
  AOk.of (RdArgs.of hA) fun j t v ht hj => hval j t v (by simpa using ht) (by simpa using hj)
/-- what a law's function does, for the row -/
theorem law_calls {f : FuncId} {vs : List Value} {W : World} (h : Sp P f vs W (fun v w' => v = .bool true ∧ St W [] w')) : Calls P f vs.toArray W fun e W' => e = .returned (.bool true) ∧ Below W.heap.size W W' :=
  h.go.mono fun e W' ⟨v, he, hv, hS⟩ => by subst hv; exact ⟨he, hS.below⟩
end
end Go.V
