/-
  The engine, eighth part, no program: parts of slices, make, strings.
  Conditions: none; every fact is proved from the library's own definitions.
-/
import Derived.Test.YtenkmjbghbegfaaDoorDraw
namespace Go.V
open Go Go.RowKit

section
variable {P : Program} {T : Tab} [hT : TabOk P T] {n : Nat} {os l : List Oper} {K : Kt} {F : Fm} {w g : World} {L : List HP} {e size bytes c : Nat} {z : Array Value} {ls ms : List (List Value)} {a : Option Addr}

theorem flat_drop : ∀ (ls : List (List Value)) (size : Nat), (∀ x ∈ ls, x.length = size) → ∀ k, k ≤ ls.length → (ls.drop k).flatten = ls.flatten.drop (k * size)
  | ls, size, _, 0, _ => by simp
  | [], size, _, k + 1, h => by simp at h
  | x :: r, size, hs, k + 1, h => by
    have := flat_drop r size (fun y hy => hs y (by simp [hy])) k (by simpa using h)
    rw [List.drop_succ_cons, this, List.flatten_cons]
    rw [show (k + 1) * size = x.length + k * size by rw [hs x (by simp), Nat.add_mul]; omega, List.drop_length_add_append]
theorem okE_drop {k : Nat} (h : OkE size ls) : OkE size (ls.drop k) := fun x hx => h x (List.mem_of_mem_drop hx)
theorem okE_take {k : Nat} (h : OkE size ls) : OkE size (ls.take k) := fun x hx => h x (List.mem_of_mem_take hx)
/-- the address of a part -/
def cutA (a : Option Addr) (c l size : Nat) : Option Addr := if c = l then a else a.map (·.add (l * size))
theorem Sh_cut {lo hi : Nat} (h1 : lo ≤ hi) (h2 : hi ≤ ls.length) {o r : Hp} (h : (Sh e size ls a c).h o r) : (Sh e size ((ls.take hi).drop lo) (cutA a c lo size) (c - lo)).h o r := by
  obtain ⟨q1, q2, q3⟩ := h
  have hl : ((ls.take hi).drop lo).length = hi - lo := by simp; omega
  refine ⟨okE_drop (okE_take q1), by rw [hl]; omega, fun hp => ?_⟩
  rw [hl] at hp
  obtain ⟨b, off, cur, t, fz, rfl, s2, s3⟩ := q3 (by omega)
  have hne : ¬ c = lo := by omega
  refine ⟨b, off + lo * size, cur, t, fz, ?_, s2, fun j u hj => ?_⟩
  · simp only [cutA, if_neg hne, Option.map_some]
    unfold Addr.add; split <;> simp_all
  · rw [Nat.add_assoc]
    apply s3
    rw [flat_drop _ size (okE_take q1).len lo (by simp; omega), List.getElem?_drop] at hj
    have h5 : (ls.take hi).flatten <+: ls.flatten := by
      rw [← List.take_append_drop hi ls, List.flatten_append]
      simp
    obtain ⟨t, ht⟩ := h5
    rw [← ht, List.getElem?_append_left (List.getElem?_eq_some_iff.1 hj).1]
    exact hj
theorem run_sliceAt {t : TypeId} (hE : Elem P t e z size bytes) (lo hi : Option Value) (l h m : Nat) (hb : (Instr.sliceBounds true m c lo hi none).run P w = .ok (l, h, c) w) :
    (Instr.sliceAt t (.slice a m c) lo hi none).run P w = .ok (.slice (cutA a c l size) (h - l) (c - l)) w := by
  obtain ⟨i, zv, i1, i2, i3, i4, i5⟩ := hE.info
  simp only [Instr.sliceAt, Instr.slice, Sem.run_bind, run_underlying hE.und, Result.andThen_ok, hb, run_sizeOf w ⟨i, i1, i4⟩, Sem.run_pure, cutA]
theorem run_bound {kk : IntKind} {x m : Nat} {cd : BoundsCode} (h : x ≤ m) : (Instr.sliceBound (.int kk (x : Int)) m cd).run P w = .ok x w := by
  simp only [Instr.sliceBound, asIntOf, Sem.run_bind, Sem.run_pure, Result.andThen_ok]
  rw [if_pos (by omega)]
  simp
theorem bounds_lo {kk : IntKind} {l m : Nat} (h : l ≤ m) : (Instr.sliceBounds true m c (some (.int kk (l : Int))) none none).run P w = .ok (l, m, c) w := by
  simp [Instr.sliceBounds, run_bound h]
theorem bounds_hi {kk : IntKind} {h m : Nat} (hh : h ≤ c) : (Instr.sliceBounds true m c none (some (.int kk (h : Int))) none).run P w = .ok (0, h, c) w := by
  simp [Instr.sliceBounds, run_bound hh]
theorem bounds_lh {kk kk' : IntKind} {l h m : Nat} (hl : l ≤ h) (hh : h ≤ c) : (Instr.sliceBounds true m c (some (.int kk (l : Int))) (some (.int kk' (h : Int))) none).run P w = .ok (l, h, c) w := by
  simp [Instr.sliceBounds, run_bound hh, run_bound hl]

/-- x[lo:] of a shared slice -/
theorem WL.slLo {o : Oper} {t : TypeId} {x y : Operand} {kk : IntKind} {v : Int} (hg : o.guard = none) (ho : o.op = .slice t x (some y) none none) (i lo : Nat) (ms : List (List Value)) (hE : Elem P t e z size bytes) (hS : St g L w) (hi : L[i]? = some (Sh e size ls a c)) (hx : ev F x = .slice a ls.length c) (hy : ev F y = .int kk v) (hv : v = lo) (hle : lo ≤ ls.length) (hms : ls.drop lo = ms)
    (hk : ∀ a', St g (Sh e size ms a' (c - lo) :: L) w → WL P n os l K (updo F o.dst (.slice a' ms.length (c - lo))) w) : WL P n os (o :: l) K F w := by
  subst hms; subst hv
  have h0 := (hS.dup i hi (fun _ _ h => Sh.dup h)).impl (fun o r h => Sh_cut hle (Nat.le_refl _) h)
  rw [List.take_length] at h0
  have hk' := hk _ h0
  rw [List.length_drop] at hk'
  refine WL.val hg (fun hok => ?_) hk'
  have e1 := okX_at (F := F) hok (x := x) (by simp [ho, Op.operands])
  have e2 := okX_at (F := F) hok (x := y) (by simp [ho, Op.operands])
  simp only [execOp, ho, e1, hx, Option.map_some, Option.map_none, e2, hy, Sem.run_bind, run_sliceAt hE _ _ lo ls.length ls.length (bounds_lo hle), Result.andThen_ok, Sem.run_pure]
/-- x[:hi] of a shared slice -/
theorem WL.slHi {o : Oper} {t : TypeId} {x y : Operand} {kk : IntKind} {v : Int} (hg : o.guard = none) (ho : o.op = .slice t x none (some y) none) (i hi : Nat) (ms : List (List Value)) (hE : Elem P t e z size bytes) (hS : St g L w) (hi' : L[i]? = some (Sh e size ls a c)) (hx : ev F x = .slice a ls.length c) (hy : ev F y = .int kk v) (hv : v = hi) (hle : hi ≤ ls.length) (hms : ls.take hi = ms)
    (hk : ∀ a', St g (Sh e size ms a' c :: L) w → WL P n os l K (updo F o.dst (.slice a' ms.length c)) w) : WL P n os (o :: l) K F w := by
  subst hms; subst hv
  have h0 := (hS.dup i hi' (fun _ _ h => Sh.dup h)).impl (fun o r h => Sh_cut (Nat.zero_le _) hle h)
  rw [List.drop_zero, Nat.sub_zero] at h0
  have hk' := hk _ h0
  rw [List.length_take, Nat.min_eq_left hle] at hk'
  obtain ⟨_, _, ⟨_, hc, _⟩, _, _⟩ := hS.get i hi'
  refine WL.val hg (fun hok => ?_) hk'
  have e1 := okX_at (F := F) hok (x := x) (by simp [ho, Op.operands])
  have e2 := okX_at (F := F) hok (x := y) (by simp [ho, Op.operands])
  have hr := run_sliceAt (P := P) (w := w) (c := c) (a := a) hE none (some (.int kk (hi : Int))) 0 hi ls.length (bounds_hi (by omega))
  simp only [execOp, ho, e1, hx, Option.map_some, Option.map_none, e2, hy, Sem.run_bind, hr, Result.andThen_ok, Sem.run_pure, Nat.sub_zero]
/-- x[lo:hi] of a shared slice -/
theorem WL.slLH {o : Oper} {t : TypeId} {x y y' : Operand} {kk kk' : IntKind} {v v' : Int} (hg : o.guard = none) (ho : o.op = .slice t x (some y) (some y') none) (i lo hi : Nat) (ms : List (List Value)) (hE : Elem P t e z size bytes) (hS : St g L w) (hi' : L[i]? = some (Sh e size ls a c)) (hx : ev F x = .slice a ls.length c) (hy : ev F y = .int kk v) (hv : v = lo) (hy' : ev F y' = .int kk' v') (hv' : v' = hi)
    (hlh : lo ≤ hi) (hle : hi ≤ ls.length) (hms : (ls.take hi).drop lo = ms)
    (hk : ∀ a', St g (Sh e size ms a' (c - lo) :: L) w → WL P n os l K (updo F o.dst (.slice a' ms.length (c - lo))) w) : WL P n os (o :: l) K F w := by
  subst hms; subst hv; subst hv'
  have h0 := (hS.dup i hi' (fun _ _ h => Sh.dup h)).impl (fun o r h => Sh_cut hlh hle h)
  have hk' := hk _ h0
  rw [List.length_drop, List.length_take, Nat.min_eq_left hle] at hk'
  obtain ⟨_, _, ⟨_, hc, _⟩, _, _⟩ := hS.get i hi'
  refine WL.val hg (fun hok => ?_) hk'
  have e1 := okX_at (F := F) hok (x := x) (by simp [ho, Op.operands])
  have e2 := okX_at (F := F) hok (x := y) (by simp [ho, Op.operands])
  have e3 := okX_at (F := F) hok (x := y') (by simp [ho, Op.operands])
  have hr := run_sliceAt (P := P) (w := w) (c := c) (a := a) hE (some (.int kk (lo : Int))) (some (.int kk' (hi : Int))) lo hi ls.length (bounds_lh hlh (by omega))
  simp only [execOp, ho, e1, hx, Option.map_some, Option.map_none, e2, hy, e3, hy', Sem.run_bind, hr, Result.andThen_ok, Sem.run_pure]
/-- x[:hi] of an own slice: the rest is given up -/
theorem WL.slOwn {o : Oper} {t : TypeId} {x y : Operand} {kk : IntKind} {v : Int} (hg : o.guard = none) (ho : o.op = .slice t x none (some y) none) (i hi : Nat) (ms : List (List Value)) (hE : Elem P t e z size bytes) (hS : St g L w) (hi' : L[i]? = some (Own e size ls a c)) (hx : ev F x = .slice a ls.length c) (hy : ev F y = .int kk v) (hv : v = hi) (hle : hi ≤ ls.length) (hms : ls.take hi = ms)
    (hk : St g (L.set i (Own e size ms a c)) w → WL P n os l K (updo F o.dst (.slice a ms.length c)) w) : WL P n os (o :: l) K F w := by
  subst hms; subst hv
  have h0 : St g (Own e size (ls.take hi) a c :: L.eraseIdx i) w := (hS.at_ i hi').impl fun o r ⟨q1, q2⟩ => ⟨okE_take q1, by
    rcases q2 with ⟨rfl, rfl, rfl⟩ | ⟨b, cur, rfl, s2, s3, s4, s5, s6⟩
    · exact .inl ⟨rfl, rfl, by simp⟩
    · refine .inr ⟨b, cur, rfl, s2, by simp; omega, s4, s5, ?_⟩
      have h5 : (ls.take hi).flatten = ls.flatten.take (hi * size) := by
        have h6 : ls.flatten = (ls.take hi).flatten ++ (ls.drop hi).flatten := by rw [← List.flatten_append, List.take_append_drop]
        rw [h6, List.take_left' (by rw [flat_len _ _ (okE_take q1).len]; simp [Nat.min_eq_left hle])]
      rw [h5, ← s6, List.take_take, List.length_take, Nat.min_eq_left hle, Nat.min_eq_left (Nat.mul_le_mul_right _ hle)]⟩
  have hk' := hk (h0.back i hi')
  rw [List.length_take, Nat.min_eq_left hle] at hk'
  have hc : ls.length ≤ c := by
    obtain ⟨_, _, ⟨_, hf⟩, _, _⟩ := hS.get i hi'
    rcases hf with ⟨_, _, rfl⟩ | ⟨_, _, _, _, h3, _⟩
    · simp
    · exact h3
  have hcut : cutA a c 0 size = a := by
    unfold cutA; split
    · rfl
    · cases a <;> simp [Addr.add]
  refine WL.val hg (fun hok => ?_) hk'
  have e1 := okX_at (F := F) hok (x := x) (by simp [ho, Op.operands])
  have e2 := okX_at (F := F) hok (x := y) (by simp [ho, Op.operands])
  have hr := run_sliceAt (P := P) (w := w) (c := c) (a := a) hE none (some (.int kk (hi : Int))) 0 hi ls.length (bounds_hi (by omega))
  simp only [execOp, ho, e1, hx, Option.map_some, Option.map_none, e2, hy, Sem.run_bind, hr, Result.andThen_ok, Sem.run_pure, Nat.sub_zero, hcut]

/-- make([]T, len, cap) -/
theorem WL.make {o : Oper} {t : TypeId} {x y : Operand} {kk kk' : IntKind} {v v' : Int} (hg : o.guard = none) (ho : o.op = .makeSlice t x y) (m c : Nat) (hE : Elem P t e z size bytes) (hS : St g L w) (hx : ev F x = .int kk v) (hv : v = m) (hy : ev F y = .int kk' v') (hv' : v' = c) (hmc : m ≤ c) (hc : Rm c bytes)
    (hk : ∀ b w', St g (Own e size (List.replicate m z.toList) (some ⟨b, 0, none⟩) c :: L) w' → WL P n os l K (updo F o.dst (.slice (some ⟨b, 0, none⟩) m c)) w') : WL P n os (o :: l) K F w := by
  subst hv; subst hv'
  obtain ⟨i, zv, i1, i2, i3, i4, i5⟩ := hE.info
  have h63 : (c : Int) ≤ 9223372036854775807 := by have := hc.1; simp only [maxLen] at this; omega
  have hb : (i.bytes : Int) * (c : Int) ≤ 281474976710656 := by
    have := hc.2; rw [← i5, Nat.mul_comm] at this
    have h2 : ((i.bytes * c : Nat) : Int) ≤ 281474976710656 := by omega
    rwa [Int.natCast_mul] at h2
  have hr := run_make (P := P) w t e i zv hE.und i1 i2 kk kk' (m : Int) (c : Int) (by omega) (by omega) hb h63
  simp only [Int.toNat_natCast] at hr
  have hsz : (madeCells zv.cells (c * i.size)).size = c * size := by rw [size_madeCells, i4]
  have hS' := (hS.new (.cells (madeCells zv.cells (c * i.size)) e)).impl (B := Own e size (List.replicate m z.toList) (some ⟨w.heap.size, 0, none⟩) c) fun o r hb =>
    ⟨fun x hx => by rw [List.eq_of_mem_replicate hx]; exact ⟨by simpa using hE.zsz, hE.one⟩, .inr ⟨_, _, rfl, hb, by simpa using hmc, hc.1, hsz, by
      apply List.ext_getElem?
      intro j
      simp only [List.length_replicate]
      rw [List.getElem?_take]
      by_cases hj : j < m * size
      · rw [if_pos hj]
        have hjc : j < c * size := Nat.lt_of_lt_of_le hj (Nat.mul_le_mul_right _ hmc)
        have hd : j / size < m := Nat.div_lt_of_lt_mul (by rw [Nat.mul_comm]; exact hj)
        have hmod : j % size < size := Nat.mod_lt _ hE.pos
        have h6 := flat_at (List.replicate m z.toList) size (fun x hx => by rw [List.eq_of_mem_replicate hx]; simpa using hE.zsz) (j / size) z.toList (j % size) (by simp [hd]) (by simpa [hE.zsz] using hmod)
        rw [Nat.mul_comm, Nat.div_add_mod] at h6
        rw [h6]
        have hz : j % size < z.size := by rw [hE.zsz]; exact hmod
        simp [madeCells, i3, i4, hjc, hE.zsz]
        rw [getElem!_pos z _ hz, Array.getElem?_eq_getElem hz]
      · rw [if_neg hj]
        symm
        rw [List.getElem?_eq_none]
        rw [flat_len _ size (fun x hx => by rw [List.eq_of_mem_replicate hx]; simpa using hE.zsz)]
        simp; omega⟩⟩
  refine WL.val hg (fun hok => ?_) (hk w.heap.size _ hS')
  have e1 := okX_at (F := F) hok (x := x) (by simp [ho, Op.operands])
  have e2 := okX_at (F := F) hok (x := y) (by simp [ho, Op.operands])
  simp only [execOp, ho, e1, hx, e2, hy, Sem.run_bind, hr, Result.andThen_ok, Sem.run_pure]

/-! ### strings -/
/-- bytes as elements of a slice -/
def by8 (l : List Int) : List (List Value) := l.map fun x => [.int .u8 x]
@[simp] theorem by8_len (l : List Int) : (by8 l).length = l.length := by simp [by8]
theorem by8_at {l : List Int} {k : Nat} {x : Int} (h : l[k]? = some x) : (by8 l)[k]? = some [.int .u8 x] := by simp [by8, h]
theorem by8_app (l m : List Int) : by8 (l ++ m) = by8 l ++ by8 m := by simp [by8]
theorem by8_drop (l : List Int) (k : Nat) : (by8 l).drop k = by8 (l.drop k) := by simp [by8]
theorem by8_take (l : List Int) (k : Nat) : (by8 l).take k = by8 (l.take k) := by simp [by8]
theorem by8_nil : by8 [] = [] := rfl
theorem by8_snoc (l : List Int) (x : Int) : by8 l ++ [[.int .u8 x]] = by8 (l ++ [x]) := by simp [by8]
theorem by8_one (x : Int) : [[Value.int .u8 x]] = by8 [x] := rfl
theorem by8_ok (l : List Int) : OkE 1 (by8 l) := fun x hx => by
  obtain ⟨y, _, rfl⟩ := List.mem_map.1 hx
  exact ⟨rfl, fun u hu => by simp at hu; subst hu; rfl⟩
/-- the bytes of a string -/
def sb (s : ByteArray) : List Int := s.data.toList.map fun b => (b.toNat : Int)
theorem sb_len (s : ByteArray) : (sb s).length = s.size := by simp [sb]
/-- the string of some bytes -/
def mkS (l : List Int) : ByteArray := ⟨(l.map fun x => UInt8.ofNat x.toNat).toArray⟩
theorem mkS_sb (s : ByteArray) : mkS (sb s) = s := by
  unfold mkS sb
  have : ((s.data.toList.map fun b => (b.toNat : Int)).map fun x => UInt8.ofNat x.toNat) = s.data.toList := by
    rw [List.map_map]
    conv => rhs; rw [← List.map_id s.data.toList]
    exact List.map_congr_left fun b _ => by simp
  rw [this]
def B8 (l : List Int) : Prop := ∀ x ∈ l, 0 ≤ x ∧ x ≤ 255
theorem sb_B8 (s : ByteArray) : B8 (sb s) := fun x hx => by
  obtain ⟨b, _, rfl⟩ := List.mem_map.1 hx
  have := b.toNat_lt
  omega
theorem sb_mkS {l : List Int} (h : B8 l) : sb (mkS l) = l := by
  simp only [sb, mkS, List.map_map]
  conv => rhs; rw [← List.map_id l]
  refine List.map_congr_left fun x hx => ?_
  have := h x hx
  simp only [Function.comp, id, UInt8.toNat_ofNat']
  rw [show x.toNat % 2 ^ 8 = x.toNat from Nat.mod_eq_of_lt (by omega)]
  omega
theorem sb_inj {s t : ByteArray} (h : sb s = sb t) : s = t := by rw [← mkS_sb s, ← mkS_sb t, h]

/-- s[i] -/
theorem WL.ixs {o : Oper} {t : TypeId} {x y : Operand} {s : ByteArray} {kk : IntKind} {v : Int} (hg : o.guard = none) (ho : o.op = .index t x y) (k : Nat) {b : Int} (hT : mem T.strs t = true) (hx : ev F x = .string s) (hy : ev F y = .int kk v) (hv : v = k) (hb : (sb s)[k]? = some b)
    (hk : WL P n os l K (updo F o.dst (.int .u8 b)) w) : WL P n os (o :: l) K F w := by
  subst hv
  have hu : P.underlying t = some .string := Tab.str hT
  refine WL.val hg (fun hok => ?_) hk
  have e1 := okX_at (F := F) hok (x := x) (by simp [ho, Op.operands])
  have e2 := okX_at (F := F) hok (x := y) (by simp [ho, Op.operands])
  simp only [sb, List.getElem?_map] at hb
  cases hq : s.data.toList[k]? with
  | none => simp [hq] at hb
  | some c =>
    simp only [hq, Option.map_some, Option.some.injEq] at hb
    have hs : s[k]? = some c := by
      have hlt := (List.getElem?_eq_some_iff.1 hq).1
      have hlt2 : k < s.size := by simpa using hlt
      have h3 : s[k] = c := (List.getElem?_eq_some_iff.1 hq).2
      rw [getElem?_pos s k hlt2, h3]
    subst hb
    simp [execOp, ho, e1, hx, e2, hy, Instr.index, asIntOf, run_underlying hu, hs]
/-- []byte(s) -/
theorem WL.toB {o : Oper} {sT dT e : TypeId} {x : Operand} {s : ByteArray} (hg : o.guard = none) (ho : o.op = .convert sT dT x) (hs : P.underlying sT = some .string) (hd : P.underlying dT = some (.slice e)) (he : P.underlying e = some (.int .u8)) (hS : St g L w) (hx : ev F x = .string s)
    (hk : ∀ a c w', St g (Sh e 1 (by8 (sb s)) a c :: L) w' → WL P n os l K (updo F o.dst (.slice a s.size c)) w') : WL P n os (o :: l) K F w := by
  have hr := run_bytes_of_string (P := P) w sT dT e s hs hd he
  generalize hcap : grownCap w s.size 0 e = cap at hr
  have hcap' : s.size ≤ cap := by rw [← hcap]; exact grownCap_ge _ _ _ _
  generalize hob : Obj.cells (bytesRow s cap) e ((bytesRow s cap).size, (bytesRow s cap).size + 1) = ob at hr
  have h1 := hS.drew.new ob
  have h2 : St g (Sh e 1 (by8 (sb s)) (some ⟨w.heap.size, 0, none⟩) cap :: L) (w.drew.alloc ob) := by
    obtain ⟨o', r, hd', ho', hr', hg', o1, o2, q1, q2, hd12, hA, hL⟩ := h1.own
    have d2r : Dj o2 r := hd'.sub q2 (Sub.refl _)
    have d1r : Dj o1 r := hd'.sub q1 (Sub.refl _)
    refine ⟨h1.os, h1.tape, h1.output, h1.size, o2, join r o1, (d2r.symm.join hd12).symm, q2.w ho', join_w hr' (q1.w ho'), fun k hk => ?_, fun _ => none, o2, (fun _ _ h => by cases h), Sub.refl _, (fun _ => .inl rfl), ?_, All.mono L (Sub.refl _) (join_l _ _) hL⟩
    · have := hg' k hk
      rw [Array.getElem?_eq_getElem hk] at this ⊢
      exact join_l r o1 k _ this
    · have hl : (by8 (sb s)).length = s.size := by rw [by8_len, sb_len]
      have hA' : o1 w.heap.size = some ob := hA
      refine ⟨by8_ok _, by rw [hl]; exact hcap', fun _ => ⟨w.heap.size, 0, bytesRow s cap, e, ((bytesRow s cap).size, (bytesRow s cap).size + 1), rfl, join_r d1r.symm _ _ (by rw [hA', ← hob]), fun j u hj => ?_⟩⟩
      have hjl : j < s.data.size := by
        have := (List.getElem?_eq_some_iff.1 hj).1
        rw [flat_len _ 1 (by8_ok _).len, hl] at this
        simpa using this
      rw [Nat.zero_add, bytesRow_at s cap j hjl]
      have h5 := flat_at (by8 (sb s)) 1 (by8_ok _).len j [.int .u8 (s.data[j].toNat : Int)] 0 (by
        apply by8_at
        simp only [sb, List.getElem?_map]
        rw [List.getElem?_eq_getElem (by simpa using hjl)]
        simp) (by simp)
      simp only [Nat.mul_one, Nat.add_zero] at h5
      rw [hj] at h5
      simpa using h5.symm
  refine WL.val hg (fun hok => ?_) (hk _ cap _ h2)
  have e1 := okX_at (F := F) hok (x := x) (by simp [ho, Op.operands])
  simp only [execOp, ho, e1, hx, Sem.run_bind, hr, Result.andThen_ok, Sem.run_pure]
/-- string(b) -/
theorem WL.toS {o : Oper} {sT dT e : TypeId} {x : Operand} {a : Option Addr} {c : Nat} {bs : List Int} (hg : o.guard = none) (ho : o.op = .convert sT dT x) (hs : P.underlying sT = some (.slice e)) (hd : P.underlying dT = some .string) (he : P.underlying e = some (.int .u8)) (hsrc : Src w 1 (by8 bs) a) (hb : B8 bs) (hx : ev F x = .slice a bs.length c)
    (hk : WL P n os l K (updo F o.dst (.string (mkS bs))) w) : WL P n os (o :: l) K F w := by
  refine WL.val hg (fun hok => ?_) hk
  have e1 := okX_at (F := F) hok (x := x) (by simp [ho, Op.operands])
  have hr : (convert sT dT (.slice a bs.length c)).run P w = .ok (.string (mkS bs)) w := by
    by_cases h0 : bs = []
    · subst h0
      cases a with
      | none => rw [run_convert_bytes_string w sT dT e none _ c hs he hd]; simp [Conv.bytesToString, mkS]; rfl
      | some ad =>
        have := run_convert_bytes_back (P := P) w sT dT e ad c [] hs he hd (fun j hj => by simp at hj)
        simpa [mkS] using this
    · obtain ⟨⟨b, off, rfl⟩, hc⟩ := hsrc.rd (by rw [by8_len]; exact List.length_pos_iff.2 h0)
      have hlen : (bs.map fun x => UInt8.ofNat x.toNat).length = bs.length := by simp
      have := run_convert_bytes_back (P := P) w sT dT e ⟨b, off, none⟩ c (bs.map fun x => UInt8.ofNat x.toNat) hs he hd (fun j hj => by
        have hj' : j < bs.length := by simpa using hj
        rw [show (⟨b, off, none⟩ : Addr).add j = ⟨b, off + j, none⟩ by unfold Addr.add; split <;> simp_all]
        have h5 := flat_at (by8 bs) 1 (by8_ok _).len j [.int .u8 bs[j]] 0 (by8_at (List.getElem?_eq_getElem hj')) (by simp)
        simp only [Nat.mul_one, Nat.add_zero] at h5
        have h6 := hc j (.int .u8 bs[j]) (by rw [h5]; rfl)
        rw [show bo (some ⟨b, off, none⟩) = b from rfl, show oo (some ⟨b, off, none⟩) = off from rfl] at h6
        rw [h6]
        have h7 := hb bs[j] (List.getElem_mem hj')
        congr 2
        simp only [List.getElem_map, UInt8.toNat_ofNat']
        rw [show bs[j].toNat % 2 ^ 8 = bs[j].toNat from Nat.mod_eq_of_lt (by omega)]
        omega)
      rw [hlen] at this
      exact this
  simp only [execOp, ho, e1, hx, Sem.run_bind, hr, Result.andThen_ok, Sem.run_pure]
end
end Go.V
