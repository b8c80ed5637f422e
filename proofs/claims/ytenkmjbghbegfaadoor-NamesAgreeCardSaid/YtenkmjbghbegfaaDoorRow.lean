/-
  From the judgement on a law's function to the row: arguments are opened, memory below stays as it was. No program.
  Conditions: none; every fact is proved from the library's own definitions.
-/
import Derived.Test.YtenkmjbghbegfaaDoorEnx
import Derived.ProofKit
import Derived.Deep.Slices
namespace Go.V
open Go Go.RowKit Go.ChangeShapes Go.WideShapes

section
variable {H : Type} {enc : TypeId × Value → H} {P : Program}

/-- these cells read as a datum of type t -/
def Rdc (enc : TypeId × Value → H) (P : Program) (w : World) (t : TypeId) (cs : List Value) : Prop := ∃ n x, DataW.trod enc P w 0 (fun _ => true) true n t cs = some x
variable {w : World} {t e : TypeId} {cs : List Value}
theorem Rdc.int {k : IntKind} (h : Rdc enc P w t cs) (ht : P.underlying t = some (.int k)) : ∃ n, cs = [.int k n] ∧ k.min ≤ n ∧ n ≤ k.max := by
  obtain ⟨m, x, hx⟩ := h
  obtain ⟨n, h1, _, h3⟩ := DataW.trod_int ht hx
  simp only [Lit.wf, Bool.and_eq_true, decide_eq_true_eq] at h3
  exact ⟨n, h1, h3.1, h3.2⟩
theorem Rdc.bool (h : Rdc enc P w t cs) (ht : P.underlying t = some .bool) : ∃ b, cs = [.bool b] := by
  obtain ⟨m, x, hx⟩ := h
  obtain ⟨b, h1, _⟩ := DataW.trod_bool ht hx
  exact ⟨b, h1⟩
theorem Rdc.str (h : Rdc enc P w t cs) (ht : P.underlying t = some .string) : ∃ s, cs = [.string s] ∧ s.size ≤ maxLen := by
  obtain ⟨m, x, hx⟩ := h
  obtain ⟨s, h1, _, h3⟩ := DataW.trod_string ht hx
  exact ⟨s, h1, h3⟩
theorem Rdc.struct {fs : Array Field} (h : Rdc enc P w t cs) (ht : P.underlying t = some (.struct fs)) : cs.length = P.cellsOf t ∧ ∀ (i : Nat) (f : Field), fs[i]? = some f → Rdc enc P w f.type ((cs.drop f.offset).take (P.cellsOf f.type)) := by
  obtain ⟨m, x, hx⟩ := h
  obtain ⟨xs, n, _, _, hl, hlen, hf⟩ := DataW.trod_struct ht hx
  refine ⟨hl, fun i f hi => ?_⟩
  have hlt : i < xs.length := by rw [hlen]; exact (Array.getElem?_eq_some_iff.1 hi).1
  exact ⟨n, xs[i], by rw [hf i f hi, List.getElem?_eq_getElem hlt]⟩
/-- a thing that is in memory when the call begins -/
def Hw (w : World) (A : HP) : Prop := ∀ r : Hp, (∀ k, k < w.heap.size → r k = w.heap[k]?) → A.h (fun _ => none) r
theorem Hw.add {L : List HP} {A : HP} {w' : World} (h : Hw w A) (hS : St w L w') : St w (A :: L) w' := hS.add h
theorem Rdc.slice {size : Nat} (h : Rdc enc P w t cs) (ht : P.underlying t = some (.slice e)) (hc : P.cellsOf e = size) (hp : 0 < size) (ho : ∀ x, Rdc enc P w e x → x.length = size ∧ ∀ u ∈ x, u.oneCell' = true) :
    ∃ a c ls, cs = [.slice a ls.length c] ∧ ls.length ≤ maxLen ∧ (∀ x ∈ ls, Rdc enc P w e x) ∧ ∀ e', Hw w (Sh e' size ls a c) := by
  obtain ⟨m, x, hx⟩ := h
  rcases Go.Deep.open_slice ht hx with ⟨h1, _⟩ | ⟨a, len, cap, mm, n, D, Pl, h1, _, hlc, hcm, hmm, _, hel⟩
  · exact ⟨none, 0, [], h1, Nat.zero_le _, (fun _ h => by cases h), fun _ _ _ => ⟨OkE.nil _, Nat.zero_le _, fun h => by simp at h⟩⟩
  · simp only [if_true] at hmm
    subst hmm
    rw [hc] at hel
    have hel2 : ∀ i, i < len → ∃ cs' : List Value, w.cells? 0 (a.add (i * size)) size = some cs' ∧ Rdc enc P w e cs' := fun i hi => by
      obtain ⟨cs', q1, q2⟩ := hel i (by omega)
      exact ⟨cs', q1, n, _, q2⟩
    obtain ⟨V, hV⟩ := Go.Deep.choose_lt (α := List Value) hel2
    have hlen : ((List.range len).map V).length = len := by simp
    have hrd : ∀ x ∈ (List.range len).map V, Rdc enc P w e x := fun x hx => by
      obtain ⟨i, hi, rfl⟩ := List.mem_map.1 hx
      exact (hV i (List.mem_range.1 hi)).2
    have hok : OkE size ((List.range len).map V) := fun x hx => ho x (hrd x hx)
    refine ⟨some a, mm, (List.range len).map V, by rw [hlen]; exact h1, by rw [hlen]; omega, hrd, fun _ r hr => ⟨hok, by rw [hlen]; exact hlc, fun hpos => ?_⟩⟩
    rw [hlen] at hpos
    have cell : ∀ j u, ((List.range len).map V).flatten[j]? = some u → w.cell? (a.add j) = some u := by
      intro j u hj
      have hjl : j < len * size := by
        have := (List.getElem?_eq_some_iff.1 hj).1
        rw [flat_len _ _ hok.len, hlen] at this
        exact this
      have hd : j / size < len := Nat.div_lt_of_lt_mul (by rw [Nat.mul_comm]; exact hjl)
      have hm : j % size < size := Nat.mod_lt _ hp
      obtain ⟨q1, q2⟩ := hV (j / size) hd
      obtain ⟨_, s2, s3⟩ := World.cells?_some q1
      have hat := flat_at ((List.range len).map V) size hok.len (j / size) (V (j / size)) (j % size) (by simp [hd]) (by rw [s2]; exact hm)
      have hdm : j / size * size + j % size = j := by rw [Nat.mul_comm]; exact Nat.div_add_mod j size
      rw [hdm, hj] at hat
      have h5 := s3 (j % size) hm
      rw [Go.Deep.add_add, hdm] at h5
      rw [h5, ← hat]
    have h0 : 0 < ((List.range len).map V).flatten.length := by rw [flat_len _ _ hok.len, hlen]; exact Nat.mul_pos hpos hp
    have c0 := cell 0 _ (List.getElem?_eq_getElem h0)
    have ha0 : a.add 0 = a := rfl
    rw [ha0] at c0
    have hspot : a.spot = none := by
      unfold World.cell? at c0
      split at c0
      · split at c0
        · cases c0
        · rename_i hs; cases hsp : a.spot with
          | none => rfl
          | some z => rw [hsp] at hs; simp at hs
      · cases c0
    obtain ⟨b, off, spot⟩ := a
    simp only at hspot
    subst hspot
    cases hb : w.heap[b]? with
    | none => simp [World.cell?, hb] at c0
    | some ob =>
      cases ob with
      | cells cur t' fz =>
        have hblt : b < w.heap.size := (Array.getElem?_eq_some_iff.1 hb).1
        refine ⟨b, off, cur, t', fz, rfl, by rw [hr b hblt, hb], fun j u hj => ?_⟩
        have := cell j u hj
        rw [show (⟨b, off, none⟩ : Addr).add j = ⟨b, off + j, none⟩ by unfold Addr.add; split <;> simp_all, cell_of_row w b _ cur t' fz hb] at this
        exact this
      | _ => simp [World.cell?, hb] at c0
theorem list_of {α β : Type} {p : α → β → Prop} : ∀ (l : List α), (∀ x ∈ l, ∃ y, p x y) → ∃ m : List β, m.length = l.length ∧ ∀ (i : Nat) (x : α) (y : β), l[i]? = some x → m[i]? = some y → p x y
  | [], _ => ⟨[], rfl, fun i x y h => by simp at h⟩
  | x :: l, h => by
    obtain ⟨y, hy⟩ := h x (List.mem_cons_self ..)
    obtain ⟨m, h1, h2⟩ := list_of l fun z hz => h z (List.mem_cons_of_mem _ hz)
    refine ⟨y :: m, by simp [h1], fun i x' y' hx hy' => ?_⟩
    cases i with
    | zero => simp at hx hy'; subst hx; subst hy'; exact hy
    | succ i => simp at hx hy'; exact h2 i x' y' hx hy'
/-- a list whose members have a form -/
theorem map_of {α β : Type} (f : α → β) (q : α → Prop) : ∀ (l : List β), (∀ x ∈ l, ∃ y, x = f y ∧ q y) → ∃ m : List α, l = m.map f ∧ ∀ y ∈ m, q y
  | [], _ => ⟨[], rfl, fun _ h => by cases h⟩
  | x :: l, h => by
    obtain ⟨y, rfl, hq⟩ := h x (List.mem_cons_self ..)
    obtain ⟨m, rfl, h2⟩ := map_of f q l fun z hz => h z (List.mem_cons_of_mem _ hz)
    exact ⟨y :: m, rfl, fun z hz => by
      rcases List.mem_cons.1 hz with rfl | hz
      · exact hq
      · exact h2 z hz⟩

/-! ### arguments -/
theorem Trod.rdc {v : Value} {d : DataW H} {p : List MemPlace} (h : DataW.Trod enc P w 0 (fun _ => true) true t v d p) : Rdc enc P w t v.cells.toList := by
  obtain ⟨n, hn⟩ := h; exact ⟨n, _, hn⟩
/-- each argument reads -/
def RdArgs (enc : TypeId × Value → H) (P : Program) (w : World) : List TypeId → List Value → Prop
  | [], [] => True
  | t :: ts, v :: vs => Rdc enc P w t v.cells.toList ∧ RdArgs enc P w ts vs
  | _, _ => False
theorem RdArgs.of : ∀ {ts : List TypeId} {vs : List Value} {ds : List (DataW H)} {p : List MemPlace}, DataW.TrodAll enc P w 0 (fun _ => true) true ts vs ds p → RdArgs enc P w ts vs
  | [], [], _, _, _ => trivial
  | _ :: _, _ :: _, _ :: _, _, ⟨_, _, h1, h2, _⟩ => ⟨Trod.rdc h1, RdArgs.of h2⟩
theorem TrodAll.len : ∀ {ts : List TypeId} {vs : List Value} {ds : List (DataW H)} {p : List MemPlace}, DataW.TrodAll enc P w 0 (fun _ => true) true ts vs ds p → ds.length = ts.length
  | [], [], [], _, _ => rfl
  | _ :: _, _ :: _, _ :: _, _, ⟨_, _, _, h2, _⟩ => by simp [TrodAll.len h2]
theorem TrodAll.stays (hl : laidOutB P = true) {W W' : World} (hb : Below W.heap.size W W') : ∀ {ts : List TypeId} {vs : List Value} {ds : List (DataW H)} {p : List MemPlace}, (∀ t ∈ ts, P.readableRec t = true ∧ t < P.types.size) →
    DataW.TrodAll enc P W 0 (fun _ => true) true ts vs ds p → (∀ x ∈ p, x.block < W.heap.size) → DataW.TrodAll enc P W' 0 (fun b => decide (b < W.heap.size)) true ts vs ds p
  | [], [], [], _, _, h, _ => h
  | t :: _, _ :: _, _ :: _, _, hr, ⟨_, _, h1, h2, e⟩, hlt => ⟨_, _, Below.trod hl (hr t (List.mem_cons_self ..)).1 (hr t (List.mem_cons_self ..)).2 h1 hb (fun x hx => hlt x (by rw [e]; exact List.mem_append_left _ hx)),
      TrodAll.stays hl hb (fun t ht => hr t (List.mem_cons_of_mem _ ht)) h2 (fun x hx => hlt x (by rw [e]; exact List.mem_append_right _ hx)), e⟩

/-- a law's row -/
theorem law_post {f : Func} {s : ChangeSpec} {apart : Bool} {W W' : World} {args : Array Value} {ds gs : List (DataW H)} {before : List MemPlace} {tb : TypeId} (hvars : s.vars = [])
    (hW : DataW.Whole enc P f.params.toList s.vars apart W args.toList ds gs before) (hl : laidOutB P = true) (hr : ∀ t ∈ f.params.toList, P.readableRec t = true ∧ t < P.types.size)
    (hrt : f.resultTypes = #[tb]) (htb : P.underlying tb = some .bool) (hs : ds.length = f.params.size → (s.fn H (ds ++ [])).results = [.lit (.bool true)] ∧ (s.fn H (ds ++ [])).args = ds ∧ (s.fn H (ds ++ [])).vars = []) (hb : Below W.heap.size W W') :
    s.post enc P f apart true false false W args (.bool true) W' := by
  have hW0 := hW
  obtain ⟨p, q, hA, hV, rfl, hz, hn⟩ := hW
  have hlt : ∀ x ∈ p ++ q, x.block < W.heap.size := fun x hx => hW0.lt x hx
  rw [hvars] at hV
  obtain ⟨rfl, rfl⟩ := trodVars_none hV
  obtain ⟨s1, s2, s3⟩ := hs (by rw [TrodAll.len hA]; simp)
  have hst := TrodAll.stays hl hb hr hA (fun x hx => hlt x (List.mem_append_left _ hx))
  refine ⟨ds, [], p ++ [], [], p, [], hW0, ?_, ?_, ?_, ?_, fun h => by cases h⟩
  · rw [s1, hrt]
    exact ⟨[], [], ⟨1, by simp [DataW.trod, htb, Value.cells]⟩, rfl, rfl⟩
  · rw [s2]; exact hst
  · rw [s3, hvars]; exact rfl
  · exact hb.frame _
theorem okv_int {r : Reach} {b : Nat} {k : IntKind} {v : Value} (h : Value.okWide P w r b t v) (ht : P.underlying t = some (.int k)) : v.cells.toList = [v] := by obtain ⟨n, rfl⟩ := okWide_int ht h; rfl
theorem okv_bool {r : Reach} {b : Nat} {v : Value} (h : Value.okWide P w r b t v) (ht : P.underlying t = some .bool) : v.cells.toList = [v] := by obtain ⟨n, rfl⟩ := okWide_bool ht h; rfl
theorem okv_str {r : Reach} {b : Nat} {v : Value} (h : Value.okWide P w r b t v) (ht : P.underlying t = some .string) : v.cells.toList = [v] := by obtain ⟨n, rfl⟩ := okWide_string ht h; rfl
theorem okv_slice {r : Reach} {b : Nat} {v : Value} (h : Value.okWide P w r b t v) (ht : P.underlying t = some (.slice e)) : v.cells.toList = [v] := by obtain ⟨_, _, _, rfl⟩ := okWide_slice ht h; rfl
theorem okv_agg {r : Reach} {b : Nat} {fs : Array Field} {v : Value} {l : List Value} (h : Value.okWide P w r b t v) (ht : P.underlying t = some (.struct fs)) (hl : v.cells.toList = l) : v = .agg l.toArray := by
  obtain ⟨cs, rfl, _⟩ := okWide_struct ht h
  subst hl
  simp [Value.cells]
theorem okv_one {v u : Value} (h : v.cells.toList = [v]) (h2 : v.cells.toList = [u]) : v = u := by
  rw [h] at h2; cases h2; rfl
/-- the arguments: each has its type's outer form and reads -/
def AOk (enc : TypeId × Value → H) (P : Program) (w : World) (base : Nat) : List TypeId → List Value → Prop
  | [], [] => True
  | t :: ts, v :: vs => (Value.okWide P w .any base t v ∧ Rdc enc P w t v.cells.toList) ∧ AOk enc P w base ts vs
  | _, _ => False
theorem AOk.of {base : Nat} : ∀ {ts : List TypeId} {vs : List Value}, RdArgs enc P w ts vs → (∀ (j : Nat) t v, ts[j]? = some t → vs[j]? = some v → Value.okWide P w .any base t v) → AOk enc P w base ts vs
  | [], [], _, _ => trivial
  | [], _ :: _, h, _ => h.elim
  | _ :: _, [], h, _ => h.elim
  | _ :: _, _ :: _, ⟨h1, h2⟩, hv => ⟨⟨hv 0 _ _ rfl rfl, h1⟩, AOk.of h2 fun j t v ht hj => hv (j + 1) t v (by simpa using ht) (by simpa using hj)⟩
theorem AOk.cons {base : Nat} {t : TypeId} {ts : List TypeId} {l : List Value} (h : AOk enc P w base (t :: ts) l) : ∃ v vs, l = v :: vs ∧ Value.okWide P w .any base t v ∧ Rdc enc P w t v.cells.toList ∧ AOk enc P w base ts vs := by
  cases l with
  | nil => exact h.elim
  | cons v vs => exact ⟨v, vs, rfl, h.1.1, h.1.2, h.2⟩
theorem AOk.nil {base : Nat} {l : List Value} (h : AOk enc P w base [] l) : l = [] := by
  cases l with
  | nil => rfl
  | cons v vs => exact h.elim
theorem AOk.args {base : Nat} {ts : Array TypeId} {args : Array Value} {ds : List (DataW H)} {p : List MemPlace} (hA : DataW.TrodAll enc P w 0 (fun _ => true) true ts.toList args.toList ds p)
    (hval : ∀ (j : Nat) t v, ts[j]? = some t → args[j]? = some v → Value.okWide P w .any base t v) : AOk enc P w base ts.toList args.toList :=
  AOk.of (RdArgs.of hA) fun j t v ht hj => hval j t v (by simpa using ht) (by simpa using hj)
/-- what a law's function does, for the row -/
theorem law_calls {f : FuncId} {vs : List Value} {W : World} (h : Sp P f vs W (fun v w' => v = .bool true ∧ St W [] w')) : Calls P f vs.toArray W fun e W' => e = .returned (.bool true) ∧ Below W.heap.size W W' :=
  h.go.mono fun e W' ⟨v, he, hv, hS⟩ => by subst hv; exact ⟨he, hS.below⟩
end
end Go.V
