/-
  The engine, in one text: Exb, Exs, Slm, Slb, Arm, Tbm, Tt, Ts, Aro, Arx, Tw, Ix. No program.
  Conditions: none; every fact is proved from the library's own definitions.
-/
import Derived.Test.YtlnlnebibgdjdaaEgb
import Derived.Test.YtlnlnebibgdjdaaEga
/-! ## Exb -/
namespace Go.V
open Go Go.RowKit

/-- the things of f x, for some x -/
def ExB {α : Type} (f : α → List HP) : HP := ⟨fun o r => ∃ x, All (f x) o r, fun _ _ _ _ ho hr ⟨x, h⟩ => ⟨x, All.mono (f x) ho hr h⟩⟩
section
variable {α : Type} {g w : World} {L : List HP}
theorem St.exOpen {f : α → List HP} (h : St g (ExB f :: L) w) : ∃ x, St g (f x ++ L) w := by
  obtain ⟨o, r, a, b, c, d, o1, o2, h1, h2, hd, ⟨x, hh⟩, hL⟩ := h.own
  exact ⟨x, h.os, h.tape, h.output, h.size, o, r, a, b, c, d, All.cat (f x) L h1 h2 hd hh hL⟩
theorem St.exClose {f : α → List HP} (x : α) (h : St g (f x ++ L) w) : St g (ExB f :: L) w := by
  obtain ⟨o, r, a, b, c, d, e⟩ := h.own
  obtain ⟨o1, o2, h1, h2, hd, hM, hL⟩ := All.app (f x) L e
  exact ⟨h.os, h.tape, h.output, h.size, o, r, a, b, c, d, o1, o2, h1, h2, hd, ⟨x, hM⟩, hL⟩
end
/-! ### lists of 32-bit numbers, of truth values -/
def u32s (l : List Int) : List (List Value) := l.map fun x => [.int .u32 x]
@[simp] theorem u32s_len (l : List Int) : (u32s l).length = l.length := by simp [u32s]
theorem u32s_at {l : List Int} {k : Nat} {x : Int} (h : l[k]? = some x) : (u32s l)[k]? = some [.int .u32 x] := by simp [u32s, h]
theorem u32s_app (l m : List Int) : u32s (l ++ m) = u32s l ++ u32s m := by simp [u32s]
theorem u32s_take (l : List Int) (k : Nat) : (u32s l).take k = u32s (l.take k) := by simp [u32s]
theorem u32s_drop (l : List Int) (k : Nat) : (u32s l).drop k = u32s (l.drop k) := by simp [u32s]
theorem u32s_nil : u32s [] = [] := rfl
theorem u32s_snoc (l : List Int) (x : Int) : u32s l ++ [[.int .u32 x]] = u32s (l ++ [x]) := by simp [u32s]
theorem u32s_set (l : List Int) (k : Nat) (x : Int) : (u32s l).set k [.int .u32 x] = u32s (l.set k x) := by simp [u32s, List.map_set]
theorem u32s_rep (n : Nat) : List.replicate n [.int .u32 0] = u32s (List.replicate n 0) := by simp [u32s]
theorem u32s_ok (l : List Int) : OkE 1 (u32s l) := fun x hx => by
  obtain ⟨y, _, rfl⟩ := List.mem_map.1 hx
  exact ⟨rfl, fun u hu => by simp at hu; rcases hu with rfl <;> rfl⟩
def bos (l : List Bool) : List (List Value) := l.map fun x => [.bool x]
@[simp] theorem bos_len (l : List Bool) : (bos l).length = l.length := by simp [bos]
theorem bos_at {l : List Bool} {k : Nat} {x : Bool} (h : l[k]? = some x) : (bos l)[k]? = some [.bool x] := by simp [bos, h]
theorem bos_snoc (l : List Bool) (x : Bool) : bos l ++ [[.bool x]] = bos (l ++ [x]) := by simp [bos]
theorem bos_app (l m : List Bool) : bos (l ++ m) = bos l ++ bos m := by simp [bos]
theorem bos_set (l : List Bool) (k : Nat) (x : Bool) : (bos l).set k [.bool x] = bos (l.set k x) := by simp [bos, List.map_set]
theorem bos_ok (l : List Bool) : OkE 1 (bos l) := fun x hx => by
  obtain ⟨y, _, rfl⟩ := List.mem_map.1 hx
  exact ⟨rfl, fun u hu => by simp at hu; subst hu; rfl⟩
theorem bos_nil : bos [] = [] := rfl
theorem bos_rep (n : Nat) : List.replicate n [.bool false] = bos (List.replicate n false) := by simp [bos]
theorem i64s_rep (n : Nat) : List.replicate n [.int .i64 0] = i64s (List.replicate n 0) := by simp [i64s]
/-! ### nodes -/
structure Nd where
  key : Int
  val : Int
  lf : Int
  rg : Int
  size : Int
  sum : Int
  mn : Int
  mx : Int
def Nd.zero : Nd := ⟨0, 0, 0, 0, 0, 0, 0, 0⟩
def ndC (n : Nd) : List Value := [.int .i64 n.key, .int .i64 n.val, .int .u32 n.lf, .int .u32 n.rg, .int .i64 n.size, .int .i64 n.sum, .int .i64 n.mn, .int .i64 n.mx]
def nds (l : List Nd) : List (List Value) := l.map ndC
@[simp] theorem nds_len (l : List Nd) : (nds l).length = l.length := by simp [nds]
theorem nds_at {l : List Nd} {k : Nat} {n : Nd} (h : l[k]? = some n) : (nds l)[k]? = some [.int .i64 n.key, .int .i64 n.val, .int .u32 n.lf, .int .u32 n.rg, .int .i64 n.size, .int .i64 n.sum, .int .i64 n.mn, .int .i64 n.mx] := by simp [nds, h, ndC]
theorem nds_set (l : List Nd) (k : Nat) (n : Nd) : (nds l).set k [.int .i64 n.key, .int .i64 n.val, .int .u32 n.lf, .int .u32 n.rg, .int .i64 n.size, .int .i64 n.sum, .int .i64 n.mn, .int .i64 n.mx] = nds (l.set k n) := by simp [nds, ndC, List.map_set]
theorem nds_ok (l : List Nd) : OkE 8 (nds l) := fun x hx => by
  obtain ⟨y, _, rfl⟩ := List.mem_map.1 hx
  exact ⟨rfl, fun u hu => by simp [ndC] at hu; rcases hu with rfl | rfl | rfl | rfl | rfl | rfl | rfl | rfl <;> rfl⟩
theorem nds_rep (n : Nat) : List.replicate n [.int .i64 0, .int .i64 0, .int .u32 0, .int .u32 0, .int .i64 0, .int .i64 0, .int .i64 0, .int .i64 0] = nds (List.replicate n Nd.zero) := by simp [nds, ndC, Nd.zero]
end Go.V

/-! ## Exs -/
namespace Go.V
open Go Go.RowKit

theorem flat_split : ∀ (ls : List (List Value)) (size : Nat), (∀ x ∈ ls, x.length = size) → ∀ (k : Nat) (vs : List Value), k < ls.length → vs.length = size → (ls.set k vs).flatten = ls.flatten.take (k * size) ++ vs ++ ls.flatten.drop (k * size + size)
  | [], _, _, k, _, h, _ => by simp at h
  | x :: r, size, hs, 0, vs, _, hv => by
    have hx := hs x (List.mem_cons_self ..)
    subst hx
    simp
  | x :: r, size, hs, k + 1, vs, h, hv => by
    have hx := hs x (List.mem_cons_self ..)
    have ih := flat_split r size (fun y hy => hs y (List.mem_cons_of_mem _ hy)) k vs (by simpa using h) hv
    rw [List.set_cons_succ, List.flatten_cons, ih, List.flatten_cons, Nat.succ_mul]
    rw [List.take_append, List.drop_append, hx]
    rw [show k * size + size - size = k * size by omega, show k * size + size + size - size = k * size + size by omega]
    rw [List.take_of_length_le (l := x) (by omega), List.drop_of_length_le (l := x) (by omega)]
    simp
theorem take_spl {cur vs : List Value} {off n : Nat} (h1 : off + vs.length ≤ n) (h2 : n ≤ cur.length) : (cur.take off ++ vs ++ cur.drop (off + vs.length)).take n = (cur.take n).take off ++ vs ++ (cur.take n).drop (off + vs.length) := by
  rw [List.take_append, List.take_append, List.length_append, List.length_take, List.take_take, List.take_take, List.drop_take]
  rw [show min off cur.length = off by omega, show min n off = off by omega, show min off n = off by omega]
  rw [List.take_of_length_le (l := vs) (by omega)]
section
variable {P : Program} {T : Tab} [hT : TabOk P T] {n : Nat} {os l : List Oper} {K : Kt} {F : Fm} {w g : World} {L : List HP} {e size c : Nat} {ls : List (List Value)} {a : Option Addr}
theorem St.setS {k b : Nat} {cs vs : List Value} {cur : Array Value} (h : St g (Own e size ls (some ⟨b, 0, none⟩) c :: L) w) (hk : ls[k]? = some cs) (hh : w.heap[b]? = some (.cells cur e (0, 0))) (hl : vs.length = size) (hv : ∀ u ∈ vs, u.oneCell' = true) :
    k * size + size ≤ cur.size ∧ St g (Own e size (ls.set k vs) (some ⟨b, 0, none⟩) c :: L) (w.setRow b (spl cur (k * size) vs)) := by
  have hkl : k < ls.length := (List.getElem?_eq_some_iff.1 hk).1
  have hsz : k * size + size ≤ cur.size := by
    obtain ⟨o1, r, hA, ho, hr⟩ := h.get 0 rfl
    obtain ⟨hok, hA⟩ := hA
    rcases hA with ⟨_, _, h3⟩ | ⟨b', cur', hb, h2, h3, h4, h5, h6⟩
    · subst h3; simp at hkl
    · cases hb
      have := ho _ _ h2
      rw [hh] at this; cases this
      rw [h5]
      calc k * size + size = (k + 1) * size := by rw [Nat.succ_mul]
        _ ≤ c * size := Nat.mul_le_mul_right _ (by omega)
  refine ⟨hsz, h.upd rfl rfl rfl (by simp [World.setRow]) fun o1 r hA hw _ _ => ?_⟩
  obtain ⟨hok, hA⟩ := hA
  rcases hA with ⟨_, _, h3⟩ | ⟨b', cur', hb, h2, h3, h4, h5, h6⟩
  · subst h3; simp at hkl
  · cases hb
    have := hw _ _ h2
    rw [hh] at this; cases this
    have hok' : OkE size (ls.set k vs) := fun x hx => by
      rcases List.mem_or_eq_of_mem_set hx with hx | rfl
      · exact hok x hx
      · exact ⟨hl, hv⟩
    have hlt : ls.length * size ≤ cur.size := by rw [h5]; exact Nat.mul_le_mul_right _ h3
    have hkn : k * size + size ≤ ls.length * size := by
      calc k * size + size = (k + 1) * size := by rw [Nat.succ_mul]
        _ ≤ ls.length * size := Nat.mul_le_mul_right _ (by omega)
    refine ⟨fun q => if q = b then some (.cells (spl cur (k * size) vs) e (0, 0)) else none, ⟨hok', .inr ⟨b, spl cur (k * size) vs, rfl, by simp, by simpa using h3, h4, ?_, ?_⟩⟩, fun q x hx => ?_, fun q hq => ?_, fun q hq hn => ?_⟩
    · rw [← h5]; unfold spl; simp; omega
    · rw [List.length_set]
      show (cur.toList.take (k * size) ++ vs ++ cur.toList.drop (k * size + vs.length)).take (ls.length * size) = _
      rw [take_spl (by omega) (by simpa using hlt), h6, flat_split ls size hok.len k vs hkl hl, hl]
    · simp only at hx
      split at hx
      · rename_i hq; subst hq; simp only [Option.some.injEq] at hx; subst hx
        exact setRow_heap w _ cur _ e _ (hw _ _ h2)
      · cases hx
    · simp only [ne_eq, ite_eq_right_iff, reduceCtorEq, imp_false, Classical.not_not] at hq
      subst hq
      exact .inl (by rw [h2]; simp)
    · refine setRow_other w b q _ fun eq => ?_
      have : o1 q = some (.cells cur e (0, 0)) := by rw [eq]; exact h2
      rw [hn] at this; cases this
/-- l[k] = a struct -/
theorem WL.stS {o : Oper} {t : TypeId} {x y : Operand} {vs : Array Value} (hg : o.guard = none) (hd : o.dst = none) (ho : o.op = .store t x y) (i k : Nat) (cs : List Value) (ls' : List (List Value)) (hS : St g L w) (hi : L[i]? = some (Own e size ls a c)) (hks : ls[k]? = some cs) (hx : ev F x = .pointer (some ⟨bo a, oo a + k * size, none⟩)) (hv : ev F y = .agg vs)
    (h1 : vs.toList.all (·.oneCell') = true) (hl : vs.size = size) (ht : AggT P t vs.size) (hls : ls.set k vs.toList = ls') (hk : ∀ w', St g (L.set i (Own e size ls' a c)) w' → WL P n os l K F w') : WL P n os (o :: l) K F w := by
  subst hls
  obtain ⟨b, cur, rfl, hh, _⟩ := hS.ownRow i hi hks
  have hall : ∀ u ∈ vs.toList, u.oneCell' = true := fun u hu => List.all_eq_true.1 h1 u hu
  obtain ⟨hsz, hS1⟩ := (hS.at_ i hi).setS hks hh (by simpa using hl) hall
  have hS' := hS1.back i hi
  refine WL.unit hg hd (fun hok => ?_) (hk _ hS')
  have e1 := okX_at (F := F) hok (x := x) (by simp [ho, Op.operands])
  have e2 := okX_at (F := F) hok (x := y) (by simp [ho, Op.operands])
  simp only [bo, oo, Nat.zero_add] at hx
  have hst := run_storeVar (P := P) (t := t) (off := k * size) (v := .agg vs) ht.2.2 hh hall (by show k * size + vs.size ≤ _; omega)
  rw [show (Value.agg vs).cells.toList = vs.toList from rfl] at hst
  simp only [execOp, ho, e1, e2, hx, hv, Instr.storeAt, Instr.sureAddr, Sem.run_bind, Sem.run_pure, Result.andThen_ok, hst]
end
end Go.V

/-! ## Slm -/
namespace Go.V
open Go Go.RowKit

structure SM where
  used : List Bool
  gen : List Int
  rel : List Int
  fresh : Int
def SM.cap (S : SM) : Int := (S.used.length : Int) - 1
def SM.free (S : SM) : Int := (S.rel.length : Int) + S.cap - S.fresh
def SM.next (S : SM) : Int := match S.rel.getLast? with
  | some i => i
  | none => S.fresh + 1
def SM.genOf (S : SM) (i : Int) : Int := (S.gen[i.toNat]?).getD 0
def SM.alloc (S : SM) : SM := ⟨S.used.set S.next.toNat true, S.gen.set S.next.toNat ((S.genOf S.next + 1) % 4294967296), S.rel.dropLast, if S.rel = [] then S.fresh + 1 else S.fresh⟩
def SM.ok (S : SM) (i : Int) : Bool := (S.used[i.toNat]?).getD false
def SM.release (S : SM) (i : Int) : SM := ⟨S.used.set i.toNat false, S.gen, S.rel ++ [i], S.fresh⟩
def SM.new (cap : Nat) : SM := ⟨List.replicate (cap + 1) false, List.replicate (cap + 1) 0, [], 0⟩
structure SOk (S : SM) : Prop where
  cap : 2 ≤ S.used.length ∧ S.used.length ≤ 65537
  gl : S.gen.length = S.used.length
  fr : 0 ≤ S.fresh ∧ S.fresh ≤ S.cap
  rm : ∀ i ∈ S.rel, 1 ≤ i ∧ i ≤ S.fresh ∧ S.ok i = false
  nd : S.rel.Nodup
  u0 : S.ok 0 = false
  hi : ∀ i : Int, S.fresh < i → S.ok i = false
  cov : ∀ i : Int, 1 ≤ i → i ≤ S.fresh → S.ok i = false → i ∈ S.rel
  gr : ∀ x ∈ S.gen, 0 ≤ x ∧ x < 4294967296
theorem SOk.le {S : SM} (h : SOk S) : S.used.length ≤ 65537 := h.cap.2
theorem SOk.gle {S : SM} (h : SOk S) : S.gen.length ≤ 65537 := by rw [h.gl]; exact h.cap.2
theorem nodup_bnd : ∀ (n : Nat) (l : List Int), l.Nodup → (∀ i ∈ l, 1 ≤ i ∧ i ≤ (n : Int)) → l.length ≤ n
  | 0, l, _, h => by
    cases l with
    | nil => exact Nat.le_refl _
    | cons x t => have := h x (List.mem_cons_self ..); omega
  | n + 1, l, hd, h => by
    have h1 : (l.erase ((n : Int) + 1)).length ≤ n := nodup_bnd n _ (hd.erase _) fun i hi => by
      have h2 := (hd.mem_erase_iff).1 hi
      have h3 := h i h2.2
      have h4 := h2.1
      omega
    have h2 := List.length_erase (a := (n : Int) + 1) (l := l)
    split at h2 <;> omega
theorem SOk.rle {S : SM} (h : SOk S) : S.rel.length ≤ 65536 := by
  have h1 : S.rel.length ≤ S.used.length - 1 := nodup_bnd _ _ h.nd fun i hi => by
    have h2 := h.rm i hi
    have h3 := h.fr
    have h4 : S.cap = (S.used.length : Int) - 1 := rfl
    have h5 := h.cap
    omega
  have h5 := h.cap
  omega
theorem SM.ok_rng {S : SM} (h : SOk S) {i : Int} (h0 : 0 ≤ i) (hi : S.ok i = true) : 1 ≤ i ∧ i ≤ S.fresh ∧ i ≤ S.cap ∧ i.toNat < S.used.length := by
  have h1 : i ≠ 0 := fun e => by subst e; rw [h.u0] at hi; cases hi
  have h2 : ¬ S.fresh < i := fun e => by rw [h.hi i e] at hi; cases hi
  have h3 := h.fr
  have h4 : S.cap = (S.used.length : Int) - 1 := rfl
  omega
theorem SM.ok_set {S : SM} {i j : Int} {b : Bool} (hi : 0 ≤ i) (hj : 0 ≤ j) (hl : i.toNat < S.used.length) : ((S.used.set i.toNat b)[j.toNat]?).getD false = if j = i then b else S.ok j := by
  rw [List.getElem?_set]
  by_cases h : j = i
  · subst h; rw [if_pos rfl, if_pos hl, if_pos rfl]; rfl
  · rw [if_neg (by omega), if_neg h]; rfl
theorem ok_getD {l : List Bool} {i : Int} : (l[i.toNat]?).getD false = true → i.toNat < l.length := fun h => by
  rcases Nat.lt_or_ge i.toNat l.length with h1 | h1
  · exact h1
  · rw [List.getElem?_eq_none h1] at h; cases h
theorem SM.new_ok {cap : Nat} (h : 1 ≤ cap ∧ cap ≤ 65536) : SOk (SM.new cap) := by
  have hno : ∀ i : Int, (SM.new cap).ok i = false := fun i => by
    unfold SM.ok SM.new
    simp only
    cases hx : (List.replicate (cap + 1) false)[i.toNat]? with
    | none => rfl
    | some b => rw [List.eq_of_mem_replicate (List.mem_of_getElem? hx)]; rfl
  refine ⟨by simp [SM.new]; omega, by simp [SM.new], by simp [SM.new, SM.cap], fun i hi => (by cases hi), List.nodup_nil, hno 0, fun i _ => hno i, fun i h1 h2 => ?_, fun x hx => ?_⟩
  · simp only [SM.new] at h2; omega
  · rw [List.eq_of_mem_replicate hx]; omega
theorem SM.next_some {S : SM} {i : Int} (h : S.rel.getLast? = some i) : S.next = i := by unfold SM.next; rw [h]
theorem SM.next_nil {S : SM} (h : S.rel = []) : S.next = S.fresh + 1 := by unfold SM.next; rw [h]; rfl
theorem SM.next_rng {S : SM} (h : SOk S) (hf : 0 < S.free) : 1 ≤ S.next ∧ S.next ≤ S.cap ∧ S.next.toNat < S.used.length ∧ S.ok S.next = false := by
  have hc : S.cap = (S.used.length : Int) - 1 := rfl
  have hfr := h.fr
  cases hg : S.rel.getLast? with
  | some i =>
    have hm := h.rm i (List.mem_of_getLast? hg)
    rw [SM.next_some hg]
    exact ⟨hm.1, by omega, by omega, hm.2.2⟩
  | none =>
    have hr : S.rel = [] := List.getLast?_eq_none_iff.1 hg
    unfold SM.free at hf
    rw [hr] at hf
    simp only [List.length_nil] at hf
    rw [SM.next_nil hr]
    exact ⟨by omega, by omega, by omega, h.hi _ (by omega)⟩
theorem rel_split {S : SM} (hne : S.rel ≠ []) : S.rel = S.rel.dropLast ++ [S.next] := by
  have h2 : S.next = S.rel.getLast hne := SM.next_some (List.getLast?_eq_some_getLast hne)
  rw [h2]; exact (List.dropLast_concat_getLast hne).symm
theorem SM.alloc_ok' {S : SM} (h : SOk S) (hf : 0 < S.free) {j : Int} (hj : 0 ≤ j) : S.alloc.ok j = if j = S.next then true else S.ok j := by
  have hn := S.next_rng h hf
  exact SM.ok_set (by omega) hj hn.2.2.1
theorem SM.alloc_free (S : SM) : S.alloc.free = S.free - 1 := by
  unfold SM.free SM.cap SM.alloc
  simp only [List.length_set, List.length_dropLast]
  by_cases hr : S.rel = []
  · rw [if_pos hr, hr]; simp; omega
  · rw [if_neg hr]
    have : 0 < S.rel.length := List.length_pos_iff.2 hr
    omega
theorem SM.alloc_sok {S : SM} (h : SOk S) (hf : 0 < S.free) : SOk S.alloc := by
  have hn := S.next_rng h hf
  have hc : S.cap = (S.used.length : Int) - 1 := rfl
  have hfr := h.fr
  have hcap : S.alloc.cap = S.cap := by unfold SM.cap SM.alloc; simp
  have hal := fun (j : Int) (hj : 0 ≤ j) => S.alloc_ok' h hf hj
  have hneg : ∀ j : Int, j < 0 → S.alloc.ok j = false := fun j hj => by
    have e : S.alloc.ok j = S.alloc.ok 0 := by unfold SM.ok; rw [show j.toNat = (0 : Int).toNat by omega]
    rw [e, hal 0 (Int.le_refl _), if_neg (by omega), h.u0]
  have hmem : ∀ i, i ∈ S.alloc.rel → i ∈ S.rel ∧ i ≠ S.next := fun i hi => by
    have hi2 : i ∈ S.rel.dropLast := hi
    have hne : S.rel ≠ [] := fun e => by rw [e] at hi2; cases hi2
    have hs := rel_split hne
    refine ⟨by rw [hs]; exact List.mem_append_left _ hi2, fun e => ?_⟩
    have hnd := h.nd
    rw [hs] at hnd
    exact (List.nodup_append.1 hnd).2.2 i hi2 S.next (List.mem_singleton.2 rfl) e
  have hfresh : S.fresh ≤ S.alloc.fresh ∧ S.alloc.fresh ≤ S.cap := by
    unfold SM.alloc
    simp only
    by_cases hr : S.rel = []
    · rw [if_pos hr]
      unfold SM.free at hf
      rw [hr] at hf; simp at hf; omega
    · rw [if_neg hr]; omega
  refine ⟨?_, ?_, by rw [hcap]; omega, fun i hi => ?_, ?_, ?_, fun i hi => ?_, fun i h1 h2 h3 => ?_, fun x hx => ?_⟩
  · unfold SM.alloc; simpa using h.cap
  · unfold SM.alloc; simpa using h.gl
  · obtain ⟨h1, h2⟩ := hmem i hi
    have h3 := h.rm i h1
    exact ⟨h3.1, by omega, by rw [hal i (by omega), if_neg h2]; exact h3.2.2⟩
  · have h1 : S.alloc.rel = S.rel.dropLast := rfl
    rw [h1]; exact h.nd.sublist (List.dropLast_sublist _)
  · rw [hal 0 (Int.le_refl _), if_neg (by omega)]; exact h.u0
  · rcases Int.lt_or_le i 0 with h0 | h0
    · exact hneg i h0
    · rw [hal i h0]
      have hne : i ≠ S.next := fun e => by
        by_cases hr : S.rel = []
        · have e2 : S.alloc.fresh = S.fresh + 1 := by unfold SM.alloc; simp only; rw [if_pos hr]
          have e3 := SM.next_nil hr
          omega
        · have := h.rm S.next (by rw [rel_split hr]; simp)
          omega
      rw [if_neg hne]
      exact h.hi i (by omega)
  · rw [hal i (by omega)] at h3
    split at h3
    · cases h3
    · rename_i hne
      have h1r : S.alloc.rel = S.rel.dropLast := rfl
      rw [h1r]
      by_cases hr : S.rel = []
      · have e2 : S.alloc.fresh = S.fresh + 1 := by unfold SM.alloc; simp only; rw [if_pos hr]
        have e3 := SM.next_nil hr
        have := h.cov i h1 (by omega) h3
        rw [hr] at this; cases this
      · have e2 : S.alloc.fresh = S.fresh := by unfold SM.alloc; simp only; rw [if_neg hr]
        have := h.cov i h1 (by omega) h3
        rw [rel_split hr] at this
        rcases List.mem_append.1 this with h4 | h4
        · exact h4
        · exact absurd (List.mem_singleton.1 h4) hne
  · have hx2 : x ∈ S.gen.set S.next.toNat ((S.genOf S.next + 1) % 4294967296) := hx
    rcases List.mem_or_eq_of_mem_set hx2 with h1 | rfl
    · exact h.gr x h1
    · omega
theorem SM.release_ok' {S : SM} (h : SOk S) {i : Int} (h0 : 0 ≤ i) (hi : S.ok i = true) {j : Int} (hj : 0 ≤ j) : (S.release i).ok j = if j = i then false else S.ok j :=
  SM.ok_set h0 hj (SM.ok_rng h h0 hi).2.2.2
theorem SM.release_free {S : SM} (i : Int) : (S.release i).free = S.free + 1 := by
  unfold SM.free SM.cap SM.release
  simp only [List.length_set, List.length_append, List.length_singleton]
  omega
theorem SM.release_sok {S : SM} (h : SOk S) {i : Int} (h0 : 0 ≤ i) (hi : S.ok i = true) : SOk (S.release i) := by
  have hr := SM.ok_rng h h0 hi
  have hcap : (S.release i).cap = S.cap := by unfold SM.cap SM.release; simp
  have hal := fun (j : Int) (hj : 0 ≤ j) => SM.release_ok' h h0 hi hj
  have hneg : ∀ j : Int, j < 0 → (S.release i).ok j = false := fun j hj => by
    have e : (S.release i).ok j = (S.release i).ok 0 := by unfold SM.ok; rw [show j.toNat = (0 : Int).toNat by omega]
    rw [e, hal 0 (Int.le_refl _), if_neg (by omega), h.u0]
  have hfr := h.fr
  refine ⟨?_, ?_, by rw [hcap]; exact h.fr, fun j hj => ?_, ?_, ?_, fun j hj => ?_, fun j h1 h2 h3 => ?_, h.gr⟩
  · unfold SM.release; simpa using h.cap
  · unfold SM.release; simpa using h.gl
  · have hj2 : j ∈ S.rel ++ [i] := hj
    rcases List.mem_append.1 hj2 with h1 | h1
    · have h2 := h.rm j h1
      refine ⟨h2.1, h2.2.1, ?_⟩
      rw [hal j (by omega)]
      split
      · rfl
      · exact h2.2.2
    · rw [List.mem_singleton.1 h1]
      exact ⟨hr.1, hr.2.1, by rw [hal i h0, if_pos rfl]⟩
  · show (S.rel ++ [i]).Nodup
    refine List.nodup_append.2 ⟨h.nd, List.pairwise_singleton _ _, fun a ha b hb e => ?_⟩
    rw [List.mem_singleton.1 hb] at e
    have := (h.rm a ha).2.2
    rw [e, hi] at this; cases this
  · rw [hal 0 (Int.le_refl _), if_neg (by omega)]; exact h.u0
  · have hj2 : S.fresh < j := hj
    rcases Int.lt_or_le j 0 with h1 | h1
    · exact hneg j h1
    · rw [hal j h1]
      split
      · rfl
      · exact h.hi j hj2
  · have h2' : j ≤ S.fresh := h2
    show j ∈ S.rel ++ [i]
    rw [hal j (by omega)] at h3
    split at h3
    · rename_i e; subst e; simp
    · exact List.mem_append_left _ (h.cov j h1 h2' h3)
end Go.V

/-! ## Slb -/
namespace Go.V
open Go Go.RowKit

structure SlA where
  ua : Option Addr
  uc : Nat
  ga : Option Addr
  gc : Nat
  ra : Option Addr
  rc : Nat
def sltF (s : Nat) (S : SM) (x : SlA) : List HP := [cel s #[.slice x.ua (bos S.used).length x.uc, .slice x.ga (u32s S.gen).length x.gc, .slice x.ra (u32s S.rel).length x.rc, .int .u32 S.fresh] 164, Own 4 1 (bos S.used) x.ua x.uc, Own 40 1 (u32s S.gen) x.ga x.gc, Own 40 1 (u32s S.rel) x.ra x.rc]
def Slt (s : Nat) (S : SM) : HP := ExB (sltF s S)
/-- an arena: its slots, the nodes, the counts -/
structure AM where
  s : SM
  nodes : List Nd
  cnt : List Int
structure ArA where
  p : Nat
  na : Option Addr
  nc : Nat
  ca : Option Addr
  cc : Nat
  rd : Int
def arnF (a : Nat) (A : AM) (x : ArA) : List HP := [cel a #[.pointer (some ⟨x.p, 0, none⟩), .slice x.na (nds A.nodes).length x.nc, .slice x.ca (i64s A.cnt).length x.cc, .int .u64 x.rd] 106, Slt x.p A.s, Own 123 8 (nds A.nodes) x.na x.nc, Own 3 1 (i64s A.cnt) x.ca x.cc]
def Arn (a : Nat) (A : AM) : HP := ExB (arnF a A)
/-- a table of handles -/
structure TM where
  s : SM
  vals : List Int
structure TbA where
  p : Nat
  va : Option Addr
  vc : Nat
def tblF (t : Nat) (T : TM) (x : TbA) : List HP := [cel t #[.pointer (some ⟨x.p, 0, none⟩), .slice x.va (u32s T.vals).length x.vc] 158, Slt x.p T.s, Own 40 1 (u32s T.vals) x.va x.vc]
def Tbl (t : Nat) (T : TM) : HP := ExB (tblF t T)
end Go.V

/-! ## Arm -/
namespace Go.V
open Go Go.RowKit

def AM.new (cap : Nat) : AM := ⟨SM.new cap, List.replicate (cap + 1) Nd.zero, List.replicate (cap + 1) 0⟩
def AM.cntOf (A : AM) (i : Int) : Int := (A.cnt[i.toNat]?).getD 0
def AM.inc (A : AM) (i : Int) : AM := ⟨A.s, A.nodes, A.cnt.set i.toNat (IntKind.i64.wrap (A.cntOf i + 1))⟩
def AM.dec (A : AM) (i : Int) : AM := ⟨A.s, A.nodes, A.cnt.set i.toNat (IntKind.i64.wrap (A.cntOf i - 1))⟩
/-- an arena is one -/
structure AWf (A : AM) : Prop where
  s : SOk A.s
  nl : A.nodes.length = A.s.used.length
  cl : A.cnt.length = A.s.used.length
theorem AM.new_wf {cap : Nat} (h : 1 ≤ cap ∧ cap ≤ 65536) : AWf (AM.new cap) := ⟨SM.new_ok h, by simp [AM.new, SM.new], by simp [AM.new, SM.new]⟩
theorem AWf.inc {A : AM} (h : AWf A) (i : Int) : AWf (A.inc i) := ⟨h.s, h.nl, by simpa [AM.inc] using h.cl⟩
def AM.retE (A : AM) (i : Int) : Int := if i = 0 ∨ A.s.ok i = true then 0 else 3
def AM.ret (A : AM) (i : Int) : AM := if i ≠ 0 ∧ A.s.ok i = true then A.inc i else A
theorem SM.new_free (cap : Nat) : (SM.new cap).free = cap := by
  simp [SM.free, SM.cap, SM.new]
end Go.V

/-! ## Tbm -/
namespace Go.V
open Go Go.RowKit

theorem or_shift' {u x : Int} {m : Nat} (hu0 : 0 ≤ u) (hu : u < 2 ^ m) (hx : 0 ≤ x) (hs : u + x * 2 ^ m < 2 ^ 64) : bts .or .u64 (x * 2 ^ m) u = x * 2 ^ m + u := by
  have h1 := or_shift hu0 hu hx hs
  have hb : (IntKind.u64).bits = 64 := rfl
  have hp : (0 : Int) ≤ x * 2 ^ m := Int.mul_nonneg hx (Int.le_of_lt (Int.pow_pos (by decide)))
  rw [or_nn hp (by rw [hb]; omega) hu0 (by rw [hb]; omega), Nat.or_comm, ← or_nn hu0 (by rw [hb]; omega) hp (by rw [hb]; omega), h1]
  omega
theorem pack_or {i n : Int} (hi : 0 ≤ i ∧ i < 4294967296) (hn : 0 ≤ n ∧ n < 4294967296) : bts .or .u64 (IntKind.u64.wrap (n * p2 .u64 32)) i = n * 4294967296 + i := by
  have e : IntKind.u64.wrap (n * p2 .u64 32) = n * 2 ^ 32 := by
    have : p2 .u64 32 = 4294967296 := rfl
    rw [this, wu64 (by omega)]; rfl
  rw [e, or_shift' hi.1 hi.2 hn.1 (by have : (2 : Int) ^ 64 = 18446744073709551616 := rfl; have : (2 : Int) ^ 32 = 4294967296 := rfl; omega)]
  have : (2 : Int) ^ 32 = 4294967296 := rfl
  omega
/-- the handle of an entry -/
def SM.hd (S : SM) (i : Int) : Int := S.genOf i * 4294967296 + i
/-- is a handle open -/
def SM.opn (S : SM) (h : Int) : Bool := S.ok (h % 4294967296) && decide (S.hd (h % 4294967296) = h)
structure TOk (T : TM) : Prop where
  s : SOk T.s
  vl : T.vals.length = T.s.used.length
  vr : ∀ x ∈ T.vals, 0 ≤ x ∧ x < 4294967296
def TM.val (T : TM) (h : Int) : Int := (T.vals[(h % 4294967296).toNat]?).getD 0
def TM.open (T : TM) (v : Int) : TM := ⟨T.s.alloc, T.vals.set T.s.next.toNat v⟩
def TM.newH (T : TM) : Int := T.s.alloc.hd T.s.next
def TM.close (T : TM) (h : Int) : TM := ⟨T.s.release (h % 4294967296), T.vals⟩
def TM.new (cap : Nat) : TM := ⟨SM.new cap, List.replicate (cap + 1) 0⟩
def TM.handles (T : TM) : List Int := ((List.range T.s.used.length).filter fun i : Nat => T.s.ok (i : Int)).map fun i : Nat => T.s.hd (i : Int)
theorem TM.new_ok {cap : Nat} (h : 1 ≤ cap ∧ cap ≤ 65536) : TOk (TM.new cap) := ⟨SM.new_ok h, by simp [TM.new, SM.new], fun x hx => by rw [List.eq_of_mem_replicate hx]; omega⟩
theorem SOk.gen_rng {S : SM} (h : SOk S) (i : Int) : 0 ≤ S.genOf i ∧ S.genOf i < 4294967296 := by
  unfold SM.genOf
  cases hx : S.gen[i.toNat]? with
  | none => simp
  | some x => exact h.gr x (List.mem_of_getElem? hx)
theorem TOk.val_rng {T : TM} (h : TOk T) (x : Int) : 0 ≤ T.val x ∧ T.val x < 4294967296 := by
  unfold TM.val
  cases hx : T.vals[(x % 4294967296).toNat]? with
  | none => simp
  | some y => exact h.vr y (List.mem_of_getElem? hx)
theorem TOk.open {T : TM} (h : TOk T) (hf : 0 < T.s.free) {v : Int} (hv : 0 ≤ v ∧ v < 4294967296) : TOk (T.open v) := by
  refine ⟨SM.alloc_sok h.s hf, ?_, fun x hx => ?_⟩
  · show (T.vals.set _ _).length = (T.s.used.set _ _).length
    rw [List.length_set, List.length_set]; exact h.vl
  · rcases List.mem_or_eq_of_mem_set (show x ∈ T.vals.set _ _ from hx) with h1 | rfl
    · exact h.vr x h1
    · exact hv
theorem SM.opn_ok {S : SM} {h : Int} (ho : S.opn h = true) : S.ok (h % 4294967296) = true ∧ S.hd (h % 4294967296) = h := by
  unfold SM.opn at ho
  simpa using ho
theorem TOk.close {T : TM} (h : TOk T) {x : Int} (ho : T.s.opn x = true) : TOk (T.close x) :=
  ⟨SM.release_sok h.s (by omega) (SM.opn_ok ho).1, by
    show T.vals.length = (T.s.used.set _ _).length
    rw [List.length_set]; exact h.vl, h.vr⟩
end Go.V

/-! ## Tt -/
namespace Go.V
open Go

inductive Tr where
  | nil
  | node (l : Tr) (k v : Int) (r : Tr)
namespace Tr
def n : Tr → Nat
  | nil => 0
  | node l _ _ r => l.n + r.n + 1
def ls : Tr → List (Int × Int)
  | nil => []
  | node l k v r => l.ls ++ (k, v) :: r.ls
def ht : Tr → Nat
  | nil => 0
  | node l _ _ r => max l.ht r.ht + 1
end Tr
abbrev Bal (a b : Nat) : Prop := a + 1 ≤ 3 * (b + 1) ∧ b + 1 ≤ 3 * (a + 1)
namespace Tr
def ok : Tr → Prop
  | nil => True
  | node l _ _ r => Bal l.n r.n ∧ l.ok ∧ r.ok
theorem ls_len : ∀ t : Tr, t.ls.length = t.n
  | nil => rfl
  | node l _ _ r => by simp [ls, n, ls_len l, ls_len r]; omega
theorem n0 {t : Tr} (h : t.n = 0) : t = nil := by
  cases t with
  | nil => rfl
  | node => simp [n] at h
/-- the left side is the lighter one: rotated once or doubly; its cost is what is added to the nodes that are made -/
def dbL (l : Tr) (k v fk fv : Int) (s : Tr) : Tr → Tr
  | nil => nil
  | node x gk gv y => node (node l k v x) gk gv (node y fk fv s)
def litL (l : Tr) (k v : Int) : Tr → Tr
  | nil => node l k v nil
  | node m fk fv s => if m.n = 0 ∨ (Bal l.n m.n ∧ Bal (l.n + m.n + 1) s.n) then node (node l k v m) fk fv s else dbL l k v fk fv s m
def dbR (r : Tr) (k v fk fv : Int) (s : Tr) : Tr → Tr
  | nil => nil
  | node x gk gv y => node (node s fk fv x) gk gv (node y k v r)
def litR (r : Tr) (k v : Int) : Tr → Tr
  | nil => node nil k v r
  | node s fk fv m => if m.n = 0 ∨ (Bal m.n r.n ∧ Bal s.n (m.n + r.n + 1)) then node s fk fv (node m k v r) else dbR r k v fk fv s m
def bal (l : Tr) (k v : Int) (r : Tr) : Tr := if Bal l.n r.n then node l k v r else if l.n < r.n then litL l k v r else litR r k v l
def join : Tr → Int → Int → Tr → Tr
  | nil, k, v, nil => node nil k v nil
  | nil, k, v, node m fk fv s => if Bal 0 (m.n + s.n + 1) then node nil k v (node m fk fv s) else bal (join nil k v m) fk fv s
  | node s fk fv m, k, v, nil => if Bal (s.n + m.n + 1) 0 then node (node s fk fv m) k v nil else bal s fk fv (join m k v nil)
  | node s fk fv m, k, v, node m' fk' fv' s' => if Bal (s.n + m.n + 1) (m'.n + s'.n + 1) then node (node s fk fv m) k v (node m' fk' fv' s')
    else if m'.n + s'.n < s.n + m.n then bal s fk fv (join m k v (node m' fk' fv' s')) else bal (join (node s fk fv m) k v m') fk' fv' s'
termination_by l _ _ r => l.n + r.n
decreasing_by all_goals simp only [n]; omega
/-- how many nodes a join makes at most -/
def jc : Tr → Tr → Nat
  | nil, nil => 1
  | nil, node m _ _ s => if Bal 0 (m.n + s.n + 1) then 1 else jc nil m + 3
  | node s _ _ m, nil => if Bal (s.n + m.n + 1) 0 then 1 else jc m nil + 3
  | node s fk fv m, node m' fk' fv' s' => if Bal (s.n + m.n + 1) (m'.n + s'.n + 1) then 1
    else if m'.n + s'.n < s.n + m.n then jc m (node m' fk' fv' s') + 3 else jc (node s fk fv m) m' + 3
termination_by l r => l.n + r.n
decreasing_by all_goals simp only [n]; omega

theorem litL_n {l r : Tr} {k v : Int} (hr : r ≠ nil) : (litL l k v r).n = l.n + r.n + 1 ∧ (litL l k v r).ls = l.ls ++ (k, v) :: r.ls := by
  cases r with
  | nil => exact absurd rfl hr
  | node m fk fv s =>
    rw [litL]
    split
    · exact ⟨by simp only [n]; omega, by simp [ls]⟩
    · cases m with
      | nil => simp [n] at *
      | node x gk gv y => exact ⟨by simp only [dbL, n]; omega, by simp [dbL, ls]⟩
theorem litR_n {l r : Tr} {k v : Int} (hl : l ≠ nil) : (litR r k v l).n = l.n + r.n + 1 ∧ (litR r k v l).ls = l.ls ++ (k, v) :: r.ls := by
  cases l with
  | nil => exact absurd rfl hl
  | node s fk fv m =>
    rw [litR]
    split
    · exact ⟨by simp only [n]; omega, by simp [ls]⟩
    · cases m with
      | nil => simp [n] at *
      | node x gk gv y => exact ⟨by simp only [dbR, n]; omega, by simp [dbR, ls]⟩
theorem bal_n (l : Tr) (k v : Int) (r : Tr) : (bal l k v r).n = l.n + r.n + 1 ∧ (bal l k v r).ls = l.ls ++ (k, v) :: r.ls := by
  unfold bal
  split
  · exact ⟨rfl, rfl⟩
  · rename_i h
    split
    · refine litL_n fun e => ?_
      subst e; simp [n] at *
    · refine litR_n fun e => ?_
      subst e
      simp only [n] at *
      have : r.n = 0 := by omega
      omega
/-- the lighter side is too light by what one join adds -/
def Near (a b : Nat) : Prop := 3 * (b + 1) ≤ 13 * (a + 1)
theorem litL_ok {l r : Tr} {k v : Int} (hl : l.ok) (hr : r.ok) (h3 : 3 * (l.n + 1) < r.n + 1) (hN : Near l.n r.n) : (litL l k v r).ok := by
  cases r with
  | nil => simp [n] at h3
  | node m fk fv s =>
    obtain ⟨⟨b1, b2⟩, hm, hs⟩ := hr
    simp only [n] at h3
    unfold Near at hN; simp only [n] at hN
    rw [litL]
    split
    · rename_i hc
      rcases hc with hc | hc
      · have := n0 hc; subst this
        simp only [n] at *
        exact ⟨by simp only [n]; constructor <;> omega, ⟨by simp only [n]; constructor <;> omega, hl, hm⟩, hs⟩
      · exact ⟨by simp only [n]; constructor <;> omega, ⟨hc.1, hl, hm⟩, hs⟩
    · rename_i hc
      cases m with
      | nil => simp [n] at hc
      | node x gk gv y =>
        obtain ⟨⟨c1, c2⟩, hx, hy⟩ := hm
        simp only [n] at *
        refine ⟨?_, ⟨?_, hl, hx⟩, ⟨?_, hy, hs⟩⟩ <;> (try simp only [n]) <;> constructor <;> omega
theorem litR_ok {l r : Tr} {k v : Int} (hl : l.ok) (hr : r.ok) (h3 : 3 * (r.n + 1) < l.n + 1) (hN : Near r.n l.n) : (litR r k v l).ok := by
  cases l with
  | nil => simp [n] at h3
  | node s fk fv m =>
    obtain ⟨⟨b1, b2⟩, hs, hm⟩ := hl
    simp only [n] at h3
    unfold Near at hN; simp only [n] at hN
    rw [litR]
    split
    · rename_i hc
      rcases hc with hc | hc
      · have := n0 hc; subst this
        simp only [n] at *
        exact ⟨by simp only [n]; constructor <;> omega, hs, ⟨by simp only [n]; constructor <;> omega, hm, hr⟩⟩
      · exact ⟨by simp only [n]; constructor <;> omega, hs, ⟨hc.1, hm, hr⟩⟩
    · rename_i hc
      cases m with
      | nil => simp [n] at hc
      | node x gk gv y =>
        obtain ⟨⟨c1, c2⟩, hx, hy⟩ := hm
        simp only [n] at *
        refine ⟨?_, ⟨?_, hs, hx⟩, ⟨?_, hy, hr⟩⟩ <;> (try simp only [n]) <;> constructor <;> omega
theorem bal_ok {l r : Tr} {k v : Int} (hl : l.ok) (hr : r.ok) (hN : Near l.n r.n) (hM : Near r.n l.n) : (bal l k v r).ok := by
  unfold bal
  split
  · rename_i h; exact ⟨h, hl, hr⟩
  · split
    · exact litL_ok hl hr (by omega) hN
    · exact litR_ok hl hr (by omega) hM
theorem join_n (l : Tr) (k v : Int) (r : Tr) : (join l k v r).n = l.n + r.n + 1 ∧ (join l k v r).ls = l.ls ++ (k, v) :: r.ls := by
  fun_induction join l k v r
  case case1 => exact ⟨rfl, rfl⟩
  case case2 => exact ⟨rfl, rfl⟩
  case case3 k v m fk fv s h ih =>
    refine ⟨?_, ?_⟩
    · rw [(bal_n _ _ _ _).1, ih.1]; simp only [n]; omega
    · rw [(bal_n _ _ _ _).2, ih.2]; simp [ls]
  case case4 => exact ⟨rfl, rfl⟩
  case case5 s fk fv m k v h ih =>
    refine ⟨?_, ?_⟩
    · rw [(bal_n _ _ _ _).1, ih.1]; simp only [n]; omega
    · rw [(bal_n _ _ _ _).2, ih.2]; simp [ls]
  case case6 => exact ⟨rfl, rfl⟩
  case case7 s fk fv m k v m' fk' fv' s' h1 h2 ih =>
    refine ⟨?_, ?_⟩
    · rw [(bal_n _ _ _ _).1, ih.1]; simp only [n]; omega
    · rw [(bal_n _ _ _ _).2, ih.2]; simp [ls]
  case case8 s fk fv m k v m' fk' fv' s' h1 h2 ih =>
    refine ⟨?_, ?_⟩
    · rw [(bal_n _ _ _ _).1, ih.1]; simp only [n]; omega
    · rw [(bal_n _ _ _ _).2, ih.2]; simp [ls]
theorem join_ok {l r : Tr} {k v : Int} (hl : l.ok) (hr : r.ok) : (join l k v r).ok := by
  fun_induction join l k v r
  case case1 => exact ⟨by simp [n], trivial, trivial⟩
  case case2 h => exact ⟨h, hl, hr⟩
  case case3 k v m fk fv s h ih =>
    obtain ⟨⟨b1, b2⟩, hm, hs⟩ := hr
    have hn := (join_n nil k v m).1
    simp only [n] at hn
    refine bal_ok (ih hl hm) hs ?_ ?_ <;> unfold Near <;> rw [hn] <;> omega
  case case4 h => exact ⟨h, hl, hr⟩
  case case5 s fk fv m k v h ih =>
    obtain ⟨⟨b1, b2⟩, hs, hm⟩ := hl
    have hn := (join_n m k v nil).1
    simp only [n] at hn
    refine bal_ok hs (ih hm hr) ?_ ?_ <;> unfold Near <;> rw [hn] <;> omega
  case case6 h => exact ⟨h, hl, hr⟩
  case case7 s fk fv m k v m' fk' fv' s' h1 h2 ih =>
    obtain ⟨⟨b1, b2⟩, hs, hm⟩ := hl
    have hn := (join_n m k v (node m' fk' fv' s')).1
    simp only [n] at hn
    refine bal_ok hs (ih hm hr) ?_ ?_ <;> unfold Near <;> rw [hn] <;> omega
  case case8 s fk fv m k v m' fk' fv' s' h1 h2 ih =>
    obtain ⟨⟨b1, b2⟩, hm, hs⟩ := hr
    have hn := (join_n (node s fk fv m) k v m').1
    simp only [n] at hn
    refine bal_ok (ih hl hm) hs ?_ ?_ <;> unfold Near <;> rw [hn] <;> omega
/-! ### costs -/
theorem jc_bal {l r : Tr} (h : Bal l.n r.n) : jc l r = 1 := by
  cases l with
  | nil =>
    cases r with
    | nil => simp [jc]
    | node m a b s => rw [jc, if_pos (by simpa [n] using h)]
  | node s a b m =>
    cases r with
    | nil => rw [jc, if_pos (by simpa [n] using h)]
    | node m' a' b' s' => rw [jc, if_pos (by simpa [n] using h)]
/-- one entry more or less on one side costs four nodes at most, or seven where that side is empty now -/
theorem jc_near {l r : Tr} (hl : l.ok) (hr : r.ok) (h1 : l.n + 1 ≤ 3 * (r.n + 1) + 1 ∨ (l.n + 1 ≤ 3 * (r.n + 1) + 3 ∧ 1 ≤ r.n)) (h2 : r.n + 1 ≤ 3 * (l.n + 1) + 1 ∨ (r.n + 1 ≤ 3 * (l.n + 1) + 3 ∧ 1 ≤ l.n)) : jc l r ≤ 4 := by
  cases l with
  | nil =>
    cases r with
    | nil => simp [jc]
    | node m a b s =>
      rw [jc]
      obtain ⟨⟨b1, b2⟩, hm, hs⟩ := hr
      simp only [n] at h2
      split
      · omega
      · rw [jc_bal (by simp only [n]; constructor <;> omega)]; omega
  | node s a b m =>
    obtain ⟨⟨b1, b2⟩, hs, hm⟩ := hl
    cases r with
    | nil =>
      rw [jc]
      simp only [n] at h1
      split
      · omega
      · rw [jc_bal (by simp only [n]; constructor <;> omega)]; omega
    | node m' a' b' s' =>
      obtain ⟨⟨c1, c2⟩, hm', hs'⟩ := hr
      simp only [n] at h1 h2
      rw [jc]
      split
      · omega
      · split
        · rw [jc_bal (by simp only [n]; constructor <;> omega)]; omega
        · rw [jc_bal (by simp only [n]; constructor <;> omega)]; omega
theorem jc_nilL {r : Tr} (hr : r.ok) (h : r.n ≤ 5) : jc nil r ≤ 7 := by
  cases r with
  | nil => simp [jc]
  | node m a b s =>
    rw [jc]
    obtain ⟨⟨b1, b2⟩, hm, hs⟩ := hr
    simp only [n] at h
    split
    · omega
    · have := jc_near (l := nil) (r := m) trivial hm (by simp only [n]; omega) (by simp only [n]; omega)
      omega
theorem jc_nilR {l : Tr} (hl : l.ok) (h : l.n ≤ 5) : jc l nil ≤ 7 := by
  cases l with
  | nil => simp [jc]
  | node s a b m =>
    rw [jc]
    obtain ⟨⟨b1, b2⟩, hs, hm⟩ := hl
    simp only [n] at h
    split
    · omega
    · have := jc_near (l := m) (r := nil) hm trivial (by simp only [n]; omega) (by simp only [n]; omega)
      omega
/-! ### insertion -/
def ins (k v : Int) : Tr → Tr
  | nil => node nil k v nil
  | node l x y r => if k < x then join (ins k v l) x y r else if x < k then join l x y (ins k v r) else node l k v r
def ic (k v : Int) : Tr → Nat
  | nil => 1
  | node l x _ r => if k < x then ic k v l + jc (ins k v l) r else if x < k then ic k v r + jc l (ins k v r) else 1
def has (k : Int) : Tr → Bool
  | nil => false
  | node l x _ r => if k < x then l.has k else if x < k then r.has k else true
theorem ins_n (k v : Int) : ∀ t : Tr, (ins k v t).n = t.n + (if t.has k then 0 else 1)
  | nil => by simp [ins, has, n]
  | node l x y r => by
    unfold ins has
    split
    · rw [(join_n _ _ _ _).1, ins_n k v l]; simp only [n]; omega
    · split
      · rw [(join_n _ _ _ _).1, ins_n k v r]; simp only [n]; omega
      · simp [n]
theorem ins_ok (k v : Int) : ∀ t : Tr, t.ok → (ins k v t).ok
  | nil, _ => ⟨by simp [n], trivial, trivial⟩
  | node l x y r, h => by
    unfold ins
    split
    · exact join_ok (ins_ok k v l h.2.1) h.2.2
    · split
      · exact join_ok h.2.1 (ins_ok k v r h.2.2)
      · exact h
theorem ic_le (k v : Int) : ∀ t : Tr, t.ok → ic k v t ≤ 4 * t.ht + 1
  | nil, _ => by simp [ic, ht]
  | node l x y r, h => by
    obtain ⟨⟨b1, b2⟩, hl, hr⟩ := h
    unfold ic
    have el := ins_n k v l
    have er := ins_n k v r
    simp only [ht]
    split
    · have h1 := ic_le k v l hl
      have h2 := jc_near (ins_ok k v l hl) hr (by split at el <;> omega) (by split at el <;> omega)
      omega
    · split
      · have h1 := ic_le k v r hr
        have h2 := jc_near hl (ins_ok k v r hr) (by split at er <;> omega) (by split at er <;> omega)
        omega
      · omega
/-! ### the last entry, two trees in one -/
def pop : Tr → Tr × Int × Int
  | nil => (nil, 0, 0)
  | node l k v nil => (l, k, v)
  | node l k v (node a b c d) => (join l k v (pop (node a b c d)).1, (pop (node a b c d)).2)
def pc : Tr → Nat
  | nil => 0
  | node _ _ _ nil => 0
  | node l _ _ (node a b c d) => pc (node a b c d) + jc l (pop (node a b c d)).1
theorem pop_n : ∀ t : Tr, t ≠ nil → (pop t).1.n + 1 = t.n ∧ (pop t).1.ls ++ [(pop t).2] = t.ls
  | nil, h => absurd rfl h
  | node l k v nil, _ => by simp [pop, n, ls]
  | node l k v (node a b c d), _ => by
    have ih := pop_n (node a b c d) (by simp)
    unfold pop
    simp only
    refine ⟨?_, ?_⟩
    · rw [(join_n _ _ _ _).1]; rw [n]; omega
    · rw [(join_n _ _ _ _).2, ls.eq_2 l, ← ih.2]; simp
theorem pop_ok : ∀ t : Tr, t.ok → (pop t).1.ok
  | nil, _ => trivial
  | node l k v nil, h => h.2.1
  | node l k v (node a b c d), h => by
    unfold pop
    exact join_ok h.2.1 (pop_ok _ h.2.2)
theorem pc_le : ∀ t : Tr, t.ok → pc t ≤ 4 * t.ht - 1
  | nil, _ => by simp [pc]
  | node l k v nil, _ => by simp [pc]
  | node l k v (node a b c d), h => by
    obtain ⟨⟨b1, b2⟩, hl, hr⟩ := h
    have ih := pc_le (node a b c d) hr
    have hn := (pop_n (node a b c d) (by simp)).1
    have hk := pop_ok _ hr
    unfold pc
    have hh : ht (node l k v (node a b c d)) = max l.ht (node a b c d).ht + 1 := rfl
    have h0 : 1 ≤ (node a b c d).ht := by simp [ht]
    by_cases e : (pop (node a b c d)).1.n = 0
    · have e2 := n0 e
      have e3 : pc (node a b c d) = 0 := by
        cases d with
        | nil => rfl
        | node => simp only [n] at hn; omega
      rw [e2, e3]
      have := jc_nilR hl (by omega)
      omega
    · have := jc_near hl hk (by omega) (by omega)
      omega
def cat (l r : Tr) : Tr := match l, r with
  | nil, r => r
  | l, nil => l
  | l, r => join (pop l).1 (pop l).2.1 (pop l).2.2 r
def cc (l r : Tr) : Nat := match l, r with
  | nil, _ => 0
  | _, nil => 0
  | l, r => pc l + jc (pop l).1 r
theorem cat_n (l r : Tr) : (cat l r).n = l.n + r.n ∧ (cat l r).ls = l.ls ++ r.ls := by
  cases l with
  | nil => simp [cat, n, ls]
  | node a b c d =>
    cases r with
    | nil => simp [cat, n, ls]
    | node a' b' c' d' =>
      have h := pop_n (node a b c d) (by simp)
      unfold cat
      refine ⟨?_, ?_⟩
      · rw [(join_n _ _ _ _).1]; omega
      · rw [(join_n _ _ _ _).2, ← h.2]; simp
theorem cat_ok {l r : Tr} (hl : l.ok) (hr : r.ok) : (cat l r).ok := by
  cases l with
  | nil => exact hr
  | node a b c d =>
    cases r with
    | nil => exact hl
    | node a' b' c' d' => exact join_ok (pop_ok _ hl) hr
/-! ### deletion -/
def del (k : Int) : Tr → Tr
  | nil => nil
  | node l x y r => if k < x then join (del k l) x y r else if x < k then join l x y (del k r) else cat l r
def dc (k : Int) : Tr → Nat
  | nil => 0
  | node l x _ r => if k < x then dc k l + jc (del k l) r else if x < k then dc k r + jc l (del k r) else cc l r
theorem del_n (k : Int) : ∀ t : Tr, (del k t).n + (if t.has k then 1 else 0) = t.n
  | nil => by simp [del, has, n]
  | node l x y r => by
    unfold del has
    split
    · have := del_n k l; rw [(join_n _ _ _ _).1]; simp only [n]; omega
    · split
      · have := del_n k r; rw [(join_n _ _ _ _).1]; simp only [n]; omega
      · rw [(cat_n _ _).1]; simp [n]
theorem del_ok (k : Int) : ∀ t : Tr, t.ok → (del k t).ok
  | nil, _ => trivial
  | node l x y r, h => by
    unfold del
    split
    · exact join_ok (del_ok k l h.2.1) h.2.2
    · split
      · exact join_ok h.2.1 (del_ok k r h.2.2)
      · exact cat_ok h.2.1 h.2.2
theorem cc_le {l r : Tr} (hl : l.ok) (hr : r.ok) (hb : Bal l.n r.n) : cc l r ≤ 4 * l.ht + 4 := by
  obtain ⟨b1, b2⟩ := hb
  cases l with
  | nil => simp [cc]
  | node a b c d =>
    cases r with
    | nil => simp [cc]
    | node a' b' c' d' =>
      have hn := (pop_n (node a b c d) (by simp)).1
      have hp := pc_le _ hl
      have hk := pop_ok _ hl
      have h0 : 1 ≤ (node a b c d).ht := by simp [ht]
      unfold cc
      simp only
      by_cases e : (pop (node a b c d)).1.n = 0
      · have e2 := n0 e
        have e3 : pc (node a b c d) = 0 := by
          cases d with
          | nil => rfl
          | node => simp only [n] at hn; omega
        rw [e2, e3]
        have := jc_nilL hr (by omega)
        omega
      · have := jc_near hk hr (by omega) (by omega)
        omega
theorem dc_small (k : Int) {t : Tr} (h : (del k t).n = 0) : dc k t = 0 := by
  cases t with
  | nil => rfl
  | node l x y r =>
    unfold del at h
    unfold dc
    split at h
    · rw [(join_n _ _ _ _).1] at h; omega
    · split at h
      · rw [(join_n _ _ _ _).1] at h; omega
      · rename_i h1 h2
        rw [if_neg h1, if_neg h2]
        rw [(cat_n _ _).1] at h
        have := n0 (t := l) (by omega)
        subst this
        rfl
theorem dc_le (k : Int) : ∀ t : Tr, t.ok → dc k t ≤ 4 * t.ht + 3
  | nil, _ => by simp [dc]
  | node l x y r, h => by
    obtain ⟨⟨b1, b2⟩, hl, hr⟩ := h
    unfold dc
    have el := del_n k l
    have er := del_n k r
    have hdl := dc_le k l hl
    have hdr := dc_le k r hr
    simp only [ht]
    split
    · by_cases e : (del k l).n = 0
      · have e1 := dc_small k e
        rw [e1, n0 e]
        have := jc_nilL hr (by split at el <;> omega)
        omega
      · have h2 := jc_near (del_ok k l hl) hr (by split at el <;> omega) (by split at el <;> omega)
        omega
    · split
      · by_cases e : (del k r).n = 0
        · have e1 := dc_small k e
          rw [e1, n0 e]
          have := jc_nilR hl (by split at er <;> omega)
          omega
        · have h2 := jc_near hl (del_ok k r hr) (by split at er <;> omega) (by split at er <;> omega)
          omega
      · have := cc_le hl hr ⟨b1, b2⟩
        omega
/-! ### heights -/
def wt : Nat → Nat
  | 0 => 1
  | h + 1 => wt h + (wt h + 2) / 3
theorem wt_ht : ∀ t : Tr, t.ok → wt t.ht ≤ t.n + 1
  | nil, _ => by simp [wt, ht, n]
  | node l k v r, h => by
    obtain ⟨⟨b1, b2⟩, hl, hr⟩ := h
    have h1 := wt_ht l hl
    have h2 := wt_ht r hr
    simp only [ht, n]
    rcases Nat.le_total l.ht r.ht with e | e
    · rw [Nat.max_eq_right e, wt]; omega
    · rw [Nat.max_eq_left e, wt]; omega
theorem wt_mono {a b : Nat} (h : a ≤ b) : wt a ≤ wt b := by
  induction h with
  | refl => exact Nat.le_refl _
  | step h ih => rw [wt]; omega
end Tr
end Go.V

/-! ## Ts -/
namespace Go.V
open Go

abbrev Kvs := List (Int × Int)
/-- ascending keys -/
def Srt (l : Kvs) : Prop := l.Pairwise fun a b => a.1 < b.1
def lins (k v : Int) (l : Kvs) : Kvs := l.filter (fun x => decide (x.1 < k)) ++ (k, v) :: l.filter (fun x => decide (k < x.1))
def ldel (k : Int) (l : Kvs) : Kvs := l.filter fun x => decide (x.1 ≠ k)
def lget (k : Int) (l : Kvs) : Option Int := (l.find? fun x => decide (x.1 = k)).map (·.2)
theorem Srt.app {a b : Kvs} (h : Srt (a ++ b)) : Srt a ∧ Srt b ∧ ∀ x ∈ a, ∀ y ∈ b, x.1 < y.1 := by
  obtain ⟨h1, h2, h3⟩ := List.pairwise_append.1 h
  exact ⟨h1, h2, h3⟩
theorem filter_all {p : Int × Int → Bool} {l : Kvs} (h : ∀ x ∈ l, p x = true) : l.filter p = l := List.filter_eq_self.2 h
theorem filter_no {p : Int × Int → Bool} {l : Kvs} (h : ∀ x ∈ l, p x = false) : l.filter p = [] := List.filter_eq_nil_iff.2 fun x hx => by rw [h x hx]; decide
theorem lins_srt {k v : Int} {l : Kvs} (h : Srt l) : Srt (lins k v l) := by
  unfold lins
  refine List.pairwise_append.2 ⟨h.sublist List.filter_sublist, List.pairwise_cons.2 ⟨fun y hy => ?_, h.sublist List.filter_sublist⟩, fun x hx y hy => ?_⟩
  · exact of_decide_eq_true (List.mem_filter.1 hy).2
  · have h1 := of_decide_eq_true (List.mem_filter.1 hx).2
    rcases List.mem_cons.1 hy with rfl | hy
    · exact h1
    · have h2 := of_decide_eq_true (List.mem_filter.1 hy).2
      omega
theorem ldel_srt {k : Int} {l : Kvs} (h : Srt l) : Srt (ldel k l) := h.sublist List.filter_sublist
theorem lget_none {k : Int} {l : Kvs} (h : ∀ x ∈ l, x.1 ≠ k) : lget k l = none := by
  unfold lget
  rw [List.find?_eq_none.2 fun x hx e => h x hx (of_decide_eq_true e)]; rfl
theorem lget_some {k : Int} {l : Kvs} (hs : Srt l) {v : Int} : lget k l = some v ↔ (k, v) ∈ l := by
  unfold lget
  constructor
  · intro h
    cases hf : l.find? fun x => decide (x.1 = k) with
    | none => rw [hf] at h; cases h
    | some y =>
      rw [hf] at h
      have h1 : y.1 = k := of_decide_eq_true (List.find?_some (p := fun x : Int × Int => decide (x.1 = k)) hf)
      simp only [Option.map_some, Option.some.injEq] at h
      have h2 := List.mem_of_find?_eq_some hf
      rw [← h1, ← h]; exact h2
  · intro h
    induction l with
    | nil => cases h
    | cons x t ih =>
      obtain ⟨h1, h2⟩ := List.pairwise_cons.1 hs
      rw [List.find?_cons]
      rcases List.mem_cons.1 h with rfl | h
      · simp
      · have := h1 _ h
        have hne : ¬ x.1 = k := by
          intro e
          have : x.1 < k := h1 _ h
          omega
        rw [decide_eq_false hne]
        exact ih h2 h
theorem lins_len {k v : Int} {l : Kvs} (h : Srt l) : (lins k v l).length = l.length + (if (lget k l).isSome then 0 else 1) := by
  unfold lins
  induction l with
  | nil => simp [lget]
  | cons x t ih =>
    obtain ⟨h1, h2⟩ := List.pairwise_cons.1 h
    have ih := ih h2
    simp only [List.length_append, List.length_cons] at ih ⊢
    by_cases hlt : x.1 < k
    · have e1 : lget k (x :: t) = lget k t := by unfold lget; rw [List.find?_cons, decide_eq_false (show ¬ x.1 = k by omega)]
      rw [List.filter_cons_of_pos (by simpa using hlt), List.filter_cons_of_neg (by simp; omega), e1]
      simp only [List.length_cons]
      omega
    · have e2 : t.filter (fun x => decide (x.1 < k)) = [] := filter_no fun y hy => decide_eq_false (by have := h1 y hy; omega)
      rw [List.filter_cons_of_neg (by simpa using hlt), e2]
      by_cases he : x.1 = k
      · have e1 : lget k (x :: t) = some x.2 := by unfold lget; rw [List.find?_cons, decide_eq_true he]; rfl
        have e3 : t.filter (fun x => decide (k < x.1)) = t := filter_all fun y hy => decide_eq_true (by have := h1 y hy; omega)
        rw [List.filter_cons_of_neg (by simp; omega), e1, e3]; simp
      · have e1 : lget k (x :: t) = none := lget_none fun y hy => by
          rcases List.mem_cons.1 hy with rfl | hy
          · exact he
          · have := h1 y hy; omega
        have e3 : t.filter (fun x => decide (k < x.1)) = t := filter_all fun y hy => decide_eq_true (by have := h1 y hy; omega)
        rw [List.filter_cons_of_pos (by simp; omega), e1, e3]; simp
namespace Tr
def get (k : Int) : Tr → Option Int
  | nil => none
  | node l x y r => if k < x then get k l else if x < k then get k r else some y
theorem has_get (k : Int) : ∀ t : Tr, t.has k = (get k t).isSome
  | nil => rfl
  | node l x y r => by
    unfold has get
    split
    · exact has_get k l
    · split
      · exact has_get k r
      · rfl
theorem srt_node {l r : Tr} {k v : Int} (h : Srt (node l k v r).ls) : Srt l.ls ∧ Srt r.ls ∧ (∀ x ∈ l.ls, x.1 < k) ∧ ∀ x ∈ r.ls, k < x.1 := by
  obtain ⟨h1, h2, h3⟩ := Srt.app h
  obtain ⟨h4, h5⟩ := List.pairwise_cons.1 h2
  exact ⟨h1, h5, fun x hx => h3 x hx _ (List.mem_cons_self ..), h4⟩
theorem get_ls (k : Int) : ∀ t : Tr, Srt t.ls → get k t = lget k t.ls
  | nil, _ => rfl
  | node l x y r, h => by
    obtain ⟨h1, h2, h3, h4⟩ := srt_node h
    unfold get ls lget
    rw [List.find?_append, List.find?_cons]
    split
    · rename_i hlt
      rw [get_ls k l h1, decide_eq_false (show ¬ x = k by omega)]
      have : r.ls.find? (fun x => decide (x.1 = k)) = none := List.find?_eq_none.2 fun z hz e => by
        have := h4 z hz; have := of_decide_eq_true e; omega
      simp only [this, Option.or_none]; rfl
    · rename_i hlt
      have e1 : l.ls.find? (fun x => decide (x.1 = k)) = none := List.find?_eq_none.2 fun z hz e => by
        have := h3 z hz; have := of_decide_eq_true e; omega
      rw [e1, Option.none_or]
      split
      · rename_i hgt
        rw [get_ls k r h2, decide_eq_false (show ¬ x = k by omega)]; rfl
      · rw [decide_eq_true (show x = k by omega)]; rfl
theorem ins_ls (k v : Int) : ∀ t : Tr, Srt t.ls → (ins k v t).ls = lins k v t.ls
  | nil, _ => rfl
  | node l x y r, h => by
    obtain ⟨h1, h2, h3, h4⟩ := srt_node h
    unfold ins lins
    rw [show (node l x y r).ls = l.ls ++ (x, y) :: r.ls from rfl, List.filter_append, List.filter_append]
    split
    · rename_i hlt
      rw [(join_n _ _ _ _).2, ins_ls k v l h1, List.filter_cons_of_neg (by simp; omega), List.filter_cons_of_pos (by simp; omega)]
      rw [filter_no (p := fun x => decide (x.1 < k)) (l := r.ls) fun z hz => decide_eq_false (by have := h4 z hz; omega), filter_all (p := fun x => decide (k < x.1)) (l := r.ls) fun z hz => decide_eq_true (by have := h4 z hz; omega)]
      unfold lins; simp
    · split
      · rename_i hgt
        rw [(join_n _ _ _ _).2, ins_ls k v r h2, List.filter_cons_of_pos (by simp; omega), List.filter_cons_of_neg (by simp; omega)]
        rw [filter_all (p := fun x => decide (x.1 < k)) (l := l.ls) fun z hz => decide_eq_true (by have := h3 z hz; omega), filter_no (p := fun x => decide (k < x.1)) (l := l.ls) fun z hz => decide_eq_false (by have := h3 z hz; omega)]
        unfold lins; simp
      · have e : x = k := by omega
        subst e
        rw [List.filter_cons_of_neg (by simp), List.filter_cons_of_neg (by simp)]
        rw [filter_all (p := fun z => decide (z.1 < x)) (l := l.ls) fun z hz => decide_eq_true (h3 z hz), filter_no (p := fun z => decide (x < z.1)) (l := l.ls) fun z hz => decide_eq_false (by have := h3 z hz; omega)]
        rw [filter_no (p := fun z => decide (z.1 < x)) (l := r.ls) fun z hz => decide_eq_false (by have := h4 z hz; omega), filter_all (p := fun z => decide (x < z.1)) (l := r.ls) fun z hz => decide_eq_true (h4 z hz)]
        simp [ls]
theorem del_ls (k : Int) : ∀ t : Tr, Srt t.ls → (del k t).ls = ldel k t.ls
  | nil, _ => rfl
  | node l x y r, h => by
    obtain ⟨h1, h2, h3, h4⟩ := srt_node h
    unfold del
    rw [show (node l x y r).ls = l.ls ++ (x, y) :: r.ls from rfl]
    unfold ldel
    rw [List.filter_append]
    split
    · rename_i hlt
      rw [(join_n _ _ _ _).2, del_ls k l h1, List.filter_cons_of_pos (by simp; omega), filter_all (l := r.ls) fun z hz => decide_eq_true (by have := h4 z hz; omega)]
      rfl
    · split
      · rename_i hgt
        rw [(join_n _ _ _ _).2, del_ls k r h2, List.filter_cons_of_pos (by simp; omega), filter_all (l := l.ls) fun z hz => decide_eq_true (by have := h3 z hz; omega)]
        rfl
      · have e : x = k := by omega
        subst e
        rw [(cat_n _ _).2, List.filter_cons_of_neg (by simp), filter_all (l := l.ls) fun z hz => decide_eq_true (by have := h3 z hz; omega), filter_all (l := r.ls) fun z hz => decide_eq_true (by have := h4 z hz; omega)]
/-- what is there already makes no change -/
theorem join_same {l r : Tr} {k v : Int} (h : Bal l.n r.n) : join l k v r = node l k v r := by
  cases l with
  | nil =>
    cases r with
    | nil => rw [join]
    | node m a b s => rw [join, if_pos (by simpa [n] using h)]
  | node s a b m =>
    cases r with
    | nil => rw [join, if_pos (by simpa [n] using h)]
    | node m' a' b' s' => rw [join, if_pos (by simpa [n] using h)]
theorem ins_same (k v : Int) : ∀ t : Tr, t.ok → get k t = some v → ins k v t = t
  | nil, _, h => by cases h
  | node l x y r, h, hg => by
    obtain ⟨hb, hl, hr⟩ := h
    unfold get at hg
    unfold ins
    split at hg
    · rename_i hlt
      rw [if_pos hlt, ins_same k v l hl hg, join_same hb]
    · rename_i hlt
      split at hg
      · rename_i hgt
        rw [if_neg hlt, if_pos hgt, ins_same k v r hr hg, join_same hb]
      · rename_i hgt
        rw [if_neg hlt, if_neg hgt]
        simp only [Option.some.injEq] at hg
        rw [hg, show x = k by omega]
/-! ### the greatest height of a tree with so many keys -/
def mxA (keys : Nat) : Nat → Nat → Nat
  | 0, h => h
  | f + 1, h => if keys + 1 < wt (h + 1) then h else mxA keys f (h + 1)
def mxH (keys : Nat) : Nat := mxA keys 80 0
theorem mxA_ge (keys : Nat) : ∀ f h, h ≤ mxA keys f h ∧ mxA keys f h ≤ h + f
  | 0, h => by simp [mxA]
  | f + 1, h => by
    unfold mxA
    split
    · omega
    · have := mxA_ge keys f (h + 1); omega
theorem mxA_le (keys : Nat) : ∀ f h j, j ≤ h + f → wt j ≤ keys + 1 → h ≤ j → j ≤ mxA keys f h
  | 0, h, j, h1, _, _ => by unfold mxA; omega
  | f + 1, h, j, h1, h2, h3 => by
    unfold mxA
    split
    · rename_i hlt
      rcases Nat.lt_or_ge h j with h4 | h4
      · have := wt_mono (a := h + 1) (b := j) h4; omega
      · omega
    · rcases Nat.lt_or_ge h j with h4 | h4
      · exact mxA_le keys f (h + 1) j (by omega) h2 h4
      · have := (mxA_ge keys f (h + 1)).1; omega
theorem wt_pow : ∀ h : Nat, 4 ^ h ≤ wt h * 3 ^ h
  | 0 => by simp [wt]
  | h + 1 => by
    have ih := wt_pow h
    have h1 : 4 * wt h ≤ 3 * wt (h + 1) := by rw [wt]; omega
    calc 4 ^ (h + 1) = 4 * 4 ^ h := by rw [Nat.pow_succ, Nat.mul_comm]
      _ ≤ 4 * (wt h * 3 ^ h) := Nat.mul_le_mul_left _ ih
      _ = (4 * wt h) * 3 ^ h := by rw [Nat.mul_assoc]
      _ ≤ (3 * wt (h + 1)) * 3 ^ h := Nat.mul_le_mul_right _ h1
      _ = wt (h + 1) * 3 ^ (h + 1) := by rw [Nat.pow_succ, Nat.mul_comm 3 (wt (h + 1)), Nat.mul_assoc, Nat.mul_comm 3]
theorem wt_81 : 2147483648 < wt 81 := by
  have h := wt_pow 81
  rcases Nat.lt_or_ge 2147483648 (wt 81) with h1 | h1
  · exact h1
  · have h2 : wt 81 * 3 ^ 81 ≤ 2147483648 * 3 ^ 81 := Nat.mul_le_mul_right _ h1
    have h3 : 2147483648 * 3 ^ 81 < 4 ^ 81 := by decide
    omega
theorem ht_le (t : Tr) (h : t.ok) (hn : t.n ≤ 2147483647) : t.ht ≤ mxH t.n := by
  have h1 := wt_ht t h
  refine mxA_le t.n 80 0 t.ht ?_ h1 (Nat.zero_le _)
  rcases Nat.lt_or_ge 80 t.ht with h2 | h2
  · have := wt_mono (a := 81) (b := t.ht) h2
    have := wt_81
    omega
  · omega
theorem mxA_mono {a b : Nat} (hab : a ≤ b) : ∀ f h, mxA a f h ≤ mxA b f h
  | 0, h => by simp [mxA]
  | f + 1, h => by
    unfold mxA
    split
    · split
      · exact Nat.le_refl _
      · have := (mxA_ge b f (h + 1)).1; omega
    · rw [if_neg (by omega)]; exact mxA_mono hab f (h + 1)
theorem mxH_mono {a b : Nat} (h : a ≤ b) : mxH a ≤ mxH b := mxA_mono h 80 0
theorem mxH_le (a : Nat) : mxH a ≤ 80 := by have := (mxA_ge a 80 0).2; unfold mxH; omega
/-- an insertion is reserved for -/
theorem ic_res (k v : Int) (t : Tr) (h : t.ok) (hn : t.n ≤ 2147483646) : ic k v t ≤ 4 * (mxH (t.n + 1) + 2) := by
  have h1 := ic_le k v t h
  have h2 := ht_le t h (by omega)
  have h3 := mxH_mono (a := t.n) (b := t.n + 1) (by omega)
  omega
theorem dc_res (k : Int) (t : Tr) (h : t.ok) (hn : t.n ≤ 2147483647) : dc k t ≤ 4 * (mxH t.n + 2) := by
  have h1 := dc_le k t h
  have h2 := ht_le t h hn
  omega
end Tr
end Go.V

/-! ## Aro -/
namespace Go.V
open Go Go.RowKit

def AM.nd (A : AM) (i : Int) : Nd := (A.nodes[i.toNat]?).getD Nd.zero
def AM.live (A : AM) : List Int := ((List.range A.s.used.length).map fun i : Nat => (i : Int)).filter fun i => A.s.ok i
def AM.kids (A : AM) : List Int := A.live.flatMap fun i => [(A.nd i).lf, (A.nd i).rg]
/-- the size of a tree -/
def AM.sz (A : AM) (i : Int) : Int := if A.s.ok i = true then (A.nd i).size else 0
/-- every count is the number of references: those of callers and those of parents -/
structure ARf (A : AM) (R : List Int) : Prop extends AWf A where
  kid : ∀ i, A.s.ok i = true → 0 ≤ i → ∀ c, c = (A.nd i).lf ∨ c = (A.nd i).rg → c = 0 ∨ (1 ≤ c ∧ A.s.ok c = true)
  sz : ∀ i, A.s.ok i = true → 0 ≤ i → (A.nd i).size = 1 + A.sz (A.nd i).lf + A.sz (A.nd i).rg ∧ (A.nd i).size ≤ 2147483647
  pos : ∀ i, A.s.ok i = true → 0 ≤ i → 1 ≤ (A.nd i).size
  ref : ∀ r ∈ R, r = 0 ∨ (1 ≤ r ∧ A.s.ok r = true)
  cnt : ∀ i, A.s.ok i = true → 0 ≤ i → A.cntOf i = ((R ++ A.kids).count i : Nat) ∧ 1 ≤ A.cntOf i
  zero : ∀ i, A.s.ok i = false → 1 ≤ i → A.nd i = Nd.zero
  len : R.length ≤ 1000000000
theorem AM.mem_live {A : AM} (i : Int) : i ∈ A.live ↔ 0 ≤ i ∧ A.s.ok i = true := by
  unfold AM.live
  rw [List.mem_filter, List.mem_map]
  constructor
  · rintro ⟨⟨n, _, rfl⟩, h⟩; exact ⟨by omega, h⟩
  · rintro ⟨h0, h⟩
    exact ⟨⟨i.toNat, List.mem_range.2 (ok_getD h), by omega⟩, h⟩
theorem AM.live_nodup (A : AM) : A.live.Nodup := by
  unfold AM.live
  refine List.Pairwise.filter _ (List.pairwise_map.2 ?_)
  exact (List.nodup_range).imp fun h e => h (by omega)
theorem live_perm {A B : AM} {k : Int} (hk : A.s.ok k = true) (h0 : 0 ≤ k) (h : ∀ j, 0 ≤ j → B.s.ok j = if j = k then false else A.s.ok j) : A.live.Perm (k :: B.live) := by
  refine (List.perm_ext_iff_of_nodup A.live_nodup (List.nodup_cons.2 ⟨fun hm => ?_, B.live_nodup⟩)).2 fun j => ?_
  · have := ((B.mem_live k).1 hm).2
    rw [h k h0, if_pos rfl] at this; cases this
  · rw [A.mem_live, List.mem_cons, B.mem_live]
    constructor
    · rintro ⟨j0, j1⟩
      by_cases e : j = k
      · exact .inl e
      · exact .inr ⟨j0, by rw [h j j0, if_neg e]; exact j1⟩
    · rintro (rfl | ⟨j0, j1⟩)
      · exact ⟨h0, hk⟩
      · rw [h j j0] at j1
        split at j1
        · cases j1
        · exact ⟨j0, j1⟩
theorem fm_congr {α β : Type} {f g : α → List β} : ∀ {l : List α}, (∀ x ∈ l, f x = g x) → l.flatMap f = l.flatMap g
  | [], _ => rfl
  | x :: l, h => by rw [List.flatMap_cons, List.flatMap_cons, h x (List.mem_cons_self ..), fm_congr fun y hy => h y (List.mem_cons_of_mem _ hy)]
theorem kids_perm {A B : AM} {k : Int} (hk : A.s.ok k = true) (h0 : 0 ≤ k) (h : ∀ j, 0 ≤ j → B.s.ok j = if j = k then false else A.s.ok j) (hn : ∀ j, 0 ≤ j → j ≠ k → B.nd j = A.nd j) : A.kids.Perm ([(A.nd k).lf, (A.nd k).rg] ++ B.kids) := by
  have h1 := (live_perm hk h0 h).flatMap_right (fun i => [(A.nd i).lf, (A.nd i).rg])
  rw [List.flatMap_cons] at h1
  refine h1.trans (List.Perm.append_left _ (List.Perm.of_eq ?_))
  unfold AM.kids
  have hm : ∀ j ∈ B.live, [(A.nd j).lf, (A.nd j).rg] = [(B.nd j).lf, (B.nd j).rg] := fun j hj => by
    have hj2 := (B.mem_live j).1 hj
    have hne : j ≠ k := fun e => by subst e; have := hj2.2; rw [h j h0, if_pos rfl] at this; cases this
    rw [hn j hj2.1 hne]
  exact fm_congr hm
theorem AM.live_len (A : AM) : A.live.length ≤ A.s.used.length := by
  unfold AM.live
  exact Nat.le_trans (List.length_filter_le _ _) (by simp)
theorem AM.kids_len (A : AM) : A.kids.length = 2 * A.live.length := by
  unfold AM.kids
  induction A.live with
  | nil => rfl
  | cons x l ih => rw [List.flatMap_cons, List.length_append, ih]; simp; omega
theorem AM.mem_kids {A : AM} (c : Int) : c ∈ A.kids ↔ ∃ i, 0 ≤ i ∧ A.s.ok i = true ∧ (c = (A.nd i).lf ∨ c = (A.nd i).rg) := by
  unfold AM.kids
  rw [List.mem_flatMap]
  constructor
  · rintro ⟨i, hi, hc⟩
    have := (A.mem_live i).1 hi
    exact ⟨i, this.1, this.2, by simpa using hc⟩
  · rintro ⟨i, h0, h1, hc⟩
    exact ⟨i, (A.mem_live i).2 ⟨h0, h1⟩, by simpa using hc⟩
theorem ARf.perm {A : AM} {R R' : List Int} (h : ARf A R) (hp : R.Perm R') : ARf A R' :=
  ⟨h.toAWf, h.kid, h.sz, h.pos, fun r hr => h.ref r (hp.mem_iff.2 hr), fun i hi h0 => by
    rw [← (List.Perm.append_right A.kids hp).count_eq i]; exact h.cnt i hi h0, h.zero, by rw [← hp.length_eq]; exact h.len⟩
theorem ARf.cons0 {A : AM} {R : List Int} (h : ARf A R) (hl : R.length + 1 ≤ 1000000000) : ARf A (0 :: R) :=
  ⟨h.toAWf, h.kid, h.sz, h.pos, fun r hr => by
    rcases List.mem_cons.1 hr with rfl | hr
    · exact .inl rfl
    · exact h.ref r hr, fun i hi h0 => by
    have h1 := (SM.ok_rng h.s h0 hi).1
    rw [List.cons_append, List.count_cons_of_ne (by omega)]; exact h.cnt i hi h0, h.zero, by simpa using hl⟩
theorem ARf.tail0 {A : AM} {R : List Int} (h : ARf A (0 :: R)) : ARf A R :=
  ⟨h.toAWf, h.kid, h.sz, h.pos, fun r hr => h.ref r (List.mem_cons_of_mem _ hr), fun i hi h0 => by
    have h1 := (SM.ok_rng h.s h0 hi).1
    have h2 := h.cnt i hi h0
    rwa [List.cons_append, List.count_cons_of_ne (by omega)] at h2, h.zero, by have := h.len; simp at this; omega⟩
theorem ARf.cnt_le {A : AM} {R : List Int} (h : ARf A R) {i : Int} (hi : A.s.ok i = true) (h0 : 0 ≤ i) : 1 ≤ A.cntOf i ∧ A.cntOf i ≤ 2000000000 := by
  have h1 := h.cnt i hi h0
  have h2 := List.count_le_length (a := i) (l := R ++ A.kids)
  rw [List.length_append, A.kids_len] at h2
  have h3 := A.live_len
  have h4 := h.s.cap
  have h5 := h.len
  omega
theorem AM.cnt_set {A : AM} {s : SM} {n : List Nd} {k i x : Int} (hk : k.toNat < A.cnt.length) (h0 : 0 ≤ k) (hi : 0 ≤ i) : (AM.mk s n (A.cnt.set k.toNat x)).cntOf i = if i = k then x else A.cntOf i := by
  unfold AM.cntOf
  simp only
  rw [List.getElem?_set]
  by_cases h : i = k
  · subst h; rw [if_pos rfl, if_pos hk, if_pos rfl]; rfl
  · rw [if_neg (by omega), if_neg h]
theorem AM.nd_set {A : AM} {s : SM} {c : List Int} {k i : Int} {x : Nd} (hk : k.toNat < A.nodes.length) (h0 : 0 ≤ k) (hi : 0 ≤ i) : (AM.mk s (A.nodes.set k.toNat x) c).nd i = if i = k then x else A.nd i := by
  unfold AM.nd
  simp only
  rw [List.getElem?_set]
  by_cases h : i = k
  · subst h; rw [if_pos rfl, if_pos hk, if_pos rfl]; rfl
  · rw [if_neg (by omega), if_neg h]
/-- one reference more -/
theorem ARf.inc {A : AM} {R : List Int} {k : Int} (h : ARf A R) (hk : A.s.ok k = true) (h0 : 0 ≤ k) (hl : R.length + 1 ≤ 1000000000) : ARf (A.inc k) (k :: R) := by
  have hr := SM.ok_rng h.s h0 hk
  have hkl : k.toNat < A.cnt.length := by rw [h.cl]; exact hr.2.2.2
  have hb := h.cnt_le hk h0
  have hkids : (A.inc k).kids = A.kids := rfl
  refine ⟨h.toAWf.inc k, h.kid, h.sz, h.pos, fun r hr2 => ?_, fun i hi hi0 => ?_, h.zero, by simpa using hl⟩
  · rcases List.mem_cons.1 hr2 with rfl | hr2
    · exact .inr ⟨hr.1, hk⟩
    · exact h.ref r hr2
  · have hc := h.cnt i hi hi0
    rw [hkids, AM.inc, AM.cnt_set hkl h0 hi0]
    by_cases e : i = k
    · subst e
      rw [if_pos rfl, List.cons_append, List.count_cons_self, w64 (by omega)]
      omega
    · rw [if_neg e, List.cons_append, List.count_cons_of_ne (fun h => e h.symm)]; exact hc
/-- one reference less, and there are others -/
theorem ARf.dec {A : AM} {R : List Int} {k : Int} (h : ARf A (k :: R)) (hk : A.s.ok k = true) (h0 : 0 ≤ k) (h1 : A.cntOf k ≠ 1) : ARf (A.dec k) R := by
  have hr := SM.ok_rng h.s h0 hk
  have hkl : k.toNat < A.cnt.length := by rw [h.cl]; exact hr.2.2.2
  have hb := h.cnt_le hk h0
  have hkids : (A.dec k).kids = A.kids := rfl
  refine ⟨⟨h.s, h.nl, by simpa [AM.dec] using h.cl⟩, h.kid, h.sz, h.pos, fun r hr2 => h.ref r (List.mem_cons_of_mem _ hr2), fun i hi hi0 => ?_, h.zero, by have := h.len; simp at this; omega⟩
  have hc := h.cnt i hi hi0
  rw [hkids, AM.dec, AM.cnt_set hkl h0 hi0]
  by_cases e : i = k
  · subst e
    rw [List.cons_append, List.count_cons_self] at hc
    rw [if_pos rfl, w64 (by omega)]
    omega
  · rw [List.cons_append, List.count_cons_of_ne (fun h => e h.symm)] at hc
    rw [if_neg e]; exact hc
/-- the slot becomes free -/
def AM.freed (A : AM) (k : Int) : AM := ⟨A.s.release k, A.nodes.set k.toNat Nd.zero, A.cnt.set k.toNat (IntKind.i64.wrap (A.cntOf k - 1))⟩
theorem AM.freed_ok {A : AM} {k : Int} (h : SOk A.s) (hk : A.s.ok k = true) (h0 : 0 ≤ k) : ∀ j, 0 ≤ j → (A.freed k).s.ok j = if j = k then false else A.s.ok j := fun _ hj => SM.release_ok' h h0 hk hj
theorem ARf.free {A : AM} {R : List Int} {k : Int} (h : ARf A (k :: R)) (hk : A.s.ok k = true) (h0 : 0 ≤ k) (h1 : A.cntOf k = 1) (hl : R.length + 2 ≤ 1000000000) : ARf (A.freed k) ((A.nd k).lf :: (A.nd k).rg :: R) := by
  have hr := SM.ok_rng h.s h0 hk
  have hkl : k.toNat < A.cnt.length := by rw [h.cl]; exact hr.2.2.2
  have hkn : k.toNat < A.nodes.length := by rw [h.nl]; exact hr.2.2.2
  have hok := AM.freed_ok h.s hk h0
  have hnd : ∀ j, 0 ≤ j → j ≠ k → (A.freed k).nd j = A.nd j := fun j hj e => by
    unfold AM.freed; rw [AM.nd_set hkn h0 hj, if_neg e]
  have hkp := kids_perm hk h0 hok hnd
  have hck := (h.cnt k hk h0).1
  rw [h1, List.cons_append, List.count_cons_self] at hck
  have hc0 : (R ++ A.kids).count k = 0 := by omega
  rw [List.count_append] at hc0
  have hnR : k ∉ R := List.count_eq_zero.1 (by omega)
  have hnK : k ∉ A.kids := List.count_eq_zero.1 (by omega)
  have hkid : ∀ i, A.s.ok i = true → 0 ≤ i → ∀ c, c = (A.nd i).lf ∨ c = (A.nd i).rg → c = 0 ∨ (1 ≤ c ∧ (A.freed k).s.ok c = true) := fun i hi hi0 c hc => by
    rcases h.kid i hi hi0 c hc with e | ⟨c1, c2⟩
    · exact .inl e
    · refine .inr ⟨c1, ?_⟩
      have hne : c ≠ k := fun e => hnK ((A.mem_kids k).2 ⟨i, hi0, hi, by rw [← e]; exact hc⟩)
      rw [hok c (by omega), if_neg hne]; exact c2
  have hback : ∀ i, 0 ≤ i → (A.freed k).s.ok i = true → i ≠ k ∧ A.s.ok i = true := fun i hi0 hi => by
    rw [hok i hi0] at hi
    split at hi
    · cases hi
    · rename_i e; exact ⟨e, hi⟩
  have hsz : ∀ i, A.s.ok i = true → 0 ≤ i → ∀ c, c = (A.nd i).lf ∨ c = (A.nd i).rg → (A.freed k).sz c = A.sz c := fun i hi hi0 c hc => by
    rcases h.kid i hi hi0 c hc with e | ⟨c1, c2⟩
    · subst e
      unfold AM.sz
      have hu0 : A.s.ok 0 = false := h.s.u0
      rw [hok 0 (Int.le_refl _), if_neg (show ¬ (0 : Int) = k by omega), hu0]; rfl
    · have hne : c ≠ k := fun e => hnK ((A.mem_kids k).2 ⟨i, hi0, hi, by rw [← e]; exact hc⟩)
      unfold AM.sz
      rw [hok c (by omega), if_neg hne, hnd c (by omega) hne]
  refine ⟨⟨SM.release_sok h.s h0 hk, ?_, ?_⟩, fun i hi hi0 c hc => ?_, fun i hi hi0 => ?_, fun i hi hi0 => ?_, fun r hr2 => ?_, fun i hi hi0 => ?_, fun i hi hi1 => ?_, ?_⟩
  · show (A.nodes.set _ _).length = (A.s.used.set _ _).length
    rw [List.length_set, List.length_set]; exact h.nl
  · show (A.cnt.set _ _).length = (A.s.used.set _ _).length
    rw [List.length_set, List.length_set]; exact h.cl
  · obtain ⟨e, hi2⟩ := hback i hi0 hi
    rw [hnd i hi0 e] at hc
    exact hkid i hi2 hi0 c hc
  · obtain ⟨e, hi2⟩ := hback i hi0 hi
    rw [hnd i hi0 e, hsz i hi2 hi0 _ (.inl rfl), hsz i hi2 hi0 _ (.inr rfl)]
    exact h.sz i hi2 hi0
  · obtain ⟨e, hi2⟩ := hback i hi0 hi
    rw [hnd i hi0 e]; exact h.pos i hi2 hi0
  · simp only [List.mem_cons] at hr2
    rcases hr2 with e | e | hr2
    · exact hkid k hk h0 r (.inl e)
    · exact hkid k hk h0 r (.inr e)
    · rcases h.ref r (List.mem_cons_of_mem _ hr2) with e | ⟨r1, r2⟩
      · exact .inl e
      · have hne : r ≠ k := fun e => hnR (e ▸ hr2)
        exact .inr ⟨r1, by rw [hok r (by omega), if_neg hne]; exact r2⟩
  · obtain ⟨e, hi2⟩ := hback i hi0 hi
    have hc := h.cnt i hi2 hi0
    have he : (A.freed k).cntOf i = A.cntOf i := by unfold AM.freed; rw [AM.cnt_set hkl h0 hi0, if_neg e]
    rw [he]
    rw [List.cons_append, List.count_cons_of_ne (fun h => e h.symm)] at hc
    have hp : (R ++ A.kids).Perm ((A.nd k).lf :: (A.nd k).rg :: R ++ (A.freed k).kids) := by
      refine (List.Perm.append_left R hkp).trans ?_
      simp only [List.cons_append, List.nil_append]
      exact (List.perm_middle).trans ((List.Perm.cons _ List.perm_middle))
    rw [← hp.count_eq i]; exact hc
  · by_cases e : i = k
    · subst e
      unfold AM.freed
      rw [AM.nd_set hkn h0 h0, if_pos rfl]
    · have hi2 : A.s.ok i = false := by rw [hok i (by omega), if_neg e] at hi; exact hi
      rw [hnd i (by omega) e]; exact h.zero i hi2 hi1
  · simpa using hl
end Go.V

/-! ## Arx -/
namespace Go.V
open Go Go.RowKit

def AM.put (A : AM) (n : Nd) : AM := ⟨A.s.alloc, A.nodes.set A.s.next.toNat n, A.cnt.set A.s.next.toNat 1⟩
def AM.make (A : AM) (n : Nd) : AM := ((A.put n).inc n.lf).inc n.rg
theorem AM.inc_cnt {A : AM} {k j : Int} (hk : k.toNat < A.cnt.length) (h0 : 0 ≤ k) (hj : 0 ≤ j) : (A.inc k).cntOf j = if j = k then IntKind.i64.wrap (A.cntOf k + 1) else A.cntOf j := AM.cnt_set hk h0 hj
theorem ARf.rng {A : AM} {R : List Int} (h : ARf A R) {r : Int} (hr : r ∈ R) : 0 ≤ r ∧ r < 4294967296 ∧ r ≤ 65536 := by
  rcases h.ref r hr with e | ⟨h1, h2⟩
  · omega
  · have h3 := SM.ok_rng h.s (by omega) h2
    have h4 := h.s.cap
    have h5 : A.s.cap = (A.s.used.length : Int) - 1 := rfl
    omega
theorem ARf.okrng {A : AM} {R : List Int} (h : ARf A R) {c : Int} (hc : c = 0 ∨ (1 ≤ c ∧ A.s.ok c = true)) : 0 ≤ c ∧ c ≤ 65536 ∧ c.toNat < A.s.used.length := by
  have h4 := h.s.cap
  have h5 : A.s.cap = (A.s.used.length : Int) - 1 := rfl
  rcases hc with e | ⟨h1, h2⟩
  · subst e; exact ⟨by omega, by omega, by show 0 < _; omega⟩
  · have h3 := SM.ok_rng h.s (by omega) h2
    omega
theorem ARf.make {A : AM} {R : List Int} {n : Nd} (h : ARf A R) (hf : 0 < A.s.free) (hl : n.lf = 0 ∨ (1 ≤ n.lf ∧ A.s.ok n.lf = true)) (hr : n.rg = 0 ∨ (1 ≤ n.rg ∧ A.s.ok n.rg = true))
    (hs : n.size = 1 + A.sz n.lf + A.sz n.rg ∧ n.size ≤ 2147483647) (hp : 1 ≤ n.size) (hlen : R.length + 1 ≤ 1000000000) : ARf (A.make n) (A.s.next :: R) := by
  have hn := SM.next_rng h.s hf
  have hno : A.s.ok A.s.next = false := hn.2.2.2
  have hok : ∀ j, 0 ≤ j → (A.make n).s.ok j = if j = A.s.next then true else A.s.ok j := fun j hj => SM.alloc_ok' h.s hf hj
  have hnl : A.s.next.toNat < A.nodes.length := by rw [h.nl]; exact hn.2.2.1
  have hcl : A.s.next.toNat < A.cnt.length := by rw [h.cl]; exact hn.2.2.1
  have hnd : ∀ j, 0 ≤ j → (A.make n).nd j = if j = A.s.next then n else A.nd j := fun j hj => AM.nd_set hnl (by omega) hj
  have hne : ∀ c, (c = 0 ∨ (1 ≤ c ∧ A.s.ok c = true)) → c ≠ A.s.next := fun c hc e => by
    rcases hc with e2 | ⟨_, h2⟩
    · omega
    · rw [e, hno] at h2; cases h2
  have hup : ∀ c, (c = 0 ∨ (1 ≤ c ∧ A.s.ok c = true)) → (c = 0 ∨ (1 ≤ c ∧ (A.make n).s.ok c = true)) := fun c hc => by
    have h1 := hne c hc
    rcases hc with e2 | ⟨h3, h2⟩
    · exact .inl e2
    · exact .inr ⟨h3, by rw [hok c (by omega), if_neg h1]; exact h2⟩
  have hsz : ∀ c, (c = 0 ∨ (1 ≤ c ∧ A.s.ok c = true)) → (A.make n).sz c = A.sz c := fun c hc => by
    have h1 := hne c hc
    have h0 : 0 ≤ c := by omega
    unfold AM.sz
    rw [hok c h0, if_neg h1, hnd c h0, if_neg h1]
  have hkp : (A.make n).kids.Perm ([n.lf, n.rg] ++ A.kids) := by
    have h1 := kids_perm (A := A.make n) (B := A) (k := A.s.next) (by rw [hok _ (by omega), if_pos rfl]) (by omega) (fun j hj => by
      rw [hok j hj]
      by_cases e : j = A.s.next
      · subst e; rw [if_pos rfl]; exact hno
      · rw [if_neg e, if_neg e]) (fun j hj e => by rw [hnd j hj, if_neg e])
    rw [hnd _ (by omega), if_pos rfl] at h1
    exact h1
  have hlr := h.okrng hl
  have hrr := h.okrng hr
  have hcnt : ∀ j, 1 ≤ j → (j = A.s.next ∨ A.s.ok j = true) → (A.make n).cntOf j = if j = A.s.next then 1 else A.cntOf j + (if j = n.lf then 1 else 0) + (if j = n.rg then 1 else 0) := fun j hj hjo => by
    have hpl : (A.put n).cnt.length = A.cnt.length := by simp [AM.put]
    have hpl2 : ((A.put n).inc n.lf).cnt.length = A.cnt.length := by simp [AM.inc, AM.put]
    have e1 : (A.make n).cntOf j = if j = n.rg then IntKind.i64.wrap (((A.put n).inc n.lf).cntOf n.rg + 1) else ((A.put n).inc n.lf).cntOf j := AM.inc_cnt (by rw [hpl2, h.cl]; exact hrr.2.2) hrr.1 (by omega)
    have e2 : ∀ x, 0 ≤ x → ((A.put n).inc n.lf).cntOf x = if x = n.lf then IntKind.i64.wrap ((A.put n).cntOf n.lf + 1) else (A.put n).cntOf x := fun x hx => AM.inc_cnt (by rw [hpl, h.cl]; exact hlr.2.2) hlr.1 hx
    have e3 : ∀ x, 0 ≤ x → (A.put n).cntOf x = if x = A.s.next then 1 else A.cntOf x := fun x hx => AM.cnt_set hcl (by omega) hx
    by_cases hj2 : j = A.s.next
    · rw [if_pos hj2, e1, if_neg (fun e => hne _ hr (by rw [← e]; exact hj2)), e2 j (by omega), if_neg (fun e => hne _ hl (by rw [← e]; exact hj2)), e3 j (by omega), if_pos hj2]
    · have hjo := hjo.resolve_left hj2
      have hb := h.cnt_le hjo (by omega)
      rw [if_neg hj2, e1]
      have e4 : ((A.put n).inc n.lf).cntOf j = A.cntOf j + (if j = n.lf then 1 else 0) := by
        rw [e2 j (by omega)]
        by_cases e : j = n.lf
        · rw [if_pos e, if_pos e, ← e, e3 j (by omega), if_neg hj2, w64 (by omega)]
        · rw [if_neg e, if_neg e, e3 j (by omega), if_neg hj2]; omega
      by_cases e : j = n.rg
      · rw [if_pos e, if_pos e, ← e, e4, w64 (by split <;> omega)]
      · rw [if_neg e, if_neg e, e4]; omega
  refine ⟨⟨SM.alloc_sok h.s hf, ?_, ?_⟩, fun i hi hi0 c hc => ?_, fun i hi hi0 => ?_, fun i hi hi0 => ?_, fun r hr2 => ?_, fun i hi hi0 => ?_, fun i hi hi1 => ?_, by simpa using hlen⟩
  · show (A.nodes.set _ _).length = (A.s.used.set _ _).length
    rw [List.length_set, List.length_set]; exact h.nl
  · show (((A.cnt.set _ _).set _ _).set _ _).length = (A.s.used.set _ _).length
    rw [List.length_set, List.length_set, List.length_set, List.length_set]; exact h.cl
  · rw [hnd i hi0] at hc
    by_cases e : i = A.s.next
    · rw [if_pos e] at hc
      rcases hc with hc | hc <;> rw [hc]
      · exact hup _ hl
      · exact hup _ hr
    · rw [if_neg e] at hc
      rw [hok i hi0, if_neg e] at hi
      exact hup _ (h.kid i hi hi0 c hc)
  · rw [hnd i hi0]
    by_cases e : i = A.s.next
    · rw [if_pos e, hsz _ hl, hsz _ hr]; exact hs
    · rw [if_neg e]
      rw [hok i hi0, if_neg e] at hi
      rw [hsz _ (h.kid i hi hi0 _ (.inl rfl)), hsz _ (h.kid i hi hi0 _ (.inr rfl))]
      exact h.sz i hi hi0
  · rw [hnd i hi0]
    by_cases e : i = A.s.next
    · rw [if_pos e]; exact hp
    · rw [if_neg e]
      rw [hok i hi0, if_neg e] at hi
      exact h.pos i hi hi0
  · rcases List.mem_cons.1 hr2 with e | hr2
    · rw [e]; exact .inr ⟨hn.1, by rw [hok _ (by omega), if_pos rfl]⟩
    · exact hup _ (h.ref r hr2)
  · have h1 : 1 ≤ i := by
      rcases Int.lt_or_le i 1 with h1 | h1
      · have : i = 0 := by omega
        subst this
        rw [hok 0 (by omega), if_neg (by omega), h.s.u0] at hi; cases hi
      · exact h1
    rw [hok i hi0] at hi
    have hp2 : (A.s.next :: R ++ (A.make n).kids).count i = (A.s.next :: (R ++ ([n.lf, n.rg] ++ A.kids))).count i := by
      rw [List.cons_append]
      exact (List.Perm.cons _ (List.Perm.append_left R hkp)).count_eq i
    rw [hp2]
    by_cases e : i = A.s.next
    · rw [hcnt i h1 (.inl e), if_pos e, e, List.count_cons_self, List.count_append, List.count_append]
      have c1 : R.count A.s.next = 0 := List.count_eq_zero.2 fun hm => hne _ (h.ref _ hm) rfl
      have c2 : [n.lf, n.rg].count A.s.next = 0 := List.count_eq_zero.2 fun hm => by
        rcases List.mem_cons.1 hm with e2 | hm
        · exact hne _ hl e2.symm
        · exact hne _ hr (List.mem_singleton.1 hm).symm
      have c3 : A.kids.count A.s.next = 0 := List.count_eq_zero.2 fun hm => by
        obtain ⟨j, j0, j1, jc⟩ := (A.mem_kids _).1 hm
        exact hne _ (h.kid j j1 j0 _ jc) rfl
      omega
    · rw [if_neg e] at hi
      have hc2 := h.cnt i hi hi0
      have hb := h.cnt_le hi hi0
      rw [List.count_append] at hc2
      rw [hcnt i h1 (.inr hi), if_neg e, List.count_cons_of_ne (fun h => e h.symm), List.count_append, List.count_append]
      have c2 : ([n.lf, n.rg].count i : Nat) = (if i = n.lf then 1 else 0) + (if i = n.rg then 1 else 0) := by
        rw [List.count_cons, List.count_cons, List.count_nil]
        have q1 : (n.lf == i) = decide (i = n.lf) := by rw [Bool.eq_iff_iff, beq_iff_eq, decide_eq_true_eq]; exact ⟨Eq.symm, Eq.symm⟩
        have q2 : (n.rg == i) = decide (i = n.rg) := by rw [Bool.eq_iff_iff, beq_iff_eq, decide_eq_true_eq]; exact ⟨Eq.symm, Eq.symm⟩
        rw [q1, q2]
        simp only [decide_eq_true_eq]
        omega
      rw [c2]
      split <;> split <;> omega
  · rw [hnd i (by omega)]
    rw [hok i (by omega)] at hi
    by_cases e : i = A.s.next
    · rw [if_pos e] at hi; cases hi
    · rw [if_neg e] at hi ⊢
      exact h.zero i hi hi1
theorem SOk.free_rng {S : SM} (h : SOk S) : 0 ≤ S.free ∧ S.free ≤ 131072 := by
  have h1 := h.rle; have h2 := h.cap; have h3 := h.fr; have h4 : S.cap = (S.used.length : Int) - 1 := rfl
  unfold SM.free; omega
/-- what is not free is allocated -/
theorem AM.cnt_live {A : AM} (h : SOk A.s) : A.s.free + A.live.length = A.s.cap := by
  have hc : A.s.cap = (A.s.used.length : Int) - 1 := rfl
  have hcp := h.cap
  have hfr := h.fr
  have hp : ((List.range A.s.cap.toNat).map fun i : Nat => (i : Int) + 1).Perm (A.live ++ (A.s.rel ++ (List.range (A.s.cap - A.s.fresh).toNat).map fun i : Nat => A.s.fresh + 1 + (i : Int))) := by
    refine (List.perm_ext_iff_of_nodup ?_ ?_).2 fun j => ?_
    · exact List.pairwise_map.2 ((List.nodup_range).imp fun h e => h (by omega))
    · refine List.nodup_append.2 ⟨A.live_nodup, List.nodup_append.2 ⟨h.nd, List.pairwise_map.2 ((List.nodup_range).imp fun h e => h (by omega)), fun a ha b hb e => ?_⟩, fun a ha b hb e => ?_⟩
      · have h1 := h.rm a ha
        obtain ⟨i, _, rfl⟩ := List.mem_map.1 hb
        omega
      · have h1 := (A.mem_live a).1 ha
        rcases List.mem_append.1 hb with hb | hb
        · have h2 := (h.rm b hb).2.2
          rw [← e, h1.2] at h2; cases h2
        · obtain ⟨i, _, e2⟩ := List.mem_map.1 hb
          have h2 := h.hi a (by omega)
          rw [h1.2] at h2; cases h2
    · rw [List.mem_append, List.mem_append, A.mem_live, List.mem_map, List.mem_map]
      constructor
      · rintro ⟨i, hi, rfl⟩
        have hi := List.mem_range.1 hi
        by_cases ho : A.s.ok ((i : Int) + 1) = true
        · exact .inl ⟨by omega, ho⟩
        · right
          by_cases hf : (i : Int) + 1 ≤ A.s.fresh
          · exact .inl (h.cov _ (by omega) hf (by simpa using ho))
          · exact .inr ⟨((i : Int) - A.s.fresh).toNat, List.mem_range.2 (by omega), by omega⟩
      · rintro (⟨h0, h1⟩ | h1 | ⟨i, hi, rfl⟩)
        · have h2 := SM.ok_rng h h0 h1
          exact ⟨(j - 1).toNat, List.mem_range.2 (by omega), by omega⟩
        · have h2 := h.rm j h1
          exact ⟨(j - 1).toNat, List.mem_range.2 (by omega), by omega⟩
        · have hi := List.mem_range.1 hi
          exact ⟨(A.s.fresh + i).toNat, List.mem_range.2 (by omega), by omega⟩
  have h1 := hp.length_eq
  simp only [List.length_map, List.length_range, List.length_append] at h1
  unfold SM.free
  omega
theorem live_sub {A B : AM} (h : ∀ j, 0 ≤ j → B.s.ok j = true → A.s.ok j = true) : B.live.length ≤ A.live.length := by
  have hh : ∀ {l m : List Int}, l.Nodup → (∀ z ∈ l, z ∈ m) → l.length ≤ m.length := by
    intro l
    induction l with
    | nil => intro m _ _; exact Nat.zero_le _
    | cons x t ih =>
      intro m hn hs
      obtain ⟨h1, h2⟩ := List.nodup_cons.1 hn
      have h3 : x ∈ m := hs x (List.mem_cons_self ..)
      have h4 := ih (m := m.erase x) h2 (fun z hz => (List.mem_erase_of_ne (fun e => h1 (by rw [← e]; exact hz))).2 (hs z (List.mem_cons_of_mem _ hz)))
      rw [List.length_erase_of_mem h3] at h4
      have := List.length_pos_of_mem h3
      simp; omega
  exact hh B.live_nodup fun z hz => by
    have := (B.mem_live z).1 hz
    exact (A.mem_live z).2 ⟨this.1, h z this.1 this.2⟩
/-! ### the node that is made -/
def lrOf (l r : Int) (k : Nat) : Int := if k = 0 then l else r
theorem lr_at {l r : Int} {k : Nat} (h : k < 2) : (#[.int .u32 l, .int .u32 r] : Array Value)[k]? = some (.int .u32 (lrOf l r k)) := by
  match k, h with
  | 0, _ => rfl
  | 1, _ => rfl
def ndAdd (n x : Nd) : Nd := ⟨n.key, n.val, n.lf, n.rg, n.size + x.size, IntKind.i64.wrap (n.sum + x.sum), min n.mn x.mn, max n.mx x.mx⟩
def accN (A : AM) (l r : Int) (n : Nd) : Nat → Nd
  | 0 => n
  | k + 1 => if lrOf l r k = 0 then accN A l r n k else ndAdd (accN A l r n k) (A.nd (lrOf l r k))
def ndBase (key val l r : Int) : Nd := ⟨key, val, l, r, 1, val, val, val⟩
def AM.nodeOf (A : AM) (key val l r : Int) : Nd := accN A l r (ndBase key val l r) 2
theorem accN_lf (A : AM) (l r : Int) (n : Nd) : ∀ k, (accN A l r n k).lf = n.lf ∧ (accN A l r n k).rg = n.rg ∧ (accN A l r n k).key = n.key ∧ (accN A l r n k).val = n.val
  | 0 => ⟨rfl, rfl, rfl, rfl⟩
  | k + 1 => by
    unfold accN
    split
    · exact accN_lf A l r n k
    · exact accN_lf A l r n k
/-- children that may be taken -/
structure Kd (A : AM) (l r : Int) : Prop where
  cl : l = 0 ∨ (1 ≤ l ∧ A.s.ok l = true)
  cr : r = 0 ∨ (1 ≤ r ∧ A.s.ok r = true)
  lz : 0 ≤ A.sz l
  rz : 0 ≤ A.sz r
  z : 1 + A.sz l + A.sz r ≤ 2147483647
theorem sz_0 {A : AM} (h : SOk A.s) : A.sz 0 = 0 := by unfold AM.sz; rw [h.u0]; rfl
theorem sz_ok {A : AM} {c : Int} (h : A.s.ok c = true) : A.sz c = (A.nd c).size := by unfold AM.sz; rw [if_pos h]
theorem Kd.at_ {A : AM} {l r : Int} (h : Kd A l r) (k : Nat) : (lrOf l r k = 0 ∨ (1 ≤ lrOf l r k ∧ A.s.ok (lrOf l r k) = true)) ∧ 0 ≤ A.sz (lrOf l r k) := by
  unfold lrOf
  split
  · exact ⟨h.cl, h.lz⟩
  · exact ⟨h.cr, h.rz⟩
theorem accN_sz {A : AM} (hA : AWf A) {l r : Int} (h : Kd A l r) (n : Nd) (k : Nat) : (accN A l r n (k + 1)).size = (accN A l r n k).size + A.sz (lrOf l r k) := by
  rw [accN]
  split
  · rename_i e; rw [e, sz_0 hA.s]; omega
  · rename_i e; rw [sz_ok ((h.at_ k).1.resolve_left e).2]; rfl
theorem nodeOf_sz {A : AM} (hA : AWf A) {key val l r : Int} (h : Kd A l r) : (A.nodeOf key val l r).size = 1 + A.sz l + A.sz r := by
  unfold AM.nodeOf
  rw [accN_sz hA h, accN_sz hA h]; rfl
theorem accN_le {A : AM} (hA : AWf A) {key val l r : Int} (h : Kd A l r) {k : Nat} (hk : k < 2) : 1 ≤ (accN A l r (ndBase key val l r) k).size ∧ (accN A l r (ndBase key val l r) k).size + A.sz (lrOf l r k) ≤ 2147483647 := by
  have h1 := h.lz; have h2 := h.rz; have h3 := h.z
  match k, hk with
  | 0, _ => exact ⟨by simp [accN, ndBase], by show 1 + A.sz l ≤ _; omega⟩
  | 1, _ =>
    rw [accN_sz hA h]
    exact ⟨by show 1 ≤ 1 + A.sz l; omega, by show 1 + A.sz l + A.sz r ≤ _; omega⟩
theorem okrng0 {A : AM} (h : AWf A) {c : Int} (hc : c = 0 ∨ (1 ≤ c ∧ A.s.ok c = true)) : 0 ≤ c ∧ c ≤ 65536 ∧ c.toNat < A.s.used.length := by
  have h4 := h.s.cap
  have h5 : A.s.cap = (A.s.used.length : Int) - 1 := rfl
  rcases hc with e | ⟨h1, h2⟩
  · subst e; exact ⟨by omega, by omega, by show 0 < _; omega⟩
  · have h3 := SM.ok_rng h.s (by omega) h2
    omega
theorem make_eq {A : AM} {n : Nd} {l r z2 z3 : Int} (h2 : (A.cnt.set A.s.next.toNat 1)[l.toNat]? = some z2) (h3 : ((A.cnt.set A.s.next.toNat 1).set l.toNat (IntKind.i64.wrap (z2 + 1)))[r.toNat]? = some z3) (hl : n.lf = l) (hr : n.rg = r) :
    A.make n = AM.mk A.s.alloc (A.nodes.set A.s.next.toNat n) (((A.cnt.set A.s.next.toNat 1).set l.toNat (IntKind.i64.wrap (z2 + 1))).set r.toNat (IntKind.i64.wrap (z3 + 1))) := by
  subst hl; subst hr
  have e1 : (A.put n).cntOf n.lf = z2 := by unfold AM.cntOf; show ((A.cnt.set A.s.next.toNat 1)[n.lf.toNat]?).getD 0 = z2; rw [h2]; rfl
  have e2 : (A.put n).inc n.lf = AM.mk A.s.alloc (A.nodes.set A.s.next.toNat n) ((A.cnt.set A.s.next.toNat 1).set n.lf.toNat (IntKind.i64.wrap (z2 + 1))) := by unfold AM.inc; rw [e1]; rfl
  unfold AM.make
  rw [e2]
  unfold AM.inc AM.cntOf
  simp only
  rw [h3]; rfl
/-! ### trees -/
/-- index i is the root of tree t -/
def Is (A : AM) : Tr → Int → Prop
  | .nil, i => i = 0
  | .node l k v r, i => 1 ≤ i ∧ A.s.ok i = true ∧ (A.nd i).key = k ∧ (A.nd i).val = v ∧ Is A l (A.nd i).lf ∧ Is A r (A.nd i).rg
theorem Is.sz {A : AM} {R : List Int} (h : ARf A R) : ∀ (t : Tr) (i : Int), Is A t i → A.sz i = t.n
  | .nil, i, hi => by
    have : i = 0 := hi
    subst this
    unfold AM.sz
    rw [h.s.u0]; rfl
  | .node l k v r, i, ⟨h1, h2, _, _, h5, h6⟩ => by
    have hs := (h.sz i h2 (by omega)).1
    rw [Is.sz h l _ h5, Is.sz h r _ h6] at hs
    unfold AM.sz
    rw [if_pos h2, hs]; simp only [Tr.n]; omega
theorem Is.ref {A : AM} : ∀ {t : Tr} {i : Int}, Is A t i → i = 0 ∨ (1 ≤ i ∧ A.s.ok i = true)
  | .nil, _, h => .inl h
  | .node _ _ _ _, _, h => .inr ⟨h.1, h.2.1⟩
theorem Is.nil_iff {A : AM} {t : Tr} {i : Int} (h : Is A t i) : i = 0 ↔ t = .nil := by
  cases t with
  | nil => exact ⟨fun _ => rfl, fun _ => h⟩
  | node => exact ⟨fun e => absurd h.1 (by omega), fun e => by cases e⟩
/-- every root that is referred to has a tree -/
theorem ARf.tree {A : AM} {R : List Int} (h : ARf A R) : ∀ (m : Nat) (i : Int), (i = 0 ∨ (1 ≤ i ∧ A.s.ok i = true)) → A.sz i ≤ m → ∃ t, Is A t i
  | m, i, hi, hm => by
    induction m using Nat.strongRecOn generalizing i with
    | _ m ih =>
      rcases hi with e | ⟨h1, h2⟩
      · exact ⟨.nil, e⟩
      · have hs := (h.sz i h2 (by omega)).1
        have hp := h.pos i h2 (by omega)
        have e : A.sz i = (A.nd i).size := by unfold AM.sz; rw [if_pos h2]
        have hk := fun c hc => h.kid i h2 (by omega) c hc
        have hn : ∀ c, (c = 0 ∨ (1 ≤ c ∧ A.s.ok c = true)) → 0 ≤ A.sz c := fun c hc => by
          rcases hc with e | ⟨c1, c2⟩
          · subst e; unfold AM.sz; rw [h.s.u0]; exact Int.le_refl _
          · have := h.pos c c2 (by omega); unfold AM.sz; rw [if_pos c2]; omega
        have hl := hn _ (hk _ (.inl rfl))
        have hr := hn _ (hk _ (.inr rfl))
        obtain ⟨l, il⟩ := ih (m - 1) (by omega) _ (hk _ (.inl rfl)) (by omega)
        obtain ⟨r, ir⟩ := ih (m - 1) (by omega) _ (hk _ (.inr rfl)) (by omega)
        exact ⟨.node l _ _ r, h1, h2, rfl, rfl, il, ir⟩
/-- the trees at these roots are kept -/
def Kp (A B : AM) (R : List Int) : Prop := ∀ r ∈ R, ∀ t, Is A t r → Is B t r
theorem Kp.refl (A : AM) (R : List Int) : Kp A A R := fun _ _ _ h => h
theorem Kp.trans {A B C : AM} {R : List Int} (h : Kp A B R) (k : Kp B C R) : Kp A C R := fun r hr t ht => k r hr t (h r hr t ht)
theorem Kp.sub {A B : AM} {R R' : List Int} (h : Kp A B R) (hs : ∀ r ∈ R', r ∈ R) : Kp A B R' := fun r hr t ht => h r (hs r hr) t ht
theorem Kp.cons {A B : AM} {R : List Int} {x : Int} (h : Kp A B (x :: R)) : Kp A B R := h.sub fun _ hr => List.mem_cons_of_mem _ hr
/-- what stays allocated has its node -/
theorem Is.mono {A B : AM} {RB : List Int} (hB : ARf B RB) (h : ∀ j, 0 ≤ j → B.s.ok j = true → B.nd j = A.nd j) : ∀ (t : Tr) (i : Int), Is A t i → (i = 0 ∨ B.s.ok i = true) → Is B t i
  | .nil, _, hi, _ => hi
  | .node l k v r, i, ⟨h1, h2, h3, h4, h5, h6⟩, hb => by
    have hb : B.s.ok i = true := hb.resolve_left (by omega)
    have hk := fun c hc => hB.kid i hb (by omega) c hc
    have e := h i (by omega) hb
    refine ⟨h1, hb, by rw [e]; exact h3, by rw [e]; exact h4, ?_, ?_⟩
    · rw [e]; exact Is.mono hB h l _ h5 ((hk _ (.inl (by rw [e]))).imp id (·.2))
    · rw [e]; exact Is.mono hB h r _ h6 ((hk _ (.inr (by rw [e]))).imp id (·.2))
theorem Is.up {A B : AM} (h : ∀ j, 1 ≤ j → A.s.ok j = true → B.s.ok j = true ∧ B.nd j = A.nd j) : ∀ (t : Tr) (i : Int), Is A t i → Is B t i
  | .nil, _, hi => hi
  | .node l k v r, i, ⟨h1, h2, h3, h4, h5, h6⟩ => by
    obtain ⟨hb, e⟩ := h i h1 h2
    refine ⟨h1, hb, by rw [e]; exact h3, by rw [e]; exact h4, ?_, ?_⟩
    · rw [e]; exact Is.up h l _ h5
    · rw [e]; exact Is.up h r _ h6
/-- what an operation on trees did: result i with tree t; c nodes were made at most -/
structure TOp (A B : AM) (R : List Int) (i : Int) (t : Tr) (c : Nat) : Prop where
  ref : ARf B (i :: R)
  is : Is B t i
  kp : Kp A B R
  fr : A.s.free ≤ B.s.free + c
  cap : B.s.used.length = A.s.used.length
theorem TOp.rng {A B : AM} {R : List Int} {i : Int} {t : Tr} {c : Nat} (h : TOp A B R i t c) : 0 ≤ i ∧ i < 4294967296 := ⟨(h.ref.rng (List.mem_cons_self ..)).1, (h.ref.rng (List.mem_cons_self ..)).2.1⟩
theorem ARf.refl {A : AM} {R : List Int} {i : Int} {t : Tr} (h : ARf A (i :: R)) (hi : Is A t i) : TOp A A R i t 0 := ⟨h, hi, Kp.refl _ _, by omega, rfl⟩
theorem TOp.trans {A B C : AM} {R R' : List Int} {i j : Int} {t u : Tr} {c d : Nat} (h : TOp A B R' i t c) (k : TOp B C R j u d) (hs : ∀ r ∈ R, r ∈ R') : TOp A C R j u (c + d) :=
  ⟨k.ref, k.is, (h.kp.sub hs).trans k.kp, by have := h.fr; have := k.fr; omega, k.cap.trans h.cap⟩
theorem TOp.weak {A B : AM} {R : List Int} {i : Int} {t : Tr} {c d : Nat} (h : TOp A B R i t c) (hd : c ≤ d) : TOp A B R i t d := ⟨h.ref, h.is, h.kp, by have := h.fr; omega, h.cap⟩
theorem AM.ret_eq {A : AM} {R : List Int} (h : ARf A R) {i : Int} (hi : i = 0 ∨ (1 ≤ i ∧ A.s.ok i = true)) (hl : R.length + 1 ≤ 1000000000) : ARf (A.ret i) (i :: R) ∧ A.retE i = 0 := by
  unfold AM.ret AM.retE
  rcases hi with e | ⟨h1, h2⟩
  · subst e; rw [if_neg (fun h => h.1 rfl), if_pos (.inl rfl)]; exact ⟨h.cons0 hl, rfl⟩
  · rw [if_pos ⟨by omega, h2⟩, if_pos (.inr h2)]; exact ⟨h.inc h2 (by omega) hl, rfl⟩
theorem Is.same {A B : AM} (hs : B.s = A.s) (hn : B.nodes = A.nodes) : ∀ (t : Tr) (i : Int), Is A t i → Is B t i := by
  refine fun t i h => Is.up (fun j _ hj => ⟨by rw [hs]; exact hj, ?_⟩) t i h
  unfold AM.nd; rw [hn]
theorem AM.ret_same (A : AM) (i : Int) : (A.ret i).s = A.s ∧ (A.ret i).nodes = A.nodes := by
  unfold AM.ret
  split <;> exact ⟨rfl, rfl⟩
theorem Is.ret {A : AM} {t : Tr} {j : Int} (i : Int) (h : Is A t j) : Is (A.ret i) t j := Is.same (A.ret_same i).1 (A.ret_same i).2 t j h
theorem Kp.ret (A : AM) (i : Int) (R : List Int) : Kp A (A.ret i) R := fun _ _ _ h => h.ret i
end Go.V

/-! ## Tw -/
namespace Go.V
open Go Go.RowKit

theorem AM.make_keep {A : AM} {n : Nd} (h : AWf A) (hf : 0 < A.s.free) : (∀ j, 1 ≤ j → A.s.ok j = true → (A.make n).s.ok j = true ∧ (A.make n).nd j = A.nd j) ∧ (A.make n).s.ok A.s.next = true ∧ (A.make n).nd A.s.next = n ∧ (A.make n).s.free = A.s.free - 1 ∧ (A.make n).s.used.length = A.s.used.length := by
  have hn := SM.next_rng h.s hf
  have hnl : A.s.next.toNat < A.nodes.length := by rw [h.nl]; exact hn.2.2.1
  have hok : ∀ j, 0 ≤ j → (A.make n).s.ok j = if j = A.s.next then true else A.s.ok j := fun j hj => SM.alloc_ok' h.s hf hj
  have hnd : ∀ j, 0 ≤ j → (A.make n).nd j = if j = A.s.next then n else A.nd j := fun j hj => AM.nd_set hnl (by omega) hj
  refine ⟨fun j hj ho => ?_, by rw [hok _ (by omega), if_pos rfl], by rw [hnd _ (by omega), if_pos rfl], SM.alloc_free _, ?_⟩
  · have hne : j ≠ A.s.next := fun e => by rw [e, hn.2.2.2] at ho; cases ho
    rw [hok j (by omega), hnd j (by omega), if_neg hne, if_neg hne]; exact ⟨ho, rfl⟩
  · show (A.s.used.set _ _).length = _
    rw [List.length_set]
/-- a node made out of two trees -/
structure Mk (A : AM) (R : List Int) (l r : Int) (tl tr : Tr) (k v : Int) : Prop where
  kd : Kd A l r
  rf : ARf (A.make (A.nodeOf k v l r)) (A.s.next :: l :: r :: R)
  is : Is (A.make (A.nodeOf k v l r)) (.node tl k v tr) A.s.next
  kp : Kp A (A.make (A.nodeOf k v l r)) (l :: r :: R)
  fr : (A.make (A.nodeOf k v l r)).s.free = A.s.free - 1
  cap : (A.make (A.nodeOf k v l r)).s.used.length = A.s.used.length
theorem Mk.of {A : AM} {R : List Int} {l r : Int} {tl tr : Tr} {k v : Int} (hA : ARf A (l :: r :: R)) (hl : Is A tl l) (hr : Is A tr r) (hf : 0 < A.s.free) (hz : tl.n + tr.n ≤ 2000000000) (hlen : R.length + 4 ≤ 1000000000) : Mk A R l r tl tr k v := by
  have hn := SM.next_rng hA.s hf
  have e1 := Is.sz hA tl l hl
  have e2 := Is.sz hA tr r hr
  have kd : Kd A l r := ⟨hl.ref, hr.ref, by omega, by omega, by omega⟩
  have hnl := accN_lf A l r (ndBase k v l r) 2
  have hlf : (A.nodeOf k v l r).lf = l := hnl.1
  have hrg : (A.nodeOf k v l r).rg = r := hnl.2.1
  have hky : (A.nodeOf k v l r).key = k := hnl.2.2.1
  have hvl : (A.nodeOf k v l r).val = v := hnl.2.2.2
  have hsz := nodeOf_sz hA.toAWf (key := k) (val := v) kd
  obtain ⟨k1, k2, k3, k4, k5⟩ := AM.make_keep (n := A.nodeOf k v l r) hA.toAWf hf
  have rf := hA.make (n := A.nodeOf k v l r) hf (by rw [hlf]; exact hl.ref) (by rw [hrg]; exact hr.ref) (by rw [hlf, hrg]; omega) (by omega) (by simp; omega)
  refine ⟨kd, rf, ⟨hn.1, k2, by rw [k3]; exact hky, by rw [k3]; exact hvl, ?_, ?_⟩, fun x _ t ht => Is.up k1 t x ht, k4, k5⟩
  · rw [k3, hlf]; exact Is.up k1 tl l hl
  · rw [k3, hrg]; exact Is.up k1 tr r hr
/-- a reference given up -/
structure Rl (A B : AM) (R : List Int) : Prop where
  ref : ARf B R
  kp : Kp A B R
  fr : A.s.free ≤ B.s.free
  cap : B.s.used.length = A.s.used.length
theorem Mk.op {A B C : AM} {R : List Int} {l r : Int} {tl tr : Tr} {k v : Int} (h : Mk A R l r tl tr k v) (h1 : Rl (A.make (A.nodeOf k v l r)) B (A.s.next :: r :: R)) (h2 : Rl B C (A.s.next :: R)) : TOp A C R A.s.next (.node tl k v tr) 1 :=
  ⟨h2.ref, h2.kp _ (List.mem_cons_self ..) _ (h1.kp _ (List.mem_cons_self ..) _ h.is),
    fun x hx t ht => h2.kp x (List.mem_cons_of_mem _ hx) t (h1.kp x (List.mem_cons_of_mem _ (List.mem_cons_of_mem _ hx)) t (h.kp x (List.mem_cons_of_mem _ (List.mem_cons_of_mem _ hx)) t ht)),
    by have := h.fr; have := h1.fr; have := h2.fr; omega, by rw [h2.cap, h1.cap, h.cap]⟩
theorem Mk.p1 {A : AM} {R : List Int} {l r : Int} {tl tr : Tr} {k v : Int} (h : Mk A R l r tl tr k v) : ARf (A.make (A.nodeOf k v l r)) (l :: A.s.next :: r :: R) := h.rf.perm (List.Perm.swap _ _ _)
theorem Rl.p1 {A B : AM} {R : List Int} {x r : Int} (h : Rl A B (x :: r :: R)) : ARf B (r :: x :: R) := h.ref.perm (List.Perm.swap _ _ _)
/-- a node taken apart -/
structure Opn (A B : AM) (R : List Int) (x y : Int) (l r : Tr) : Prop where
  ref : ARf B (x :: y :: R)
  il : Is B l x
  ir : Is B r y
  kp : Kp A B R
  fr : A.s.free ≤ B.s.free
  cap : B.s.used.length = A.s.used.length
theorem Opn.rng {A B : AM} {R : List Int} {x y : Int} {l r : Tr} (h : Opn A B R x y l r) : (0 ≤ x ∧ x < 4294967296) ∧ 0 ≤ y ∧ y < 4294967296 := by
  have h1 := h.ref.rng (r := x) (by simp)
  have h2 := h.ref.rng (r := y) (by simp)
  omega
theorem Opn.of {A B : AM} {R : List Int} {i k v : Int} {l r : Tr} (hi : Is A (.node l k v r) i) (h : Rl ((A.ret (A.nd i).lf).ret (A.nd i).rg) B ((A.nd i).lf :: (A.nd i).rg :: R)) : Opn A B R (A.nd i).lf (A.nd i).rg l r :=
  ⟨h.ref, h.kp _ (by simp) _ ((hi.2.2.2.2.1.ret _).ret _), h.kp _ (by simp) _ ((hi.2.2.2.2.2.ret _).ret _), fun x hx t ht => h.kp x (by simp [hx]) t ((ht.ret _).ret _),
    by have := h.fr; rw [(AM.ret_same _ _).1, (AM.ret_same _ _).1] at this; exact this, by rw [h.cap, (AM.ret_same _ _).1, (AM.ret_same _ _).1]⟩
theorem Opn.swap {A B : AM} {R : List Int} {x y : Int} {l r : Tr} (h : Opn A B R x y l r) : ARf B (y :: x :: R) := h.ref.perm (List.Perm.swap _ _ _)
/-! ### steps one after the other -/
structure Ch (A B : AM) (R : List Int) (c : Nat) : Prop where
  kp : Kp A B R
  fr : A.s.free ≤ B.s.free + c
  cap : B.s.used.length = A.s.used.length
theorem Ch.trans {A B C : AM} {R R' R'' : List Int} {c d : Nat} (h : Ch A B R' c) (k : Ch B C R'' d) (h1 : ∀ r ∈ R, r ∈ R') (h2 : ∀ r ∈ R, r ∈ R'') : Ch A C R (c + d) :=
  ⟨(h.kp.sub h1).trans (k.kp.sub h2), by have := h.fr; have := k.fr; omega, k.cap.trans h.cap⟩
theorem Opn.ch {A B : AM} {R : List Int} {x y : Int} {l r : Tr} (h : Opn A B R x y l r) : Ch A B R 0 := ⟨h.kp, by have := h.fr; omega, h.cap⟩
theorem TOp.ch {A B : AM} {R : List Int} {i : Int} {t : Tr} {c : Nat} (h : TOp A B R i t c) : Ch A B R c := ⟨h.kp, h.fr, h.cap⟩
theorem Rl.ch {A B : AM} {R : List Int} (h : Rl A B R) : Ch A B R 0 := ⟨h.kp, by have := h.fr; omega, h.cap⟩
theorem TOp.after {A B C : AM} {R R' : List Int} {i : Int} {t : Tr} {c d e : Nat} (k : TOp B C R i t d) (h : Ch A B R' c) (h1 : ∀ r ∈ R, r ∈ R') (he : c + d ≤ e) : TOp A C R i t e :=
  let q := h.trans k.ch h1 (fun _ h => h)
  ⟨k.ref, k.is, q.kp, by have := q.fr; omega, q.cap⟩
theorem ARf.sw {A : AM} {R : List Int} {a b : Int} (h : ARf A (a :: b :: R)) : ARf A (b :: a :: R) := h.perm (List.Perm.swap _ _ _)
theorem ARf.r3 {A : AM} {R : List Int} {a b c : Int} (h : ARf A (a :: b :: c :: R)) : ARf A (c :: a :: b :: R) := h.perm ((List.Perm.cons a (List.Perm.swap c b R)).trans (List.Perm.swap c a _))
theorem ARf.r4 {A : AM} {R : List Int} {a b c d : Int} (h : ARf A (a :: b :: c :: d :: R)) : ARf A (d :: a :: b :: c :: R) := h.perm ((List.Perm.cons a ((List.Perm.cons b (List.Perm.swap d c R)).trans (List.Perm.swap d b _))).trans (List.Perm.swap d a _))
theorem sb1 {a : Int} {R : List Int} : ∀ r ∈ R, r ∈ a :: R := fun _ h => List.mem_cons_of_mem _ h
theorem sb2 {a b : Int} {R : List Int} : ∀ r ∈ R, r ∈ a :: b :: R := fun _ h => List.mem_cons_of_mem _ (List.mem_cons_of_mem _ h)
theorem sb3 {a b c : Int} {R : List Int} : ∀ r ∈ R, r ∈ a :: b :: c :: R := fun _ h => List.mem_cons_of_mem _ (List.mem_cons_of_mem _ (List.mem_cons_of_mem _ h))
theorem sb0 {R : List Int} : ∀ r ∈ R, r ∈ R := fun _ h => h
end Go.V

/-! ## Ix -/
namespace Go.V
open Go Go.RowKit

/-- the slots of a tree, in the order of the keys -/
def ixs (A : AM) : Tr → Int → List Int
  | .nil, _ => []
  | .node l _ _ r, i => ixs A l (A.nd i).lf ++ i :: ixs A r (A.nd i).rg
theorem ixs_keys (A : AM) : ∀ (t : Tr) (i : Int), Is A t i → (ixs A t i).map (fun j => ((A.nd j).key, (A.nd j).val)) = t.ls
  | .nil, _, _ => rfl
  | .node l k v r, i, ⟨_, _, h3, h4, h5, h6⟩ => by
    unfold ixs Tr.ls
    rw [List.map_append, List.map_cons, ixs_keys A l _ h5, ixs_keys A r _ h6, h3, h4]
theorem ixs_len (A : AM) {t : Tr} {i : Int} (h : Is A t i) : (ixs A t i).length = t.n := by
  rw [← Tr.ls_len, ← ixs_keys A t i h, List.length_map]
theorem ixs_nodup {A : AM} {t : Tr} {i : Int} (h : Is A t i) (hs : Srt t.ls) : (ixs A t i).Nodup := by
  have h1 := ixs_keys A t i h
  rw [← h1] at hs
  have h2 := List.pairwise_map.1 hs
  exact h2.imp fun {a b} hab e => by subst e; exact absurd hab (by omega)
theorem ixs_ok (A : AM) : ∀ (t : Tr) (i : Int), Is A t i → ∀ j ∈ ixs A t i, 1 ≤ j ∧ A.s.ok j = true
  | .nil, _, _, _, hj => by cases hj
  | .node l k v r, i, ⟨h1, h2, _, _, h5, h6⟩, j, hj => by
    unfold ixs at hj
    rcases List.mem_append.1 hj with hj | hj
    · exact ixs_ok A l _ h5 j hj
    · rcases List.mem_cons.1 hj with rfl | hj
      · exact ⟨h1, h2⟩
      · exact ixs_ok A r _ h6 j hj
theorem ixs_root {A : AM} : ∀ {t : Tr} {i : Int}, Is A t i → i ≠ 0 → i ∈ ixs A t i
  | .nil, _, h, hne => absurd h hne
  | .node _ _ _ _, _, _, _ => by unfold ixs; simp
theorem ixs_kid {A : AM} : ∀ (t : Tr) (i : Int), Is A t i → ∀ j ∈ ixs A t i, ∀ c, c = (A.nd j).lf ∨ c = (A.nd j).rg → c ≠ 0 → c ∈ ixs A t i
  | .nil, _, _, _, hj, _, _, _ => by cases hj
  | .node l k v r, i, ⟨h1, h2, _, _, h5, h6⟩, j, hj, c, hc, hne => by
    unfold ixs at hj ⊢
    rcases List.mem_append.1 hj with hj | hj
    · exact List.mem_append_left _ (ixs_kid l _ h5 j hj c hc hne)
    · rcases List.mem_cons.1 hj with rfl | hj
      · rcases hc with rfl | rfl
        · exact List.mem_append_left _ (ixs_root h5 hne)
        · exact List.mem_append_right _ (List.mem_cons_of_mem _ (ixs_root h6 hne))
      · exact List.mem_append_right _ (List.mem_cons_of_mem _ (ixs_kid r _ h6 j hj c hc hne))
/-- what is allocated can be reached -/
theorem reach {A : AM} {R : List Int} (h : ARf A R) (S : Int → Prop) (hR : ∀ r ∈ R, r ≠ 0 → S r) (hK : ∀ j, 1 ≤ j → A.s.ok j = true → S j → ∀ c, c = (A.nd j).lf ∨ c = (A.nd j).rg → c ≠ 0 → S c) : ∀ j, 1 ≤ j → A.s.ok j = true → S j := by
  have key : ∀ (m : Nat) (j : Int), 1 ≤ j → A.s.ok j = true → 2147483647 - (A.nd j).size < m → S j := by
    intro m
    induction m with
    | zero => intro j h1 h2 h3; have := (h.sz j h2 (by omega)).2; omega
    | succ m ih =>
      intro j h1 h2 h3
      have hc := h.cnt j h2 (by omega)
      have hm : j ∈ R ++ A.kids := List.count_pos_iff.1 (by omega)
      rcases List.mem_append.1 hm with hm | hm
      · exact hR j hm (by omega)
      · obtain ⟨p, p0, p1, p2⟩ := (A.mem_kids j).1 hm
        have hp1 := (SM.ok_rng h.s p0 p1).1
        have hsz := (h.sz p p1 p0).1
        have hn : ∀ c, (c = 0 ∨ (1 ≤ c ∧ A.s.ok c = true)) → 0 ≤ A.sz c := fun c hc => by
          rcases hc with e | ⟨c1, c2⟩
          · subst e; unfold AM.sz; rw [h.s.u0]; exact Int.le_refl _
          · have := h.pos c c2 (by omega); unfold AM.sz; rw [if_pos c2]; omega
        have hl := hn _ (h.kid p p1 p0 _ (.inl rfl))
        have hr := hn _ (h.kid p p1 p0 _ (.inr rfl))
        have hsj : A.sz j = (A.nd j).size := by unfold AM.sz; rw [if_pos h2]
        have hlt : (A.nd j).size < (A.nd p).size := by
          rcases p2 with e | e
          · rw [← hsj, e]; omega
          · rw [← hsj, e]; omega
        exact hK p hp1 p1 (ih p hp1 p1 (by omega)) j p2 (by omega)
  intro j h1 h2
  exact key ((2147483647 - (A.nd j).size).toNat + 1) j h1 h2 (by have := (h.sz j h2 (by omega)).2; omega)
/-- an arena with one reference holds its tree and nothing else -/
theorem one_tree {A : AM} {r : Int} {t : Tr} (h : ARf A [r]) (hi : Is A t r) (hs : Srt t.ls) : A.s.cap - A.s.free = t.n := by
  have h1 := AM.cnt_live h.s
  have hp : A.live.Perm (ixs A t r) := (List.perm_ext_iff_of_nodup A.live_nodup (ixs_nodup hi hs)).2 fun j => by
    rw [A.mem_live]
    constructor
    · rintro ⟨h0, h2⟩
      have h3 := (SM.ok_rng h.s h0 h2).1
      refine reach h (fun j => j ∈ ixs A t r) (fun x hx hne => ?_) (fun j _ _ hj c hc hne => ixs_kid t r hi j hj c hc hne) j h3 h2
      rw [List.mem_singleton.1 hx] at hne ⊢
      exact ixs_root hi hne
    · intro hj
      have := ixs_ok A t r hi j hj
      exact ⟨by omega, this.2⟩
  have h2 := hp.length_eq
  rw [ixs_len A hi] at h2
  omega
end Go.V
