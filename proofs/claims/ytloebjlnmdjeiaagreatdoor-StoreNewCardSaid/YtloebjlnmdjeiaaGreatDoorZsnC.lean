/-
  What the proof of Jsn stands on, part 3.
  Conditions: none.
-/
import Derived.Test.YtloebjlnmdjeiaaGreatDoorZsnB
/-! ## Tra -/
namespace Go.V
open Go Go.RowKit
def ExB {α : Type} (f : α → List HP) : HP := ⟨fun o r => ∃ x, All (f x) o r, fun _ _ _ _ ho hr ⟨x, h⟩ => ⟨x, All.mono (f x) ho hr h⟩⟩
section
variable {α : Type} {g w : World} {L : List HP}
theorem St.exOpen {f : α → List HP} (h : St g (ExB f :: L) w) : ∃ x, St g (f x ++ L) w := by
  obtain ⟨o, r, a, b, c, d, o1, o2, h1, h2, hd, ⟨x, hh⟩, hL⟩ := h.own
  exact ⟨x, h.os, h.tape, h.output, h.size, o, r, a, b, c, d, All.cat (f x) L h1 h2 hd hh hL⟩
theorem St.exClose {f : α → List HP} (x : α) (h : St g (f x ++ L) w) : St g (ExB f :: L) w := by
  obtain ⟨o, r, a, b, c, d, e⟩ := h.own
  obtain ⟨o1, o2, h1, h2, hd, hM, hL⟩ := All.app (f x) L e
  exact ⟨h.os, h.tape, h.output, h.size, o, r, a, b, c, d, o1, o2, h1, h2, hd, ⟨x, hM⟩, hL⟩
end
def u32s (l : List Int) : List (List Value) := l.map fun x => [.int .u32 x]
@[simp] theorem u32s_len (l : List Int) : (u32s l).length = l.length := by simp [u32s]
theorem u32s_at {l : List Int} {k : Nat} {x : Int} (h : l[k]? = some x) : (u32s l)[k]? = some [.int .u32 x] := by simp [u32s, h]
theorem u32s_app (l m : List Int) : u32s (l ++ m) = u32s l ++ u32s m := by simp [u32s]
theorem u32s_take (l : List Int) (k : Nat) : (u32s l).take k = u32s (l.take k) := by simp [u32s]
theorem u32s_set (l : List Int) (k : Nat) (x : Int) : (u32s l).set k [.int .u32 x] = u32s (l.set k x) := by simp [u32s, List.map_set]
theorem u32s_rep (n : Nat) : List.replicate n [.int .u32 0] = u32s (List.replicate n 0) := by simp [u32s]
theorem u32s_ok (l : List Int) : OkE 1 (u32s l) := fun x hx => by
  obtain ⟨y, _, rfl⟩ := List.mem_map.1 hx
  exact ⟨rfl, fun u hu => by simp at hu; rcases hu with rfl <;> rfl⟩
def bos (l : List Bool) : List (List Value) := l.map fun x => [.bool x]
@[simp] theorem bos_len (l : List Bool) : (bos l).length = l.length := by simp [bos]
theorem bos_at {l : List Bool} {k : Nat} {x : Bool} (h : l[k]? = some x) : (bos l)[k]? = some [.bool x] := by simp [bos, h]
theorem bos_set (l : List Bool) (k : Nat) (x : Bool) : (bos l).set k [.bool x] = bos (l.set k x) := by simp [bos, List.map_set]
theorem bos_rep (n : Nat) : List.replicate n [.bool false] = bos (List.replicate n false) := by simp [bos]
theorem i64s_rep (n : Nat) : List.replicate n [.int .i64 0] = i64s (List.replicate n 0) := by simp [i64s]
structure Nd where
  key : Int
  val : Int
  lf : Int
  rg : Int
  size : Int
  sum : Int
  mn : Int
  mx : Int
def Nd.zero : Nd := ⟨0, 0, 0, 0, 0, 0, 0, 0⟩
def ndC (n : Nd) : List Value := [.int .i64 n.key, .int .i64 n.val, .int .u32 n.lf, .int .u32 n.rg, .int .i64 n.size, .int .i64 n.sum, .int .i64 n.mn, .int .i64 n.mx]
def nds (l : List Nd) : List (List Value) := l.map ndC
@[simp] theorem nds_len (l : List Nd) : (nds l).length = l.length := by simp [nds]
theorem nds_at {l : List Nd} {k : Nat} {n : Nd} (h : l[k]? = some n) : (nds l)[k]? = some [.int .i64 n.key, .int .i64 n.val, .int .u32 n.lf, .int .u32 n.rg, .int .i64 n.size, .int .i64 n.sum, .int .i64 n.mn, .int .i64 n.mx] := by simp [nds, h, ndC]
theorem nds_set (l : List Nd) (k : Nat) (n : Nd) : (nds l).set k [.int .i64 n.key, .int .i64 n.val, .int .u32 n.lf, .int .u32 n.rg, .int .i64 n.size, .int .i64 n.sum, .int .i64 n.mn, .int .i64 n.mx] = nds (l.set k n) := by simp [nds, ndC, List.map_set]
theorem nds_rep (n : Nat) : List.replicate n [.int .i64 0, .int .i64 0, .int .u32 0, .int .u32 0, .int .i64 0, .int .i64 0, .int .i64 0, .int .i64 0] = nds (List.replicate n Nd.zero) := by simp [nds, ndC, Nd.zero]
end Go.V
namespace Go.V
open Go Go.RowKit
theorem flat_split : ∀ (ls : List (List Value)) (size : Nat), (∀ x ∈ ls, x.length = size) → ∀ (k : Nat) (vs : List Value), k < ls.length → vs.length = size → (ls.set k vs).flatten = ls.flatten.take (k * size) ++ vs ++ ls.flatten.drop (k * size + size)
  | [], _, _, k, _, h, _ => by simp at h
  | x :: r, size, hs, 0, vs, _, hv => by
    have hx := hs x (List.mem_cons_self ..)
    subst hx
    simp
  | x :: r, size, hs, k + 1, vs, h, hv => by
    have hx := hs x (List.mem_cons_self ..)
    have ih := flat_split r size (fun y hy => hs y (List.mem_cons_of_mem _ hy)) k vs (by simpa using h) hv
    rw [List.set_cons_succ, List.flatten_cons, ih, List.flatten_cons, Nat.succ_mul]
    rw [List.take_append, List.drop_append, hx]
    rw [show k * size + size - size = k * size by omega, show k * size + size + size - size = k * size + size by omega]
    rw [List.take_of_length_le (l := x) (by omega), List.drop_of_length_le (l := x) (by omega)]
    simp
theorem take_spl {cur vs : List Value} {off n : Nat} (h1 : off + vs.length ≤ n) (h2 : n ≤ cur.length) : (cur.take off ++ vs ++ cur.drop (off + vs.length)).take n = (cur.take n).take off ++ vs ++ (cur.take n).drop (off + vs.length) := by
  rw [List.take_append, List.take_append, List.length_append, List.length_take, List.take_take, List.take_take, List.drop_take]
  rw [show min off cur.length = off by omega, show min n off = off by omega, show min off n = off by omega]
  rw [List.take_of_length_le (l := vs) (by omega)]
section
variable {P : Program} {T : Tab} [hT : TabOk P T] {n : Nat} {os l : List Oper} {K : Kt} {F : Fm} {w g : World} {L : List HP} {e size c : Nat} {ls : List (List Value)} {a : Option Addr}
theorem St.setS {k b : Nat} {cs vs : List Value} {cur : Array Value} (h : St g (Own e size ls (some ⟨b, 0, none⟩) c :: L) w) (hk : ls[k]? = some cs) (hh : w.heap[b]? = some (.cells cur e (0, 0))) (hl : vs.length = size) (hv : ∀ u ∈ vs, u.oneCell' = true) :
    k * size + size ≤ cur.size ∧ St g (Own e size (ls.set k vs) (some ⟨b, 0, none⟩) c :: L) (w.setRow b (spl cur (k * size) vs)) := by
  have hkl : k < ls.length := (List.getElem?_eq_some_iff.1 hk).1
  have hsz : k * size + size ≤ cur.size := by
    obtain ⟨o1, r, hA, ho, hr⟩ := h.get 0 rfl
    obtain ⟨hok, hA⟩ := hA
    rcases hA with ⟨_, _, h3⟩ | ⟨b', cur', hb, h2, h3, h4, h5, h6⟩
    · subst h3; simp at hkl
    · cases hb
      have := ho _ _ h2
      rw [hh] at this; cases this
      rw [h5]
      calc k * size + size = (k + 1) * size := by rw [Nat.succ_mul]
        _ ≤ c * size := Nat.mul_le_mul_right _ (by omega)
  refine ⟨hsz, h.upd rfl rfl rfl (by simp [World.setRow]) fun o1 r hA hw _ _ => ?_⟩
  obtain ⟨hok, hA⟩ := hA
  rcases hA with ⟨_, _, h3⟩ | ⟨b', cur', hb, h2, h3, h4, h5, h6⟩
  · subst h3; simp at hkl
  · cases hb
    have := hw _ _ h2
    rw [hh] at this; cases this
    have hok' : OkE size (ls.set k vs) := fun x hx => by
      rcases List.mem_or_eq_of_mem_set hx with hx | rfl
      · exact hok x hx
      · exact ⟨hl, hv⟩
    have hlt : ls.length * size ≤ cur.size := by rw [h5]; exact Nat.mul_le_mul_right _ h3
    have hkn : k * size + size ≤ ls.length * size := by
      calc k * size + size = (k + 1) * size := by rw [Nat.succ_mul]
        _ ≤ ls.length * size := Nat.mul_le_mul_right _ (by omega)
    refine ⟨fun q => if q = b then some (.cells (spl cur (k * size) vs) e (0, 0)) else none, ⟨hok', .inr ⟨b, spl cur (k * size) vs, rfl, by simp, by simpa using h3, h4, ?_, ?_⟩⟩, fun q x hx => ?_, fun q hq => ?_, fun q hq hn => ?_⟩
    · rw [← h5]; unfold spl; simp; omega
    · rw [List.length_set]
      show (cur.toList.take (k * size) ++ vs ++ cur.toList.drop (k * size + vs.length)).take (ls.length * size) = _
      rw [take_spl (by omega) (by simpa using hlt), h6, flat_split ls size hok.len k vs hkl hl, hl]
    · simp only at hx
      split at hx
      · rename_i hq; subst hq; simp only [Option.some.injEq] at hx; subst hx
        exact setRow_heap w _ cur _ e _ (hw _ _ h2)
      · cases hx
    · simp only [ne_eq, ite_eq_right_iff, reduceCtorEq, imp_false, Classical.not_not] at hq
      subst hq
      exact .inl (by rw [h2]; simp)
    · refine setRow_other w b q _ fun eq => ?_
      have : o1 q = some (.cells cur e (0, 0)) := by rw [eq]; exact h2
      rw [hn] at this; cases this
theorem WL.stS {o : Oper} {t : TypeId} {x y : Operand} {vs : Array Value} (hg : o.guard = none) (hd : o.dst = none) (ho : o.op = .store t x y) (i k : Nat) (cs : List Value) (ls' : List (List Value)) (hS : St g L w) (hi : L[i]? = some (Own e size ls a c)) (hks : ls[k]? = some cs) (hx : ev F x = .pointer (some ⟨bo a, oo a + k * size, none⟩)) (hv : ev F y = .agg vs)
    (h1 : vs.toList.all (·.oneCell') = true) (hl : vs.size = size) (ht : AggT P t vs.size) (hls : ls.set k vs.toList = ls') (hk : ∀ w', St g (L.set i (Own e size ls' a c)) w' → WL P n os l K F w') : WL P n os (o :: l) K F w := by
  subst hls
  obtain ⟨b, cur, rfl, hh, _⟩ := hS.ownRow i hi hks
  have hall : ∀ u ∈ vs.toList, u.oneCell' = true := fun u hu => List.all_eq_true.1 h1 u hu
  obtain ⟨hsz, hS1⟩ := (hS.at_ i hi).setS hks hh (by simpa using hl) hall
  have hS' := hS1.back i hi
  refine WL.unit hg hd (fun hok => ?_) (hk _ hS')
  have e1 := okX_at (F := F) hok (x := x) (by simp [ho, Op.operands])
  have e2 := okX_at (F := F) hok (x := y) (by simp [ho, Op.operands])
  simp only [bo, oo, Nat.zero_add] at hx
  have hst := run_storeVar (P := P) (t := t) (off := k * size) (v := .agg vs) ht.2.2 hh hall (by show k * size + vs.size ≤ _; omega)
  rw [show (Value.agg vs).cells.toList = vs.toList from rfl] at hst
  simp only [execOp, ho, e1, e2, hx, hv, Instr.storeAt, Instr.sureAddr, Sem.run_bind, Sem.run_pure, Result.andThen_ok, hst]
end
end Go.V
namespace Go.V
open Go Go.RowKit
structure SM where
  used : List Bool
  gen : List Int
  rel : List Int
  fresh : Int
def SM.cap (S : SM) : Int := (S.used.length : Int) - 1
def SM.free (S : SM) : Int := (S.rel.length : Int) + S.cap - S.fresh
def SM.next (S : SM) : Int := match S.rel.getLast? with
  | some i => i
  | none => S.fresh + 1
def SM.genOf (S : SM) (i : Int) : Int := (S.gen[i.toNat]?).getD 0
def SM.alloc (S : SM) : SM := ⟨S.used.set S.next.toNat true, S.gen.set S.next.toNat ((S.genOf S.next + 1) % 4294967296), S.rel.dropLast, if S.rel = [] then S.fresh + 1 else S.fresh⟩
def SM.ok (S : SM) (i : Int) : Bool := (S.used[i.toNat]?).getD false
def SM.release (S : SM) (i : Int) : SM := ⟨S.used.set i.toNat false, S.gen, S.rel ++ [i], S.fresh⟩
def SM.new (cap : Nat) : SM := ⟨List.replicate (cap + 1) false, List.replicate (cap + 1) 0, [], 0⟩
structure SOk (S : SM) : Prop where
  cap : 2 ≤ S.used.length ∧ S.used.length ≤ 65537
  gl : S.gen.length = S.used.length
  fr : 0 ≤ S.fresh ∧ S.fresh ≤ S.cap
  rm : ∀ i ∈ S.rel, 1 ≤ i ∧ i ≤ S.fresh ∧ S.ok i = false
  nd : S.rel.Nodup
  u0 : S.ok 0 = false
  hi : ∀ i : Int, S.fresh < i → S.ok i = false
  cov : ∀ i : Int, 1 ≤ i → i ≤ S.fresh → S.ok i = false → i ∈ S.rel
  gr : ∀ x ∈ S.gen, 0 ≤ x ∧ x < 4294967296
theorem SOk.le {S : SM} (h : SOk S) : S.used.length ≤ 65537 := h.cap.2
theorem SOk.gle {S : SM} (h : SOk S) : S.gen.length ≤ 65537 := by rw [h.gl]; exact h.cap.2
theorem nodup_bnd : ∀ (n : Nat) (l : List Int), l.Nodup → (∀ i ∈ l, 1 ≤ i ∧ i ≤ (n : Int)) → l.length ≤ n
  | 0, l, _, h => by
    cases l with
    | nil => exact Nat.le_refl _
    | cons x t => have := h x (List.mem_cons_self ..); omega
  | n + 1, l, hd, h => by
    have h1 : (l.erase ((n : Int) + 1)).length ≤ n := nodup_bnd n _ (hd.erase _) fun i hi => by
      have h2 := (hd.mem_erase_iff).1 hi
      have h3 := h i h2.2
      have h4 := h2.1
      omega
    have h2 := List.length_erase (a := (n : Int) + 1) (l := l)
    split at h2 <;> omega
theorem SOk.rle {S : SM} (h : SOk S) : S.rel.length ≤ 65536 := by
  have h1 : S.rel.length ≤ S.used.length - 1 := nodup_bnd _ _ h.nd fun i hi => by
    have h2 := h.rm i hi
    have h3 := h.fr
    have h4 : S.cap = (S.used.length : Int) - 1 := rfl
    have h5 := h.cap
    omega
  have h5 := h.cap
  omega
theorem SM.ok_rng {S : SM} (h : SOk S) {i : Int} (h0 : 0 ≤ i) (hi : S.ok i = true) : 1 ≤ i ∧ i ≤ S.fresh ∧ i ≤ S.cap ∧ i.toNat < S.used.length := by
  have h1 : i ≠ 0 := fun e => by subst e; rw [h.u0] at hi; cases hi
  have h2 : ¬ S.fresh < i := fun e => by rw [h.hi i e] at hi; cases hi
  have h3 := h.fr
  have h4 : S.cap = (S.used.length : Int) - 1 := rfl
  omega
theorem SM.ok_set {S : SM} {i j : Int} {b : Bool} (hi : 0 ≤ i) (hj : 0 ≤ j) (hl : i.toNat < S.used.length) : ((S.used.set i.toNat b)[j.toNat]?).getD false = if j = i then b else S.ok j := by
  rw [List.getElem?_set]
  by_cases h : j = i
  · subst h; rw [if_pos rfl, if_pos hl, if_pos rfl]; rfl
  · rw [if_neg (by omega), if_neg h]; rfl
theorem ok_getD {l : List Bool} {i : Int} : (l[i.toNat]?).getD false = true → i.toNat < l.length := fun h => by
  rcases Nat.lt_or_ge i.toNat l.length with h1 | h1
  · exact h1
  · rw [List.getElem?_eq_none h1] at h; cases h
theorem SM.new_ok {cap : Nat} (h : 1 ≤ cap ∧ cap ≤ 65536) : SOk (SM.new cap) := by
  have hno : ∀ i : Int, (SM.new cap).ok i = false := fun i => by
    unfold SM.ok SM.new
    simp only
    cases hx : (List.replicate (cap + 1) false)[i.toNat]? with
    | none => rfl
    | some b => rw [List.eq_of_mem_replicate (List.mem_of_getElem? hx)]; rfl
  refine ⟨by simp [SM.new]; omega, by simp [SM.new], by simp [SM.new, SM.cap], fun i hi => (by cases hi), List.nodup_nil, hno 0, fun i _ => hno i, fun i h1 h2 => ?_, fun x hx => ?_⟩
  · simp only [SM.new] at h2; omega
  · rw [List.eq_of_mem_replicate hx]; omega
theorem SM.next_some {S : SM} {i : Int} (h : S.rel.getLast? = some i) : S.next = i := by unfold SM.next; rw [h]
theorem SM.next_nil {S : SM} (h : S.rel = []) : S.next = S.fresh + 1 := by unfold SM.next; rw [h]; rfl
theorem SM.next_rng {S : SM} (h : SOk S) (hf : 0 < S.free) : 1 ≤ S.next ∧ S.next ≤ S.cap ∧ S.next.toNat < S.used.length ∧ S.ok S.next = false := by
  have hc : S.cap = (S.used.length : Int) - 1 := rfl
  have hfr := h.fr
  cases hg : S.rel.getLast? with
  | some i =>
    have hm := h.rm i (List.mem_of_getLast? hg)
    rw [SM.next_some hg]
    exact ⟨hm.1, by omega, by omega, hm.2.2⟩
  | none =>
    have hr : S.rel = [] := List.getLast?_eq_none_iff.1 hg
    unfold SM.free at hf
    rw [hr] at hf
    simp only [List.length_nil] at hf
    rw [SM.next_nil hr]
    exact ⟨by omega, by omega, by omega, h.hi _ (by omega)⟩
theorem rel_split {S : SM} (hne : S.rel ≠ []) : S.rel = S.rel.dropLast ++ [S.next] := by
  have h2 : S.next = S.rel.getLast hne := SM.next_some (List.getLast?_eq_some_getLast hne)
  rw [h2]; exact (List.dropLast_concat_getLast hne).symm
theorem SM.alloc_ok' {S : SM} (h : SOk S) (hf : 0 < S.free) {j : Int} (hj : 0 ≤ j) : S.alloc.ok j = if j = S.next then true else S.ok j := by
  have hn := S.next_rng h hf
  exact SM.ok_set (by omega) hj hn.2.2.1
theorem SM.alloc_free (S : SM) : S.alloc.free = S.free - 1 := by
  unfold SM.free SM.cap SM.alloc
  simp only [List.length_set, List.length_dropLast]
  by_cases hr : S.rel = []
  · rw [if_pos hr, hr]; simp; omega
  · rw [if_neg hr]
    have : 0 < S.rel.length := List.length_pos_iff.2 hr
    omega
theorem SM.alloc_sok {S : SM} (h : SOk S) (hf : 0 < S.free) : SOk S.alloc := by
  have hn := S.next_rng h hf
  have hc : S.cap = (S.used.length : Int) - 1 := rfl
  have hfr := h.fr
  have hcap : S.alloc.cap = S.cap := by unfold SM.cap SM.alloc; simp
  have hal := fun (j : Int) (hj : 0 ≤ j) => S.alloc_ok' h hf hj
  have hneg : ∀ j : Int, j < 0 → S.alloc.ok j = false := fun j hj => by
    have e : S.alloc.ok j = S.alloc.ok 0 := by unfold SM.ok; rw [show j.toNat = (0 : Int).toNat by omega]
    rw [e, hal 0 (Int.le_refl _), if_neg (by omega), h.u0]
  have hmem : ∀ i, i ∈ S.alloc.rel → i ∈ S.rel ∧ i ≠ S.next := fun i hi => by
    have hi2 : i ∈ S.rel.dropLast := hi
    have hne : S.rel ≠ [] := fun e => by rw [e] at hi2; cases hi2
    have hs := rel_split hne
    refine ⟨by rw [hs]; exact List.mem_append_left _ hi2, fun e => ?_⟩
    have hnd := h.nd
    rw [hs] at hnd
    exact (List.nodup_append.1 hnd).2.2 i hi2 S.next (List.mem_singleton.2 rfl) e
  have hfresh : S.fresh ≤ S.alloc.fresh ∧ S.alloc.fresh ≤ S.cap := by
    unfold SM.alloc
    simp only
    by_cases hr : S.rel = []
    · rw [if_pos hr]
      unfold SM.free at hf
      rw [hr] at hf; simp at hf; omega
    · rw [if_neg hr]; omega
  refine ⟨?_, ?_, by rw [hcap]; omega, fun i hi => ?_, ?_, ?_, fun i hi => ?_, fun i h1 h2 h3 => ?_, fun x hx => ?_⟩
  · unfold SM.alloc; simpa using h.cap
  · unfold SM.alloc; simpa using h.gl
  · obtain ⟨h1, h2⟩ := hmem i hi
    have h3 := h.rm i h1
    exact ⟨h3.1, by omega, by rw [hal i (by omega), if_neg h2]; exact h3.2.2⟩
  · have h1 : S.alloc.rel = S.rel.dropLast := rfl
    rw [h1]; exact h.nd.sublist (List.dropLast_sublist _)
  · rw [hal 0 (Int.le_refl _), if_neg (by omega)]; exact h.u0
  · rcases Int.lt_or_le i 0 with h0 | h0
    · exact hneg i h0
    · rw [hal i h0]
      have hne : i ≠ S.next := fun e => by
        by_cases hr : S.rel = []
        · have e2 : S.alloc.fresh = S.fresh + 1 := by unfold SM.alloc; simp only; rw [if_pos hr]
          have e3 := SM.next_nil hr
          omega
        · have := h.rm S.next (by rw [rel_split hr]; simp)
          omega
      rw [if_neg hne]
      exact h.hi i (by omega)
  · rw [hal i (by omega)] at h3
    split at h3
    · cases h3
    · rename_i hne
      have h1r : S.alloc.rel = S.rel.dropLast := rfl
      rw [h1r]
      by_cases hr : S.rel = []
      · have e2 : S.alloc.fresh = S.fresh + 1 := by unfold SM.alloc; simp only; rw [if_pos hr]
        have e3 := SM.next_nil hr
        have := h.cov i h1 (by omega) h3
        rw [hr] at this; cases this
      · have e2 : S.alloc.fresh = S.fresh := by unfold SM.alloc; simp only; rw [if_neg hr]
        have := h.cov i h1 (by omega) h3
        rw [rel_split hr] at this
        rcases List.mem_append.1 this with h4 | h4
        · exact h4
        · exact absurd (List.mem_singleton.1 h4) hne
  · have hx2 : x ∈ S.gen.set S.next.toNat ((S.genOf S.next + 1) % 4294967296) := hx
    rcases List.mem_or_eq_of_mem_set hx2 with h1 | rfl
    · exact h.gr x h1
    · omega
theorem SM.release_ok' {S : SM} (h : SOk S) {i : Int} (h0 : 0 ≤ i) (hi : S.ok i = true) {j : Int} (hj : 0 ≤ j) : (S.release i).ok j = if j = i then false else S.ok j :=
  SM.ok_set h0 hj (SM.ok_rng h h0 hi).2.2.2
theorem SM.release_free {S : SM} (i : Int) : (S.release i).free = S.free + 1 := by
  unfold SM.free SM.cap SM.release
  simp only [List.length_set, List.length_append, List.length_singleton]
  omega
theorem SM.release_sok {S : SM} (h : SOk S) {i : Int} (h0 : 0 ≤ i) (hi : S.ok i = true) : SOk (S.release i) := by
  have hr := SM.ok_rng h h0 hi
  have hcap : (S.release i).cap = S.cap := by unfold SM.cap SM.release; simp
  have hal := fun (j : Int) (hj : 0 ≤ j) => SM.release_ok' h h0 hi hj
  have hneg : ∀ j : Int, j < 0 → (S.release i).ok j = false := fun j hj => by
    have e : (S.release i).ok j = (S.release i).ok 0 := by unfold SM.ok; rw [show j.toNat = (0 : Int).toNat by omega]
    rw [e, hal 0 (Int.le_refl _), if_neg (by omega), h.u0]
  have hfr := h.fr
  refine ⟨?_, ?_, by rw [hcap]; exact h.fr, fun j hj => ?_, ?_, ?_, fun j hj => ?_, fun j h1 h2 h3 => ?_, h.gr⟩
  · unfold SM.release; simpa using h.cap
  · unfold SM.release; simpa using h.gl
  · have hj2 : j ∈ S.rel ++ [i] := hj
    rcases List.mem_append.1 hj2 with h1 | h1
    · have h2 := h.rm j h1
      refine ⟨h2.1, h2.2.1, ?_⟩
      rw [hal j (by omega)]
      split
      · rfl
      · exact h2.2.2
    · rw [List.mem_singleton.1 h1]
      exact ⟨hr.1, hr.2.1, by rw [hal i h0, if_pos rfl]⟩
  · show (S.rel ++ [i]).Nodup
    refine List.nodup_append.2 ⟨h.nd, List.pairwise_singleton _ _, fun a ha b hb e => ?_⟩
    rw [List.mem_singleton.1 hb] at e
    have := (h.rm a ha).2.2
    rw [e, hi] at this; cases this
  · rw [hal 0 (Int.le_refl _), if_neg (by omega)]; exact h.u0
  · have hj2 : S.fresh < j := hj
    rcases Int.lt_or_le j 0 with h1 | h1
    · exact hneg j h1
    · rw [hal j h1]
      split
      · rfl
      · exact h.hi j hj2
  · have h2' : j ≤ S.fresh := h2
    show j ∈ S.rel ++ [i]
    rw [hal j (by omega)] at h3
    split at h3
    · rename_i e; subst e; simp
    · exact List.mem_append_left _ (h.cov j h1 h2' h3)
end Go.V
namespace Go.V
open Go Go.RowKit
structure SlA where
  ua : Option Addr
  uc : Nat
  ga : Option Addr
  gc : Nat
  ra : Option Addr
  rc : Nat
def sltF (s : Nat) (S : SM) (x : SlA) : List HP := [cel s #[.slice x.ua (bos S.used).length x.uc, .slice x.ga (u32s S.gen).length x.gc, .slice x.ra (u32s S.rel).length x.rc, .int .u32 S.fresh] 121, Own 4 1 (bos S.used) x.ua x.uc, Own 70 1 (u32s S.gen) x.ga x.gc, Own 70 1 (u32s S.rel) x.ra x.rc]
def Slt (s : Nat) (S : SM) : HP := ExB (sltF s S)
structure AM where
  s : SM
  nodes : List Nd
  cnt : List Int
structure ArA where
  p : Nat
  na : Option Addr
  nc : Nat
  ca : Option Addr
  cc : Nat
  rd : Int
def arnF (a : Nat) (A : AM) (x : ArA) : List HP := [cel a #[.pointer (some ⟨x.p, 0, none⟩), .slice x.na (nds A.nodes).length x.nc, .slice x.ca (i64s A.cnt).length x.cc, .int .u64 x.rd] 104, Slt x.p A.s, Own 113 8 (nds A.nodes) x.na x.nc, Own 3 1 (i64s A.cnt) x.ca x.cc]
def Arn (a : Nat) (A : AM) : HP := ExB (arnF a A)
structure TM where
  s : SM
  vals : List Int
structure TbA where
  p : Nat
  va : Option Addr
  vc : Nat
def tblF (t : Nat) (T : TM) (x : TbA) : List HP := [cel t #[.pointer (some ⟨x.p, 0, none⟩), .slice x.va (u32s T.vals).length x.vc] 88, Slt x.p T.s, Own 70 1 (u32s T.vals) x.va x.vc]
def Tbl (t : Nat) (T : TM) : HP := ExB (tblF t T)
end Go.V
namespace Go.V
open Go Go.RowKit
def AM.new (cap : Nat) : AM := ⟨SM.new cap, List.replicate (cap + 1) Nd.zero, List.replicate (cap + 1) 0⟩
def AM.cntOf (A : AM) (i : Int) : Int := (A.cnt[i.toNat]?).getD 0
def AM.inc (A : AM) (i : Int) : AM := ⟨A.s, A.nodes, A.cnt.set i.toNat (IntKind.i64.wrap (A.cntOf i + 1))⟩
def AM.dec (A : AM) (i : Int) : AM := ⟨A.s, A.nodes, A.cnt.set i.toNat (IntKind.i64.wrap (A.cntOf i - 1))⟩
structure AWf (A : AM) : Prop where
  s : SOk A.s
  nl : A.nodes.length = A.s.used.length
  cl : A.cnt.length = A.s.used.length
theorem AM.new_wf {cap : Nat} (h : 1 ≤ cap ∧ cap ≤ 65536) : AWf (AM.new cap) := ⟨SM.new_ok h, by simp [AM.new, SM.new], by simp [AM.new, SM.new]⟩
theorem AWf.inc {A : AM} (h : AWf A) (i : Int) : AWf (A.inc i) := ⟨h.s, h.nl, by simpa [AM.inc] using h.cl⟩
def AM.retE (A : AM) (i : Int) : Int := if i = 0 ∨ A.s.ok i = true then 0 else 3
def AM.ret (A : AM) (i : Int) : AM := if i ≠ 0 ∧ A.s.ok i = true then A.inc i else A
theorem SM.new_free (cap : Nat) : (SM.new cap).free = cap := by
  simp [SM.free, SM.cap, SM.new]
end Go.V
namespace Go.V
open Go Go.RowKit
theorem or_shift' {u x : Int} {m : Nat} (hu0 : 0 ≤ u) (hu : u < 2 ^ m) (hx : 0 ≤ x) (hs : u + x * 2 ^ m < 2 ^ 64) : bts .or .u64 (x * 2 ^ m) u = x * 2 ^ m + u := by
  have h1 := or_shift hu0 hu hx hs
  have hb : (IntKind.u64).bits = 64 := rfl
  have hp : (0 : Int) ≤ x * 2 ^ m := Int.mul_nonneg hx (Int.le_of_lt (Int.pow_pos (by decide)))
  rw [or_nn hp (by rw [hb]; omega) hu0 (by rw [hb]; omega), Nat.or_comm, ← or_nn hu0 (by rw [hb]; omega) hp (by rw [hb]; omega), h1]
  omega
theorem pack_or {i n : Int} (hi : 0 ≤ i ∧ i < 4294967296) (hn : 0 ≤ n ∧ n < 4294967296) : bts .or .u64 (IntKind.u64.wrap (n * p2 .u64 32)) i = n * 4294967296 + i := by
  have e : IntKind.u64.wrap (n * p2 .u64 32) = n * 2 ^ 32 := by
    have : p2 .u64 32 = 4294967296 := rfl
    rw [this, wu64 (by omega)]; rfl
  rw [e, or_shift' hi.1 hi.2 hn.1 (by have : (2 : Int) ^ 64 = 18446744073709551616 := rfl; have : (2 : Int) ^ 32 = 4294967296 := rfl; omega)]
  have : (2 : Int) ^ 32 = 4294967296 := rfl
  omega
def SM.hd (S : SM) (i : Int) : Int := S.genOf i * 4294967296 + i
def SM.opn (S : SM) (h : Int) : Bool := S.ok (h % 4294967296) && decide (S.hd (h % 4294967296) = h)
structure TOk (T : TM) : Prop where
  s : SOk T.s
  vl : T.vals.length = T.s.used.length
  vr : ∀ x ∈ T.vals, 0 ≤ x ∧ x < 4294967296
def TM.val (T : TM) (h : Int) : Int := (T.vals[(h % 4294967296).toNat]?).getD 0
def TM.open (T : TM) (v : Int) : TM := ⟨T.s.alloc, T.vals.set T.s.next.toNat v⟩
def TM.newH (T : TM) : Int := T.s.alloc.hd T.s.next
def TM.close (T : TM) (h : Int) : TM := ⟨T.s.release (h % 4294967296), T.vals⟩
def TM.new (cap : Nat) : TM := ⟨SM.new cap, List.replicate (cap + 1) 0⟩
theorem TM.new_ok {cap : Nat} (h : 1 ≤ cap ∧ cap ≤ 65536) : TOk (TM.new cap) := ⟨SM.new_ok h, by simp [TM.new, SM.new], fun x hx => by rw [List.eq_of_mem_replicate hx]; omega⟩
theorem SOk.gen_rng {S : SM} (h : SOk S) (i : Int) : 0 ≤ S.genOf i ∧ S.genOf i < 4294967296 := by
  unfold SM.genOf
  cases hx : S.gen[i.toNat]? with
  | none => simp
  | some x => exact h.gr x (List.mem_of_getElem? hx)
theorem TOk.val_rng {T : TM} (h : TOk T) (x : Int) : 0 ≤ T.val x ∧ T.val x < 4294967296 := by
  unfold TM.val
  cases hx : T.vals[(x % 4294967296).toNat]? with
  | none => simp
  | some y => exact h.vr y (List.mem_of_getElem? hx)
theorem TOk.open {T : TM} (h : TOk T) (hf : 0 < T.s.free) {v : Int} (hv : 0 ≤ v ∧ v < 4294967296) : TOk (T.open v) := by
  refine ⟨SM.alloc_sok h.s hf, ?_, fun x hx => ?_⟩
  · show (T.vals.set _ _).length = (T.s.used.set _ _).length
    rw [List.length_set, List.length_set]; exact h.vl
  · rcases List.mem_or_eq_of_mem_set (show x ∈ T.vals.set _ _ from hx) with h1 | rfl
    · exact h.vr x h1
    · exact hv
theorem SM.opn_ok {S : SM} {h : Int} (ho : S.opn h = true) : S.ok (h % 4294967296) = true ∧ S.hd (h % 4294967296) = h := by
  unfold SM.opn at ho
  simpa using ho
theorem TOk.close {T : TM} (h : TOk T) {x : Int} (ho : T.s.opn x = true) : TOk (T.close x) :=
  ⟨SM.release_sok h.s (by omega) (SM.opn_ok ho).1, by
    show T.vals.length = (T.s.used.set _ _).length
    rw [List.length_set]; exact h.vl, h.vr⟩
end Go.V
namespace Go.V
open Go
inductive Tr where
  | nil
  | node (l : Tr) (k v : Int) (r : Tr)
namespace Tr
def n : Tr → Nat
  | nil => 0
  | node l _ _ r => l.n + r.n + 1
def ls : Tr → List (Int × Int)
  | nil => []
  | node l k v r => l.ls ++ (k, v) :: r.ls
def ht : Tr → Nat
  | nil => 0
  | node l _ _ r => max l.ht r.ht + 1
end Tr
abbrev Bal (a b : Nat) : Prop := a + 1 ≤ 3 * (b + 1) ∧ b + 1 ≤ 3 * (a + 1)
namespace Tr
def ok : Tr → Prop
  | nil => True
  | node l _ _ r => Bal l.n r.n ∧ l.ok ∧ r.ok
theorem ls_len : ∀ t : Tr, t.ls.length = t.n
  | nil => rfl
  | node l _ _ r => by simp [ls, n, ls_len l, ls_len r]; omega
theorem n0 {t : Tr} (h : t.n = 0) : t = nil := by
  cases t with
  | nil => rfl
  | node => simp [n] at h
def dbL (l : Tr) (k v fk fv : Int) (s : Tr) : Tr → Tr
  | nil => nil
  | node x gk gv y => node (node l k v x) gk gv (node y fk fv s)
def litL (l : Tr) (k v : Int) : Tr → Tr
  | nil => node l k v nil
  | node m fk fv s => if m.n = 0 ∨ (Bal l.n m.n ∧ Bal (l.n + m.n + 1) s.n) then node (node l k v m) fk fv s else dbL l k v fk fv s m
def dbR (r : Tr) (k v fk fv : Int) (s : Tr) : Tr → Tr
  | nil => nil
  | node x gk gv y => node (node s fk fv x) gk gv (node y k v r)
def litR (r : Tr) (k v : Int) : Tr → Tr
  | nil => node nil k v r
  | node s fk fv m => if m.n = 0 ∨ (Bal m.n r.n ∧ Bal s.n (m.n + r.n + 1)) then node s fk fv (node m k v r) else dbR r k v fk fv s m
def bal (l : Tr) (k v : Int) (r : Tr) : Tr := if Bal l.n r.n then node l k v r else if l.n < r.n then litL l k v r else litR r k v l
def join : Tr → Int → Int → Tr → Tr
  | nil, k, v, nil => node nil k v nil
  | nil, k, v, node m fk fv s => if Bal 0 (m.n + s.n + 1) then node nil k v (node m fk fv s) else bal (join nil k v m) fk fv s
  | node s fk fv m, k, v, nil => if Bal (s.n + m.n + 1) 0 then node (node s fk fv m) k v nil else bal s fk fv (join m k v nil)
  | node s fk fv m, k, v, node m' fk' fv' s' => if Bal (s.n + m.n + 1) (m'.n + s'.n + 1) then node (node s fk fv m) k v (node m' fk' fv' s')
    else if m'.n + s'.n < s.n + m.n then bal s fk fv (join m k v (node m' fk' fv' s')) else bal (join (node s fk fv m) k v m') fk' fv' s'
termination_by l _ _ r => l.n + r.n
decreasing_by all_goals simp only [n]; omega
def jc : Tr → Tr → Nat
  | nil, nil => 1
  | nil, node m _ _ s => if Bal 0 (m.n + s.n + 1) then 1 else jc nil m + 3
  | node s _ _ m, nil => if Bal (s.n + m.n + 1) 0 then 1 else jc m nil + 3
  | node s fk fv m, node m' fk' fv' s' => if Bal (s.n + m.n + 1) (m'.n + s'.n + 1) then 1
    else if m'.n + s'.n < s.n + m.n then jc m (node m' fk' fv' s') + 3 else jc (node s fk fv m) m' + 3
termination_by l r => l.n + r.n
decreasing_by all_goals simp only [n]; omega
theorem litL_n {l r : Tr} {k v : Int} (hr : r ≠ nil) : (litL l k v r).n = l.n + r.n + 1 ∧ (litL l k v r).ls = l.ls ++ (k, v) :: r.ls := by
  cases r with
  | nil => exact absurd rfl hr
  | node m fk fv s =>
    rw [litL]
    split
    · exact ⟨by simp only [n]; omega, by simp [ls]⟩
    · cases m with
      | nil => simp [n] at *
      | node x gk gv y => exact ⟨by simp only [dbL, n]; omega, by simp [dbL, ls]⟩
theorem litR_n {l r : Tr} {k v : Int} (hl : l ≠ nil) : (litR r k v l).n = l.n + r.n + 1 ∧ (litR r k v l).ls = l.ls ++ (k, v) :: r.ls := by
  cases l with
  | nil => exact absurd rfl hl
  | node s fk fv m =>
    rw [litR]
    split
    · exact ⟨by simp only [n]; omega, by simp [ls]⟩
    · cases m with
      | nil => simp [n] at *
      | node x gk gv y => exact ⟨by simp only [dbR, n]; omega, by simp [dbR, ls]⟩
theorem bal_n (l : Tr) (k v : Int) (r : Tr) : (bal l k v r).n = l.n + r.n + 1 ∧ (bal l k v r).ls = l.ls ++ (k, v) :: r.ls := by
  unfold bal
  split
  · exact ⟨rfl, rfl⟩
  · rename_i h
    split
    · refine litL_n fun e => ?_
      subst e; simp [n] at *
    · refine litR_n fun e => ?_
      subst e
      simp only [n] at *
      have : r.n = 0 := by omega
      omega
def Near (a b : Nat) : Prop := 3 * (b + 1) ≤ 13 * (a + 1)
theorem litL_ok {l r : Tr} {k v : Int} (hl : l.ok) (hr : r.ok) (h3 : 3 * (l.n + 1) < r.n + 1) (hN : Near l.n r.n) : (litL l k v r).ok := by
  cases r with
  | nil => simp [n] at h3
  | node m fk fv s =>
    obtain ⟨⟨b1, b2⟩, hm, hs⟩ := hr
    simp only [n] at h3
    unfold Near at hN; simp only [n] at hN
    rw [litL]
    split
    · rename_i hc
      rcases hc with hc | hc
      · have := n0 hc; subst this
        simp only [n] at *
        exact ⟨by simp only [n]; constructor <;> omega, ⟨by simp only [n]; constructor <;> omega, hl, hm⟩, hs⟩
      · exact ⟨by simp only [n]; constructor <;> omega, ⟨hc.1, hl, hm⟩, hs⟩
    · rename_i hc
      cases m with
      | nil => simp [n] at hc
      | node x gk gv y =>
        obtain ⟨⟨c1, c2⟩, hx, hy⟩ := hm
        simp only [n] at *
        refine ⟨?_, ⟨?_, hl, hx⟩, ⟨?_, hy, hs⟩⟩ <;> (try simp only [n]) <;> constructor <;> omega
theorem litR_ok {l r : Tr} {k v : Int} (hl : l.ok) (hr : r.ok) (h3 : 3 * (r.n + 1) < l.n + 1) (hN : Near r.n l.n) : (litR r k v l).ok := by
  cases l with
  | nil => simp [n] at h3
  | node s fk fv m =>
    obtain ⟨⟨b1, b2⟩, hs, hm⟩ := hl
    simp only [n] at h3
    unfold Near at hN; simp only [n] at hN
    rw [litR]
    split
    · rename_i hc
      rcases hc with hc | hc
      · have := n0 hc; subst this
        simp only [n] at *
        exact ⟨by simp only [n]; constructor <;> omega, hs, ⟨by simp only [n]; constructor <;> omega, hm, hr⟩⟩
      · exact ⟨by simp only [n]; constructor <;> omega, hs, ⟨hc.1, hm, hr⟩⟩
    · rename_i hc
      cases m with
      | nil => simp [n] at hc
      | node x gk gv y =>
        obtain ⟨⟨c1, c2⟩, hx, hy⟩ := hm
        simp only [n] at *
        refine ⟨?_, ⟨?_, hs, hx⟩, ⟨?_, hy, hr⟩⟩ <;> (try simp only [n]) <;> constructor <;> omega
theorem bal_ok {l r : Tr} {k v : Int} (hl : l.ok) (hr : r.ok) (hN : Near l.n r.n) (hM : Near r.n l.n) : (bal l k v r).ok := by
  unfold bal
  split
  · rename_i h; exact ⟨h, hl, hr⟩
  · split
    · exact litL_ok hl hr (by omega) hN
    · exact litR_ok hl hr (by omega) hM
theorem join_n (l : Tr) (k v : Int) (r : Tr) : (join l k v r).n = l.n + r.n + 1 ∧ (join l k v r).ls = l.ls ++ (k, v) :: r.ls := by
  fun_induction join l k v r
  case case1 => exact ⟨rfl, rfl⟩
  case case2 => exact ⟨rfl, rfl⟩
  case case3 k v m fk fv s h ih =>
    refine ⟨?_, ?_⟩
    · rw [(bal_n _ _ _ _).1, ih.1]; simp only [n]; omega
    · rw [(bal_n _ _ _ _).2, ih.2]; simp [ls]
  case case4 => exact ⟨rfl, rfl⟩
  case case5 s fk fv m k v h ih =>
    refine ⟨?_, ?_⟩
    · rw [(bal_n _ _ _ _).1, ih.1]; simp only [n]; omega
    · rw [(bal_n _ _ _ _).2, ih.2]; simp [ls]
  case case6 => exact ⟨rfl, rfl⟩
  case case7 s fk fv m k v m' fk' fv' s' h1 h2 ih =>
    refine ⟨?_, ?_⟩
    · rw [(bal_n _ _ _ _).1, ih.1]; simp only [n]; omega
    · rw [(bal_n _ _ _ _).2, ih.2]; simp [ls]
  case case8 s fk fv m k v m' fk' fv' s' h1 h2 ih =>
    refine ⟨?_, ?_⟩
    · rw [(bal_n _ _ _ _).1, ih.1]; simp only [n]; omega
    · rw [(bal_n _ _ _ _).2, ih.2]; simp [ls]
theorem join_ok {l r : Tr} {k v : Int} (hl : l.ok) (hr : r.ok) : (join l k v r).ok := by
  fun_induction join l k v r
  case case1 => exact ⟨by simp [n], trivial, trivial⟩
  case case2 h => exact ⟨h, hl, hr⟩
  case case3 k v m fk fv s h ih =>
    obtain ⟨⟨b1, b2⟩, hm, hs⟩ := hr
    have hn := (join_n nil k v m).1
    simp only [n] at hn
    refine bal_ok (ih hl hm) hs ?_ ?_ <;> unfold Near <;> rw [hn] <;> omega
  case case4 h => exact ⟨h, hl, hr⟩
  case case5 s fk fv m k v h ih =>
    obtain ⟨⟨b1, b2⟩, hs, hm⟩ := hl
    have hn := (join_n m k v nil).1
    simp only [n] at hn
    refine bal_ok hs (ih hm hr) ?_ ?_ <;> unfold Near <;> rw [hn] <;> omega
  case case6 h => exact ⟨h, hl, hr⟩
  case case7 s fk fv m k v m' fk' fv' s' h1 h2 ih =>
    obtain ⟨⟨b1, b2⟩, hs, hm⟩ := hl
    have hn := (join_n m k v (node m' fk' fv' s')).1
    simp only [n] at hn
    refine bal_ok hs (ih hm hr) ?_ ?_ <;> unfold Near <;> rw [hn] <;> omega
  case case8 s fk fv m k v m' fk' fv' s' h1 h2 ih =>
    obtain ⟨⟨b1, b2⟩, hm, hs⟩ := hr
    have hn := (join_n (node s fk fv m) k v m').1
    simp only [n] at hn
    refine bal_ok (ih hl hm) hs ?_ ?_ <;> unfold Near <;> rw [hn] <;> omega
theorem jc_bal {l r : Tr} (h : Bal l.n r.n) : jc l r = 1 := by
  cases l with
  | nil =>
    cases r with
    | nil => simp [jc]
    | node m a b s => rw [jc, if_pos (by simpa [n] using h)]
  | node s a b m =>
    cases r with
    | nil => rw [jc, if_pos (by simpa [n] using h)]
    | node m' a' b' s' => rw [jc, if_pos (by simpa [n] using h)]
theorem jc_near {l r : Tr} (hl : l.ok) (hr : r.ok) (h1 : l.n + 1 ≤ 3 * (r.n + 1) + 1 ∨ (l.n + 1 ≤ 3 * (r.n + 1) + 3 ∧ 1 ≤ r.n)) (h2 : r.n + 1 ≤ 3 * (l.n + 1) + 1 ∨ (r.n + 1 ≤ 3 * (l.n + 1) + 3 ∧ 1 ≤ l.n)) : jc l r ≤ 4 := by
  cases l with
  | nil =>
    cases r with
    | nil => simp [jc]
    | node m a b s =>
      rw [jc]
      obtain ⟨⟨b1, b2⟩, hm, hs⟩ := hr
      simp only [n] at h2
      split
      · omega
      · rw [jc_bal (by simp only [n]; constructor <;> omega)]; omega
  | node s a b m =>
    obtain ⟨⟨b1, b2⟩, hs, hm⟩ := hl
    cases r with
    | nil =>
      rw [jc]
      simp only [n] at h1
      split
      · omega
      · rw [jc_bal (by simp only [n]; constructor <;> omega)]; omega
    | node m' a' b' s' =>
      obtain ⟨⟨c1, c2⟩, hm', hs'⟩ := hr
      simp only [n] at h1 h2
      rw [jc]
      split
      · omega
      · split
        · rw [jc_bal (by simp only [n]; constructor <;> omega)]; omega
        · rw [jc_bal (by simp only [n]; constructor <;> omega)]; omega
def ins (k v : Int) : Tr → Tr
  | nil => node nil k v nil
  | node l x y r => if k < x then join (ins k v l) x y r else if x < k then join l x y (ins k v r) else node l k v r
def ic (k v : Int) : Tr → Nat
  | nil => 1
  | node l x _ r => if k < x then ic k v l + jc (ins k v l) r else if x < k then ic k v r + jc l (ins k v r) else 1
def has (k : Int) : Tr → Bool
  | nil => false
  | node l x _ r => if k < x then l.has k else if x < k then r.has k else true
theorem ins_n (k v : Int) : ∀ t : Tr, (ins k v t).n = t.n + (if t.has k then 0 else 1)
  | nil => by simp [ins, has, n]
  | node l x y r => by
    unfold ins has
    split
    · rw [(join_n _ _ _ _).1, ins_n k v l]; simp only [n]; omega
    · split
      · rw [(join_n _ _ _ _).1, ins_n k v r]; simp only [n]; omega
      · simp [n]
theorem ins_ok (k v : Int) : ∀ t : Tr, t.ok → (ins k v t).ok
  | nil, _ => ⟨by simp [n], trivial, trivial⟩
  | node l x y r, h => by
    unfold ins
    split
    · exact join_ok (ins_ok k v l h.2.1) h.2.2
    · split
      · exact join_ok h.2.1 (ins_ok k v r h.2.2)
      · exact h
theorem ic_le (k v : Int) : ∀ t : Tr, t.ok → ic k v t ≤ 4 * t.ht + 1
  | nil, _ => by simp [ic, ht]
  | node l x y r, h => by
    obtain ⟨⟨b1, b2⟩, hl, hr⟩ := h
    unfold ic
    have el := ins_n k v l
    have er := ins_n k v r
    simp only [ht]
    split
    · have h1 := ic_le k v l hl
      have h2 := jc_near (ins_ok k v l hl) hr (by split at el <;> omega) (by split at el <;> omega)
      omega
    · split
      · have h1 := ic_le k v r hr
        have h2 := jc_near hl (ins_ok k v r hr) (by split at er <;> omega) (by split at er <;> omega)
        omega
      · omega
def pop : Tr → Tr × Int × Int
  | nil => (nil, 0, 0)
  | node l k v nil => (l, k, v)
  | node l k v (node a b c d) => (join l k v (pop (node a b c d)).1, (pop (node a b c d)).2)
def pc : Tr → Nat
  | nil => 0
  | node _ _ _ nil => 0
  | node l _ _ (node a b c d) => pc (node a b c d) + jc l (pop (node a b c d)).1
def cat (l r : Tr) : Tr := match l, r with
  | nil, r => r
  | l, nil => l
  | l, r => join (pop l).1 (pop l).2.1 (pop l).2.2 r
def cc (l r : Tr) : Nat := match l, r with
  | nil, _ => 0
  | _, nil => 0
  | l, r => pc l + jc (pop l).1 r
def del (k : Int) : Tr → Tr
  | nil => nil
  | node l x y r => if k < x then join (del k l) x y r else if x < k then join l x y (del k r) else cat l r
def wt : Nat → Nat
  | 0 => 1
  | h + 1 => wt h + (wt h + 2) / 3
theorem wt_ht : ∀ t : Tr, t.ok → wt t.ht ≤ t.n + 1
  | nil, _ => by simp [wt, ht, n]
  | node l k v r, h => by
    obtain ⟨⟨b1, b2⟩, hl, hr⟩ := h
    have h1 := wt_ht l hl
    have h2 := wt_ht r hr
    simp only [ht, n]
    rcases Nat.le_total l.ht r.ht with e | e
    · rw [Nat.max_eq_right e, wt]; omega
    · rw [Nat.max_eq_left e, wt]; omega
theorem wt_mono {a b : Nat} (h : a ≤ b) : wt a ≤ wt b := by
  induction h with
  | refl => exact Nat.le_refl _
  | step h ih => rw [wt]; omega
end Tr
end Go.V
namespace Go.V
open Go
abbrev Kvs := List (Int × Int)
def Srt (l : Kvs) : Prop := l.Pairwise fun a b => a.1 < b.1
def lins (k v : Int) (l : Kvs) : Kvs := l.filter (fun x => decide (x.1 < k)) ++ (k, v) :: l.filter (fun x => decide (k < x.1))
theorem Srt.app {a b : Kvs} (h : Srt (a ++ b)) : Srt a ∧ Srt b ∧ ∀ x ∈ a, ∀ y ∈ b, x.1 < y.1 := by
  obtain ⟨h1, h2, h3⟩ := List.pairwise_append.1 h
  exact ⟨h1, h2, h3⟩
theorem filter_all {p : Int × Int → Bool} {l : Kvs} (h : ∀ x ∈ l, p x = true) : l.filter p = l := List.filter_eq_self.2 h
theorem filter_no {p : Int × Int → Bool} {l : Kvs} (h : ∀ x ∈ l, p x = false) : l.filter p = [] := List.filter_eq_nil_iff.2 fun x hx => by rw [h x hx]; decide
theorem lins_srt {k v : Int} {l : Kvs} (h : Srt l) : Srt (lins k v l) := by
  unfold lins
  refine List.pairwise_append.2 ⟨h.sublist List.filter_sublist, List.pairwise_cons.2 ⟨fun y hy => ?_, h.sublist List.filter_sublist⟩, fun x hx y hy => ?_⟩
  · exact of_decide_eq_true (List.mem_filter.1 hy).2
  · have h1 := of_decide_eq_true (List.mem_filter.1 hx).2
    rcases List.mem_cons.1 hy with rfl | hy
    · exact h1
    · have h2 := of_decide_eq_true (List.mem_filter.1 hy).2
      omega
namespace Tr
def get (k : Int) : Tr → Option Int
  | nil => none
  | node l x y r => if k < x then get k l else if x < k then get k r else some y
theorem srt_node {l r : Tr} {k v : Int} (h : Srt (node l k v r).ls) : Srt l.ls ∧ Srt r.ls ∧ (∀ x ∈ l.ls, x.1 < k) ∧ ∀ x ∈ r.ls, k < x.1 := by
  obtain ⟨h1, h2, h3⟩ := Srt.app h
  obtain ⟨h4, h5⟩ := List.pairwise_cons.1 h2
  exact ⟨h1, h5, fun x hx => h3 x hx _ (List.mem_cons_self ..), h4⟩
theorem ins_ls (k v : Int) : ∀ t : Tr, Srt t.ls → (ins k v t).ls = lins k v t.ls
  | nil, _ => rfl
  | node l x y r, h => by
    obtain ⟨h1, h2, h3, h4⟩ := srt_node h
    unfold ins lins
    rw [show (node l x y r).ls = l.ls ++ (x, y) :: r.ls from rfl, List.filter_append, List.filter_append]
    split
    · rename_i hlt
      rw [(join_n _ _ _ _).2, ins_ls k v l h1, List.filter_cons_of_neg (by simp; omega), List.filter_cons_of_pos (by simp; omega)]
      rw [filter_no (p := fun x => decide (x.1 < k)) (l := r.ls) fun z hz => decide_eq_false (by have := h4 z hz; omega), filter_all (p := fun x => decide (k < x.1)) (l := r.ls) fun z hz => decide_eq_true (by have := h4 z hz; omega)]
      unfold lins; simp
    · split
      · rename_i hgt
        rw [(join_n _ _ _ _).2, ins_ls k v r h2, List.filter_cons_of_pos (by simp; omega), List.filter_cons_of_neg (by simp; omega)]
        rw [filter_all (p := fun x => decide (x.1 < k)) (l := l.ls) fun z hz => decide_eq_true (by have := h3 z hz; omega), filter_no (p := fun x => decide (k < x.1)) (l := l.ls) fun z hz => decide_eq_false (by have := h3 z hz; omega)]
        unfold lins; simp
      · have e : x = k := by omega
        subst e
        rw [List.filter_cons_of_neg (by simp), List.filter_cons_of_neg (by simp)]
        rw [filter_all (p := fun z => decide (z.1 < x)) (l := l.ls) fun z hz => decide_eq_true (h3 z hz), filter_no (p := fun z => decide (x < z.1)) (l := l.ls) fun z hz => decide_eq_false (by have := h3 z hz; omega)]
        rw [filter_no (p := fun z => decide (z.1 < x)) (l := r.ls) fun z hz => decide_eq_false (by have := h4 z hz; omega), filter_all (p := fun z => decide (x < z.1)) (l := r.ls) fun z hz => decide_eq_true (h4 z hz)]
        simp [ls]
theorem join_same {l r : Tr} {k v : Int} (h : Bal l.n r.n) : join l k v r = node l k v r := by
  cases l with
  | nil =>
    cases r with
    | nil => rw [join]
    | node m a b s => rw [join, if_pos (by simpa [n] using h)]
  | node s a b m =>
    cases r with
    | nil => rw [join, if_pos (by simpa [n] using h)]
    | node m' a' b' s' => rw [join, if_pos (by simpa [n] using h)]
theorem ins_same (k v : Int) : ∀ t : Tr, t.ok → get k t = some v → ins k v t = t
  | nil, _, h => by cases h
  | node l x y r, h, hg => by
    obtain ⟨hb, hl, hr⟩ := h
    unfold get at hg
    unfold ins
    split at hg
    · rename_i hlt
      rw [if_pos hlt, ins_same k v l hl hg, join_same hb]
    · rename_i hlt
      split at hg
      · rename_i hgt
        rw [if_neg hlt, if_pos hgt, ins_same k v r hr hg, join_same hb]
      · rename_i hgt
        rw [if_neg hlt, if_neg hgt]
        simp only [Option.some.injEq] at hg
        rw [hg, show x = k by omega]
def mxA (keys : Nat) : Nat → Nat → Nat
  | 0, h => h
  | f + 1, h => if keys + 1 < wt (h + 1) then h else mxA keys f (h + 1)
def mxH (keys : Nat) : Nat := mxA keys 80 0
theorem mxA_ge (keys : Nat) : ∀ f h, h ≤ mxA keys f h ∧ mxA keys f h ≤ h + f
  | 0, h => by simp [mxA]
  | f + 1, h => by
    unfold mxA
    split
    · omega
    · have := mxA_ge keys f (h + 1); omega
theorem mxA_le (keys : Nat) : ∀ f h j, j ≤ h + f → wt j ≤ keys + 1 → h ≤ j → j ≤ mxA keys f h
  | 0, h, j, h1, _, _ => by unfold mxA; omega
  | f + 1, h, j, h1, h2, h3 => by
    unfold mxA
    split
    · rename_i hlt
      rcases Nat.lt_or_ge h j with h4 | h4
      · have := wt_mono (a := h + 1) (b := j) h4; omega
      · omega
    · rcases Nat.lt_or_ge h j with h4 | h4
      · exact mxA_le keys f (h + 1) j (by omega) h2 h4
      · have := (mxA_ge keys f (h + 1)).1; omega
theorem wt_pow : ∀ h : Nat, 4 ^ h ≤ wt h * 3 ^ h
  | 0 => by simp [wt]
  | h + 1 => by
    have ih := wt_pow h
    have h1 : 4 * wt h ≤ 3 * wt (h + 1) := by rw [wt]; omega
    calc 4 ^ (h + 1) = 4 * 4 ^ h := by rw [Nat.pow_succ, Nat.mul_comm]
      _ ≤ 4 * (wt h * 3 ^ h) := Nat.mul_le_mul_left _ ih
      _ = (4 * wt h) * 3 ^ h := by rw [Nat.mul_assoc]
      _ ≤ (3 * wt (h + 1)) * 3 ^ h := Nat.mul_le_mul_right _ h1
      _ = wt (h + 1) * 3 ^ (h + 1) := by rw [Nat.pow_succ, Nat.mul_comm 3 (wt (h + 1)), Nat.mul_assoc, Nat.mul_comm 3]
theorem wt_81 : 2147483648 < wt 81 := by
  have h := wt_pow 81
  rcases Nat.lt_or_ge 2147483648 (wt 81) with h1 | h1
  · exact h1
  · have h2 : wt 81 * 3 ^ 81 ≤ 2147483648 * 3 ^ 81 := Nat.mul_le_mul_right _ h1
    have h3 : 2147483648 * 3 ^ 81 < 4 ^ 81 := by decide
    omega
theorem ht_le (t : Tr) (h : t.ok) (hn : t.n ≤ 2147483647) : t.ht ≤ mxH t.n := by
  have h1 := wt_ht t h
  refine mxA_le t.n 80 0 t.ht ?_ h1 (Nat.zero_le _)
  rcases Nat.lt_or_ge 80 t.ht with h2 | h2
  · have := wt_mono (a := 81) (b := t.ht) h2
    have := wt_81
    omega
  · omega
theorem mxA_mono {a b : Nat} (hab : a ≤ b) : ∀ f h, mxA a f h ≤ mxA b f h
  | 0, h => by simp [mxA]
  | f + 1, h => by
    unfold mxA
    split
    · split
      · exact Nat.le_refl _
      · have := (mxA_ge b f (h + 1)).1; omega
    · rw [if_neg (by omega)]; exact mxA_mono hab f (h + 1)
theorem mxH_mono {a b : Nat} (h : a ≤ b) : mxH a ≤ mxH b := mxA_mono h 80 0
theorem mxH_le (a : Nat) : mxH a ≤ 80 := by have := (mxA_ge a 80 0).2; unfold mxH; omega
theorem ic_res (k v : Int) (t : Tr) (h : t.ok) (hn : t.n ≤ 2147483646) : ic k v t ≤ 4 * (mxH (t.n + 1) + 2) := by
  have h1 := ic_le k v t h
  have h2 := ht_le t h (by omega)
  have h3 := mxH_mono (a := t.n) (b := t.n + 1) (by omega)
  omega
end Tr
end Go.V
namespace Go.V
open Go Go.RowKit
def AM.nd (A : AM) (i : Int) : Nd := (A.nodes[i.toNat]?).getD Nd.zero
def AM.live (A : AM) : List Int := ((List.range A.s.used.length).map fun i : Nat => (i : Int)).filter fun i => A.s.ok i
def AM.kids (A : AM) : List Int := A.live.flatMap fun i => [(A.nd i).lf, (A.nd i).rg]
def AM.sz (A : AM) (i : Int) : Int := if A.s.ok i = true then (A.nd i).size else 0
structure ARf (A : AM) (R : List Int) : Prop extends AWf A where
  kid : ∀ i, A.s.ok i = true → 0 ≤ i → ∀ c, c = (A.nd i).lf ∨ c = (A.nd i).rg → c = 0 ∨ (1 ≤ c ∧ A.s.ok c = true)
  sz : ∀ i, A.s.ok i = true → 0 ≤ i → (A.nd i).size = 1 + A.sz (A.nd i).lf + A.sz (A.nd i).rg ∧ (A.nd i).size ≤ 2147483647
  pos : ∀ i, A.s.ok i = true → 0 ≤ i → 1 ≤ (A.nd i).size
  ref : ∀ r ∈ R, r = 0 ∨ (1 ≤ r ∧ A.s.ok r = true)
  cnt : ∀ i, A.s.ok i = true → 0 ≤ i → A.cntOf i = ((R ++ A.kids).count i : Nat) ∧ 1 ≤ A.cntOf i
  zero : ∀ i, A.s.ok i = false → 1 ≤ i → A.nd i = Nd.zero
  len : R.length ≤ 1000000000
theorem AM.mem_live {A : AM} (i : Int) : i ∈ A.live ↔ 0 ≤ i ∧ A.s.ok i = true := by
  unfold AM.live
  rw [List.mem_filter, List.mem_map]
  constructor
  · rintro ⟨⟨n, _, rfl⟩, h⟩; exact ⟨by omega, h⟩
  · rintro ⟨h0, h⟩
    exact ⟨⟨i.toNat, List.mem_range.2 (ok_getD h), by omega⟩, h⟩
theorem AM.live_nodup (A : AM) : A.live.Nodup := by
  unfold AM.live
  refine List.Pairwise.filter _ (List.pairwise_map.2 ?_)
  exact (List.nodup_range).imp fun h e => h (by omega)
theorem live_perm {A B : AM} {k : Int} (hk : A.s.ok k = true) (h0 : 0 ≤ k) (h : ∀ j, 0 ≤ j → B.s.ok j = if j = k then false else A.s.ok j) : A.live.Perm (k :: B.live) := by
  refine (List.perm_ext_iff_of_nodup A.live_nodup (List.nodup_cons.2 ⟨fun hm => ?_, B.live_nodup⟩)).2 fun j => ?_
  · have := ((B.mem_live k).1 hm).2
    rw [h k h0, if_pos rfl] at this; cases this
  · rw [A.mem_live, List.mem_cons, B.mem_live]
    constructor
    · rintro ⟨j0, j1⟩
      by_cases e : j = k
      · exact .inl e
      · exact .inr ⟨j0, by rw [h j j0, if_neg e]; exact j1⟩
    · rintro (rfl | ⟨j0, j1⟩)
      · exact ⟨h0, hk⟩
      · rw [h j j0] at j1
        split at j1
        · cases j1
        · exact ⟨j0, j1⟩
theorem fm_congr {α β : Type} {f g : α → List β} : ∀ {l : List α}, (∀ x ∈ l, f x = g x) → l.flatMap f = l.flatMap g
  | [], _ => rfl
  | x :: l, h => by rw [List.flatMap_cons, List.flatMap_cons, h x (List.mem_cons_self ..), fm_congr fun y hy => h y (List.mem_cons_of_mem _ hy)]
theorem kids_perm {A B : AM} {k : Int} (hk : A.s.ok k = true) (h0 : 0 ≤ k) (h : ∀ j, 0 ≤ j → B.s.ok j = if j = k then false else A.s.ok j) (hn : ∀ j, 0 ≤ j → j ≠ k → B.nd j = A.nd j) : A.kids.Perm ([(A.nd k).lf, (A.nd k).rg] ++ B.kids) := by
  have h1 := (live_perm hk h0 h).flatMap_right (fun i => [(A.nd i).lf, (A.nd i).rg])
  rw [List.flatMap_cons] at h1
  refine h1.trans (List.Perm.append_left _ (List.Perm.of_eq ?_))
  unfold AM.kids
  have hm : ∀ j ∈ B.live, [(A.nd j).lf, (A.nd j).rg] = [(B.nd j).lf, (B.nd j).rg] := fun j hj => by
    have hj2 := (B.mem_live j).1 hj
    have hne : j ≠ k := fun e => by subst e; have := hj2.2; rw [h j h0, if_pos rfl] at this; cases this
    rw [hn j hj2.1 hne]
  exact fm_congr hm
theorem AM.live_len (A : AM) : A.live.length ≤ A.s.used.length := by
  unfold AM.live
  exact Nat.le_trans (List.length_filter_le _ _) (by simp)
theorem AM.kids_len (A : AM) : A.kids.length = 2 * A.live.length := by
  unfold AM.kids
  induction A.live with
  | nil => rfl
  | cons x l ih => rw [List.flatMap_cons, List.length_append, ih]; simp; omega
theorem AM.mem_kids {A : AM} (c : Int) : c ∈ A.kids ↔ ∃ i, 0 ≤ i ∧ A.s.ok i = true ∧ (c = (A.nd i).lf ∨ c = (A.nd i).rg) := by
  unfold AM.kids
  rw [List.mem_flatMap]
  constructor
  · rintro ⟨i, hi, hc⟩
    have := (A.mem_live i).1 hi
    exact ⟨i, this.1, this.2, by simpa using hc⟩
  · rintro ⟨i, h0, h1, hc⟩
    exact ⟨i, (A.mem_live i).2 ⟨h0, h1⟩, by simpa using hc⟩
theorem ARf.perm {A : AM} {R R' : List Int} (h : ARf A R) (hp : R.Perm R') : ARf A R' :=
  ⟨h.toAWf, h.kid, h.sz, h.pos, fun r hr => h.ref r (hp.mem_iff.2 hr), fun i hi h0 => by
    rw [← (List.Perm.append_right A.kids hp).count_eq i]; exact h.cnt i hi h0, h.zero, by rw [← hp.length_eq]; exact h.len⟩
theorem ARf.cons0 {A : AM} {R : List Int} (h : ARf A R) (hl : R.length + 1 ≤ 1000000000) : ARf A (0 :: R) :=
  ⟨h.toAWf, h.kid, h.sz, h.pos, fun r hr => by
    rcases List.mem_cons.1 hr with rfl | hr
    · exact .inl rfl
    · exact h.ref r hr, fun i hi h0 => by
    have h1 := (SM.ok_rng h.s h0 hi).1
    rw [List.cons_append, List.count_cons_of_ne (by omega)]; exact h.cnt i hi h0, h.zero, by simpa using hl⟩
theorem ARf.tail0 {A : AM} {R : List Int} (h : ARf A (0 :: R)) : ARf A R :=
  ⟨h.toAWf, h.kid, h.sz, h.pos, fun r hr => h.ref r (List.mem_cons_of_mem _ hr), fun i hi h0 => by
    have h1 := (SM.ok_rng h.s h0 hi).1
    have h2 := h.cnt i hi h0
    rwa [List.cons_append, List.count_cons_of_ne (by omega)] at h2, h.zero, by have := h.len; simp at this; omega⟩
theorem ARf.cnt_le {A : AM} {R : List Int} (h : ARf A R) {i : Int} (hi : A.s.ok i = true) (h0 : 0 ≤ i) : 1 ≤ A.cntOf i ∧ A.cntOf i ≤ 2000000000 := by
  have h1 := h.cnt i hi h0
  have h2 := List.count_le_length (a := i) (l := R ++ A.kids)
  rw [List.length_append, A.kids_len] at h2
  have h3 := A.live_len
  have h4 := h.s.cap
  have h5 := h.len
  omega
theorem AM.cnt_set {A : AM} {s : SM} {n : List Nd} {k i x : Int} (hk : k.toNat < A.cnt.length) (h0 : 0 ≤ k) (hi : 0 ≤ i) : (AM.mk s n (A.cnt.set k.toNat x)).cntOf i = if i = k then x else A.cntOf i := by
  unfold AM.cntOf
  simp only
  rw [List.getElem?_set]
  by_cases h : i = k
  · subst h; rw [if_pos rfl, if_pos hk, if_pos rfl]; rfl
  · rw [if_neg (by omega), if_neg h]
theorem AM.nd_set {A : AM} {s : SM} {c : List Int} {k i : Int} {x : Nd} (hk : k.toNat < A.nodes.length) (h0 : 0 ≤ k) (hi : 0 ≤ i) : (AM.mk s (A.nodes.set k.toNat x) c).nd i = if i = k then x else A.nd i := by
  unfold AM.nd
  simp only
  rw [List.getElem?_set]
  by_cases h : i = k
  · subst h; rw [if_pos rfl, if_pos hk, if_pos rfl]; rfl
  · rw [if_neg (by omega), if_neg h]
theorem ARf.inc {A : AM} {R : List Int} {k : Int} (h : ARf A R) (hk : A.s.ok k = true) (h0 : 0 ≤ k) (hl : R.length + 1 ≤ 1000000000) : ARf (A.inc k) (k :: R) := by
  have hr := SM.ok_rng h.s h0 hk
  have hkl : k.toNat < A.cnt.length := by rw [h.cl]; exact hr.2.2.2
  have hb := h.cnt_le hk h0
  have hkids : (A.inc k).kids = A.kids := rfl
  refine ⟨h.toAWf.inc k, h.kid, h.sz, h.pos, fun r hr2 => ?_, fun i hi hi0 => ?_, h.zero, by simpa using hl⟩
  · rcases List.mem_cons.1 hr2 with rfl | hr2
    · exact .inr ⟨hr.1, hk⟩
    · exact h.ref r hr2
  · have hc := h.cnt i hi hi0
    rw [hkids, AM.inc, AM.cnt_set hkl h0 hi0]
    by_cases e : i = k
    · subst e
      rw [if_pos rfl, List.cons_append, List.count_cons_self, w64 (by omega)]
      omega
    · rw [if_neg e, List.cons_append, List.count_cons_of_ne (fun h => e h.symm)]; exact hc
theorem ARf.dec {A : AM} {R : List Int} {k : Int} (h : ARf A (k :: R)) (hk : A.s.ok k = true) (h0 : 0 ≤ k) (h1 : A.cntOf k ≠ 1) : ARf (A.dec k) R := by
  have hr := SM.ok_rng h.s h0 hk
  have hkl : k.toNat < A.cnt.length := by rw [h.cl]; exact hr.2.2.2
  have hb := h.cnt_le hk h0
  have hkids : (A.dec k).kids = A.kids := rfl
  refine ⟨⟨h.s, h.nl, by simpa [AM.dec] using h.cl⟩, h.kid, h.sz, h.pos, fun r hr2 => h.ref r (List.mem_cons_of_mem _ hr2), fun i hi hi0 => ?_, h.zero, by have := h.len; simp at this; omega⟩
  have hc := h.cnt i hi hi0
  rw [hkids, AM.dec, AM.cnt_set hkl h0 hi0]
  by_cases e : i = k
  · subst e
    rw [List.cons_append, List.count_cons_self] at hc
    rw [if_pos rfl, w64 (by omega)]
    omega
  · rw [List.cons_append, List.count_cons_of_ne (fun h => e h.symm)] at hc
    rw [if_neg e]; exact hc
def AM.freed (A : AM) (k : Int) : AM := ⟨A.s.release k, A.nodes.set k.toNat Nd.zero, A.cnt.set k.toNat (IntKind.i64.wrap (A.cntOf k - 1))⟩
theorem AM.freed_ok {A : AM} {k : Int} (h : SOk A.s) (hk : A.s.ok k = true) (h0 : 0 ≤ k) : ∀ j, 0 ≤ j → (A.freed k).s.ok j = if j = k then false else A.s.ok j := fun _ hj => SM.release_ok' h h0 hk hj
theorem ARf.free {A : AM} {R : List Int} {k : Int} (h : ARf A (k :: R)) (hk : A.s.ok k = true) (h0 : 0 ≤ k) (h1 : A.cntOf k = 1) (hl : R.length + 2 ≤ 1000000000) : ARf (A.freed k) ((A.nd k).lf :: (A.nd k).rg :: R) := by
  have hr := SM.ok_rng h.s h0 hk
  have hkl : k.toNat < A.cnt.length := by rw [h.cl]; exact hr.2.2.2
  have hkn : k.toNat < A.nodes.length := by rw [h.nl]; exact hr.2.2.2
  have hok := AM.freed_ok h.s hk h0
  have hnd : ∀ j, 0 ≤ j → j ≠ k → (A.freed k).nd j = A.nd j := fun j hj e => by
    unfold AM.freed; rw [AM.nd_set hkn h0 hj, if_neg e]
  have hkp := kids_perm hk h0 hok hnd
  have hck := (h.cnt k hk h0).1
  rw [h1, List.cons_append, List.count_cons_self] at hck
  have hc0 : (R ++ A.kids).count k = 0 := by omega
  rw [List.count_append] at hc0
  have hnR : k ∉ R := List.count_eq_zero.1 (by omega)
  have hnK : k ∉ A.kids := List.count_eq_zero.1 (by omega)
  have hkid : ∀ i, A.s.ok i = true → 0 ≤ i → ∀ c, c = (A.nd i).lf ∨ c = (A.nd i).rg → c = 0 ∨ (1 ≤ c ∧ (A.freed k).s.ok c = true) := fun i hi hi0 c hc => by
    rcases h.kid i hi hi0 c hc with e | ⟨c1, c2⟩
    · exact .inl e
    · refine .inr ⟨c1, ?_⟩
      have hne : c ≠ k := fun e => hnK ((A.mem_kids k).2 ⟨i, hi0, hi, by rw [← e]; exact hc⟩)
      rw [hok c (by omega), if_neg hne]; exact c2
  have hback : ∀ i, 0 ≤ i → (A.freed k).s.ok i = true → i ≠ k ∧ A.s.ok i = true := fun i hi0 hi => by
    rw [hok i hi0] at hi
    split at hi
    · cases hi
    · rename_i e; exact ⟨e, hi⟩
  have hsz : ∀ i, A.s.ok i = true → 0 ≤ i → ∀ c, c = (A.nd i).lf ∨ c = (A.nd i).rg → (A.freed k).sz c = A.sz c := fun i hi hi0 c hc => by
    rcases h.kid i hi hi0 c hc with e | ⟨c1, c2⟩
    · subst e
      unfold AM.sz
      have hu0 : A.s.ok 0 = false := h.s.u0
      rw [hok 0 (Int.le_refl _), if_neg (show ¬ (0 : Int) = k by omega), hu0]; rfl
    · have hne : c ≠ k := fun e => hnK ((A.mem_kids k).2 ⟨i, hi0, hi, by rw [← e]; exact hc⟩)
      unfold AM.sz
      rw [hok c (by omega), if_neg hne, hnd c (by omega) hne]
  refine ⟨⟨SM.release_sok h.s h0 hk, ?_, ?_⟩, fun i hi hi0 c hc => ?_, fun i hi hi0 => ?_, fun i hi hi0 => ?_, fun r hr2 => ?_, fun i hi hi0 => ?_, fun i hi hi1 => ?_, ?_⟩
  · show (A.nodes.set _ _).length = (A.s.used.set _ _).length
    rw [List.length_set, List.length_set]; exact h.nl
  · show (A.cnt.set _ _).length = (A.s.used.set _ _).length
    rw [List.length_set, List.length_set]; exact h.cl
  · obtain ⟨e, hi2⟩ := hback i hi0 hi
    rw [hnd i hi0 e] at hc
    exact hkid i hi2 hi0 c hc
  · obtain ⟨e, hi2⟩ := hback i hi0 hi
    rw [hnd i hi0 e, hsz i hi2 hi0 _ (.inl rfl), hsz i hi2 hi0 _ (.inr rfl)]
    exact h.sz i hi2 hi0
  · obtain ⟨e, hi2⟩ := hback i hi0 hi
    rw [hnd i hi0 e]; exact h.pos i hi2 hi0
  · simp only [List.mem_cons] at hr2
    rcases hr2 with e | e | hr2
    · exact hkid k hk h0 r (.inl e)
    · exact hkid k hk h0 r (.inr e)
    · rcases h.ref r (List.mem_cons_of_mem _ hr2) with e | ⟨r1, r2⟩
      · exact .inl e
      · have hne : r ≠ k := fun e => hnR (e ▸ hr2)
        exact .inr ⟨r1, by rw [hok r (by omega), if_neg hne]; exact r2⟩
  · obtain ⟨e, hi2⟩ := hback i hi0 hi
    have hc := h.cnt i hi2 hi0
    have he : (A.freed k).cntOf i = A.cntOf i := by unfold AM.freed; rw [AM.cnt_set hkl h0 hi0, if_neg e]
    rw [he]
    rw [List.cons_append, List.count_cons_of_ne (fun h => e h.symm)] at hc
    have hp : (R ++ A.kids).Perm ((A.nd k).lf :: (A.nd k).rg :: R ++ (A.freed k).kids) := by
      refine (List.Perm.append_left R hkp).trans ?_
      simp only [List.cons_append, List.nil_append]
      exact (List.perm_middle).trans ((List.Perm.cons _ List.perm_middle))
    rw [← hp.count_eq i]; exact hc
  · by_cases e : i = k
    · subst e
      unfold AM.freed
      rw [AM.nd_set hkn h0 h0, if_pos rfl]
    · have hi2 : A.s.ok i = false := by rw [hok i (by omega), if_neg e] at hi; exact hi
      rw [hnd i (by omega) e]; exact h.zero i hi2 hi1
  · simpa using hl
end Go.V
namespace Go.V
open Go Go.RowKit
def AM.put (A : AM) (n : Nd) : AM := ⟨A.s.alloc, A.nodes.set A.s.next.toNat n, A.cnt.set A.s.next.toNat 1⟩
def AM.make (A : AM) (n : Nd) : AM := ((A.put n).inc n.lf).inc n.rg
theorem AM.inc_cnt {A : AM} {k j : Int} (hk : k.toNat < A.cnt.length) (h0 : 0 ≤ k) (hj : 0 ≤ j) : (A.inc k).cntOf j = if j = k then IntKind.i64.wrap (A.cntOf k + 1) else A.cntOf j := AM.cnt_set hk h0 hj
theorem ARf.rng {A : AM} {R : List Int} (h : ARf A R) {r : Int} (hr : r ∈ R) : 0 ≤ r ∧ r < 4294967296 ∧ r ≤ 65536 := by
  rcases h.ref r hr with e | ⟨h1, h2⟩
  · omega
  · have h3 := SM.ok_rng h.s (by omega) h2
    have h4 := h.s.cap
    have h5 : A.s.cap = (A.s.used.length : Int) - 1 := rfl
    omega
theorem ARf.okrng {A : AM} {R : List Int} (h : ARf A R) {c : Int} (hc : c = 0 ∨ (1 ≤ c ∧ A.s.ok c = true)) : 0 ≤ c ∧ c ≤ 65536 ∧ c.toNat < A.s.used.length := by
  have h4 := h.s.cap
  have h5 : A.s.cap = (A.s.used.length : Int) - 1 := rfl
  rcases hc with e | ⟨h1, h2⟩
  · subst e; exact ⟨by omega, by omega, by show 0 < _; omega⟩
  · have h3 := SM.ok_rng h.s (by omega) h2
    omega
theorem ARf.make {A : AM} {R : List Int} {n : Nd} (h : ARf A R) (hf : 0 < A.s.free) (hl : n.lf = 0 ∨ (1 ≤ n.lf ∧ A.s.ok n.lf = true)) (hr : n.rg = 0 ∨ (1 ≤ n.rg ∧ A.s.ok n.rg = true))
    (hs : n.size = 1 + A.sz n.lf + A.sz n.rg ∧ n.size ≤ 2147483647) (hp : 1 ≤ n.size) (hlen : R.length + 1 ≤ 1000000000) : ARf (A.make n) (A.s.next :: R) := by
  have hn := SM.next_rng h.s hf
  have hno : A.s.ok A.s.next = false := hn.2.2.2
  have hok : ∀ j, 0 ≤ j → (A.make n).s.ok j = if j = A.s.next then true else A.s.ok j := fun j hj => SM.alloc_ok' h.s hf hj
  have hnl : A.s.next.toNat < A.nodes.length := by rw [h.nl]; exact hn.2.2.1
  have hcl : A.s.next.toNat < A.cnt.length := by rw [h.cl]; exact hn.2.2.1
  have hnd : ∀ j, 0 ≤ j → (A.make n).nd j = if j = A.s.next then n else A.nd j := fun j hj => AM.nd_set hnl (by omega) hj
  have hne : ∀ c, (c = 0 ∨ (1 ≤ c ∧ A.s.ok c = true)) → c ≠ A.s.next := fun c hc e => by
    rcases hc with e2 | ⟨_, h2⟩
    · omega
    · rw [e, hno] at h2; cases h2
  have hup : ∀ c, (c = 0 ∨ (1 ≤ c ∧ A.s.ok c = true)) → (c = 0 ∨ (1 ≤ c ∧ (A.make n).s.ok c = true)) := fun c hc => by
    have h1 := hne c hc
    rcases hc with e2 | ⟨h3, h2⟩
    · exact .inl e2
    · exact .inr ⟨h3, by rw [hok c (by omega), if_neg h1]; exact h2⟩
  have hsz : ∀ c, (c = 0 ∨ (1 ≤ c ∧ A.s.ok c = true)) → (A.make n).sz c = A.sz c := fun c hc => by
    have h1 := hne c hc
    have h0 : 0 ≤ c := by omega
    unfold AM.sz
    rw [hok c h0, if_neg h1, hnd c h0, if_neg h1]
  have hkp : (A.make n).kids.Perm ([n.lf, n.rg] ++ A.kids) := by
    have h1 := kids_perm (A := A.make n) (B := A) (k := A.s.next) (by rw [hok _ (by omega), if_pos rfl]) (by omega) (fun j hj => by
      rw [hok j hj]
      by_cases e : j = A.s.next
      · subst e; rw [if_pos rfl]; exact hno
      · rw [if_neg e, if_neg e]) (fun j hj e => by rw [hnd j hj, if_neg e])
    rw [hnd _ (by omega), if_pos rfl] at h1
    exact h1
  have hlr := h.okrng hl
  have hrr := h.okrng hr
  have hcnt : ∀ j, 1 ≤ j → (j = A.s.next ∨ A.s.ok j = true) → (A.make n).cntOf j = if j = A.s.next then 1 else A.cntOf j + (if j = n.lf then 1 else 0) + (if j = n.rg then 1 else 0) := fun j hj hjo => by
    have hpl : (A.put n).cnt.length = A.cnt.length := by simp [AM.put]
    have hpl2 : ((A.put n).inc n.lf).cnt.length = A.cnt.length := by simp [AM.inc, AM.put]
    have e1 : (A.make n).cntOf j = if j = n.rg then IntKind.i64.wrap (((A.put n).inc n.lf).cntOf n.rg + 1) else ((A.put n).inc n.lf).cntOf j := AM.inc_cnt (by rw [hpl2, h.cl]; exact hrr.2.2) hrr.1 (by omega)
    have e2 : ∀ x, 0 ≤ x → ((A.put n).inc n.lf).cntOf x = if x = n.lf then IntKind.i64.wrap ((A.put n).cntOf n.lf + 1) else (A.put n).cntOf x := fun x hx => AM.inc_cnt (by rw [hpl, h.cl]; exact hlr.2.2) hlr.1 hx
    have e3 : ∀ x, 0 ≤ x → (A.put n).cntOf x = if x = A.s.next then 1 else A.cntOf x := fun x hx => AM.cnt_set hcl (by omega) hx
    by_cases hj2 : j = A.s.next
    · rw [if_pos hj2, e1, if_neg (fun e => hne _ hr (by rw [← e]; exact hj2)), e2 j (by omega), if_neg (fun e => hne _ hl (by rw [← e]; exact hj2)), e3 j (by omega), if_pos hj2]
    · have hjo := hjo.resolve_left hj2
      have hb := h.cnt_le hjo (by omega)
      rw [if_neg hj2, e1]
      have e4 : ((A.put n).inc n.lf).cntOf j = A.cntOf j + (if j = n.lf then 1 else 0) := by
        rw [e2 j (by omega)]
        by_cases e : j = n.lf
        · rw [if_pos e, if_pos e, ← e, e3 j (by omega), if_neg hj2, w64 (by omega)]
        · rw [if_neg e, if_neg e, e3 j (by omega), if_neg hj2]; omega
      by_cases e : j = n.rg
      · rw [if_pos e, if_pos e, ← e, e4, w64 (by split <;> omega)]
      · rw [if_neg e, if_neg e, e4]; omega
  refine ⟨⟨SM.alloc_sok h.s hf, ?_, ?_⟩, fun i hi hi0 c hc => ?_, fun i hi hi0 => ?_, fun i hi hi0 => ?_, fun r hr2 => ?_, fun i hi hi0 => ?_, fun i hi hi1 => ?_, by simpa using hlen⟩
  · show (A.nodes.set _ _).length = (A.s.used.set _ _).length
    rw [List.length_set, List.length_set]; exact h.nl
  · show (((A.cnt.set _ _).set _ _).set _ _).length = (A.s.used.set _ _).length
    rw [List.length_set, List.length_set, List.length_set, List.length_set]; exact h.cl
  · rw [hnd i hi0] at hc
    by_cases e : i = A.s.next
    · rw [if_pos e] at hc
      rcases hc with hc | hc <;> rw [hc]
      · exact hup _ hl
      · exact hup _ hr
    · rw [if_neg e] at hc
      rw [hok i hi0, if_neg e] at hi
      exact hup _ (h.kid i hi hi0 c hc)
  · rw [hnd i hi0]
    by_cases e : i = A.s.next
    · rw [if_pos e, hsz _ hl, hsz _ hr]; exact hs
    · rw [if_neg e]
      rw [hok i hi0, if_neg e] at hi
      rw [hsz _ (h.kid i hi hi0 _ (.inl rfl)), hsz _ (h.kid i hi hi0 _ (.inr rfl))]
      exact h.sz i hi hi0
  · rw [hnd i hi0]
    by_cases e : i = A.s.next
    · rw [if_pos e]; exact hp
    · rw [if_neg e]
      rw [hok i hi0, if_neg e] at hi
      exact h.pos i hi hi0
  · rcases List.mem_cons.1 hr2 with e | hr2
    · rw [e]; exact .inr ⟨hn.1, by rw [hok _ (by omega), if_pos rfl]⟩
    · exact hup _ (h.ref r hr2)
  · have h1 : 1 ≤ i := by
      rcases Int.lt_or_le i 1 with h1 | h1
      · have : i = 0 := by omega
        subst this
        rw [hok 0 (by omega), if_neg (by omega), h.s.u0] at hi; cases hi
      · exact h1
    rw [hok i hi0] at hi
    have hp2 : (A.s.next :: R ++ (A.make n).kids).count i = (A.s.next :: (R ++ ([n.lf, n.rg] ++ A.kids))).count i := by
      rw [List.cons_append]
      exact (List.Perm.cons _ (List.Perm.append_left R hkp)).count_eq i
    rw [hp2]
    by_cases e : i = A.s.next
    · rw [hcnt i h1 (.inl e), if_pos e, e, List.count_cons_self, List.count_append, List.count_append]
      have c1 : R.count A.s.next = 0 := List.count_eq_zero.2 fun hm => hne _ (h.ref _ hm) rfl
      have c2 : [n.lf, n.rg].count A.s.next = 0 := List.count_eq_zero.2 fun hm => by
        rcases List.mem_cons.1 hm with e2 | hm
        · exact hne _ hl e2.symm
        · exact hne _ hr (List.mem_singleton.1 hm).symm
      have c3 : A.kids.count A.s.next = 0 := List.count_eq_zero.2 fun hm => by
        obtain ⟨j, j0, j1, jc⟩ := (A.mem_kids _).1 hm
        exact hne _ (h.kid j j1 j0 _ jc) rfl
      omega
    · rw [if_neg e] at hi
      have hc2 := h.cnt i hi hi0
      have hb := h.cnt_le hi hi0
      rw [List.count_append] at hc2
      rw [hcnt i h1 (.inr hi), if_neg e, List.count_cons_of_ne (fun h => e h.symm), List.count_append, List.count_append]
      have c2 : ([n.lf, n.rg].count i : Nat) = (if i = n.lf then 1 else 0) + (if i = n.rg then 1 else 0) := by
        rw [List.count_cons, List.count_cons, List.count_nil]
        have q1 : (n.lf == i) = decide (i = n.lf) := by rw [Bool.eq_iff_iff, beq_iff_eq, decide_eq_true_eq]; exact ⟨Eq.symm, Eq.symm⟩
        have q2 : (n.rg == i) = decide (i = n.rg) := by rw [Bool.eq_iff_iff, beq_iff_eq, decide_eq_true_eq]; exact ⟨Eq.symm, Eq.symm⟩
        rw [q1, q2]
        simp only [decide_eq_true_eq]
        omega
      rw [c2]
      split <;> split <;> omega
  · rw [hnd i (by omega)]
    rw [hok i (by omega)] at hi
    by_cases e : i = A.s.next
    · rw [if_pos e] at hi; cases hi
    · rw [if_neg e] at hi ⊢
      exact h.zero i hi hi1
theorem SOk.free_rng {S : SM} (h : SOk S) : 0 ≤ S.free ∧ S.free ≤ 131072 := by
  have h1 := h.rle; have h2 := h.cap; have h3 := h.fr; have h4 : S.cap = (S.used.length : Int) - 1 := rfl
  unfold SM.free; omega
theorem AM.cnt_live {A : AM} (h : SOk A.s) : A.s.free + A.live.length = A.s.cap := by
  have hc : A.s.cap = (A.s.used.length : Int) - 1 := rfl
  have hcp := h.cap
  have hfr := h.fr
  have hp : ((List.range A.s.cap.toNat).map fun i : Nat => (i : Int) + 1).Perm (A.live ++ (A.s.rel ++ (List.range (A.s.cap - A.s.fresh).toNat).map fun i : Nat => A.s.fresh + 1 + (i : Int))) := by
    refine (List.perm_ext_iff_of_nodup ?_ ?_).2 fun j => ?_
    · exact List.pairwise_map.2 ((List.nodup_range).imp fun h e => h (by omega))
    · refine List.nodup_append.2 ⟨A.live_nodup, List.nodup_append.2 ⟨h.nd, List.pairwise_map.2 ((List.nodup_range).imp fun h e => h (by omega)), fun a ha b hb e => ?_⟩, fun a ha b hb e => ?_⟩
      · have h1 := h.rm a ha
        obtain ⟨i, _, rfl⟩ := List.mem_map.1 hb
        omega
      · have h1 := (A.mem_live a).1 ha
        rcases List.mem_append.1 hb with hb | hb
        · have h2 := (h.rm b hb).2.2
          rw [← e, h1.2] at h2; cases h2
        · obtain ⟨i, _, e2⟩ := List.mem_map.1 hb
          have h2 := h.hi a (by omega)
          rw [h1.2] at h2; cases h2
    · rw [List.mem_append, List.mem_append, A.mem_live, List.mem_map, List.mem_map]
      constructor
      · rintro ⟨i, hi, rfl⟩
        have hi := List.mem_range.1 hi
        by_cases ho : A.s.ok ((i : Int) + 1) = true
        · exact .inl ⟨by omega, ho⟩
        · right
          by_cases hf : (i : Int) + 1 ≤ A.s.fresh
          · exact .inl (h.cov _ (by omega) hf (by simpa using ho))
          · exact .inr ⟨((i : Int) - A.s.fresh).toNat, List.mem_range.2 (by omega), by omega⟩
      · rintro (⟨h0, h1⟩ | h1 | ⟨i, hi, rfl⟩)
        · have h2 := SM.ok_rng h h0 h1
          exact ⟨(j - 1).toNat, List.mem_range.2 (by omega), by omega⟩
        · have h2 := h.rm j h1
          exact ⟨(j - 1).toNat, List.mem_range.2 (by omega), by omega⟩
        · have hi := List.mem_range.1 hi
          exact ⟨(A.s.fresh + i).toNat, List.mem_range.2 (by omega), by omega⟩
  have h1 := hp.length_eq
  simp only [List.length_map, List.length_range, List.length_append] at h1
  unfold SM.free
  omega
theorem live_sub {A B : AM} (h : ∀ j, 0 ≤ j → B.s.ok j = true → A.s.ok j = true) : B.live.length ≤ A.live.length := by
  have hh : ∀ {l m : List Int}, l.Nodup → (∀ z ∈ l, z ∈ m) → l.length ≤ m.length := by
    intro l
    induction l with
    | nil => intro m _ _; exact Nat.zero_le _
    | cons x t ih =>
      intro m hn hs
      obtain ⟨h1, h2⟩ := List.nodup_cons.1 hn
      have h3 : x ∈ m := hs x (List.mem_cons_self ..)
      have h4 := ih (m := m.erase x) h2 (fun z hz => (List.mem_erase_of_ne (fun e => h1 (by rw [← e]; exact hz))).2 (hs z (List.mem_cons_of_mem _ hz)))
      rw [List.length_erase_of_mem h3] at h4
      have := List.length_pos_of_mem h3
      simp; omega
  exact hh B.live_nodup fun z hz => by
    have := (B.mem_live z).1 hz
    exact (A.mem_live z).2 ⟨this.1, h z this.1 this.2⟩
def lrOf (l r : Int) (k : Nat) : Int := if k = 0 then l else r
theorem lr_at {l r : Int} {k : Nat} (h : k < 2) : (#[.int .u32 l, .int .u32 r] : Array Value)[k]? = some (.int .u32 (lrOf l r k)) := by
  match k, h with
  | 0, _ => rfl
  | 1, _ => rfl
def ndAdd (n x : Nd) : Nd := ⟨n.key, n.val, n.lf, n.rg, n.size + x.size, IntKind.i64.wrap (n.sum + x.sum), min n.mn x.mn, max n.mx x.mx⟩
def accN (A : AM) (l r : Int) (n : Nd) : Nat → Nd
  | 0 => n
  | k + 1 => if lrOf l r k = 0 then accN A l r n k else ndAdd (accN A l r n k) (A.nd (lrOf l r k))
def ndBase (key val l r : Int) : Nd := ⟨key, val, l, r, 1, val, val, val⟩
def AM.nodeOf (A : AM) (key val l r : Int) : Nd := accN A l r (ndBase key val l r) 2
theorem accN_lf (A : AM) (l r : Int) (n : Nd) : ∀ k, (accN A l r n k).lf = n.lf ∧ (accN A l r n k).rg = n.rg ∧ (accN A l r n k).key = n.key ∧ (accN A l r n k).val = n.val
  | 0 => ⟨rfl, rfl, rfl, rfl⟩
  | k + 1 => by
    unfold accN
    split
    · exact accN_lf A l r n k
    · exact accN_lf A l r n k
structure Kd (A : AM) (l r : Int) : Prop where
  cl : l = 0 ∨ (1 ≤ l ∧ A.s.ok l = true)
  cr : r = 0 ∨ (1 ≤ r ∧ A.s.ok r = true)
  lz : 0 ≤ A.sz l
  rz : 0 ≤ A.sz r
  z : 1 + A.sz l + A.sz r ≤ 2147483647
theorem sz_0 {A : AM} (h : SOk A.s) : A.sz 0 = 0 := by unfold AM.sz; rw [h.u0]; rfl
theorem sz_ok {A : AM} {c : Int} (h : A.s.ok c = true) : A.sz c = (A.nd c).size := by unfold AM.sz; rw [if_pos h]
theorem Kd.at_ {A : AM} {l r : Int} (h : Kd A l r) (k : Nat) : (lrOf l r k = 0 ∨ (1 ≤ lrOf l r k ∧ A.s.ok (lrOf l r k) = true)) ∧ 0 ≤ A.sz (lrOf l r k) := by
  unfold lrOf
  split
  · exact ⟨h.cl, h.lz⟩
  · exact ⟨h.cr, h.rz⟩
theorem accN_sz {A : AM} (hA : AWf A) {l r : Int} (h : Kd A l r) (n : Nd) (k : Nat) : (accN A l r n (k + 1)).size = (accN A l r n k).size + A.sz (lrOf l r k) := by
  rw [accN]
  split
  · rename_i e; rw [e, sz_0 hA.s]; omega
  · rename_i e; rw [sz_ok ((h.at_ k).1.resolve_left e).2]; rfl
theorem nodeOf_sz {A : AM} (hA : AWf A) {key val l r : Int} (h : Kd A l r) : (A.nodeOf key val l r).size = 1 + A.sz l + A.sz r := by
  unfold AM.nodeOf
  rw [accN_sz hA h, accN_sz hA h]; rfl
theorem accN_le {A : AM} (hA : AWf A) {key val l r : Int} (h : Kd A l r) {k : Nat} (hk : k < 2) : 1 ≤ (accN A l r (ndBase key val l r) k).size ∧ (accN A l r (ndBase key val l r) k).size + A.sz (lrOf l r k) ≤ 2147483647 := by
  have h1 := h.lz; have h2 := h.rz; have h3 := h.z
  match k, hk with
  | 0, _ => exact ⟨by simp [accN, ndBase], by show 1 + A.sz l ≤ _; omega⟩
  | 1, _ =>
    rw [accN_sz hA h]
    exact ⟨by show 1 ≤ 1 + A.sz l; omega, by show 1 + A.sz l + A.sz r ≤ _; omega⟩
theorem okrng0 {A : AM} (h : AWf A) {c : Int} (hc : c = 0 ∨ (1 ≤ c ∧ A.s.ok c = true)) : 0 ≤ c ∧ c ≤ 65536 ∧ c.toNat < A.s.used.length := by
  have h4 := h.s.cap
  have h5 : A.s.cap = (A.s.used.length : Int) - 1 := rfl
  rcases hc with e | ⟨h1, h2⟩
  · subst e; exact ⟨by omega, by omega, by show 0 < _; omega⟩
  · have h3 := SM.ok_rng h.s (by omega) h2
    omega
theorem make_eq {A : AM} {n : Nd} {l r z2 z3 : Int} (h2 : (A.cnt.set A.s.next.toNat 1)[l.toNat]? = some z2) (h3 : ((A.cnt.set A.s.next.toNat 1).set l.toNat (IntKind.i64.wrap (z2 + 1)))[r.toNat]? = some z3) (hl : n.lf = l) (hr : n.rg = r) :
    A.make n = AM.mk A.s.alloc (A.nodes.set A.s.next.toNat n) (((A.cnt.set A.s.next.toNat 1).set l.toNat (IntKind.i64.wrap (z2 + 1))).set r.toNat (IntKind.i64.wrap (z3 + 1))) := by
  subst hl; subst hr
  have e1 : (A.put n).cntOf n.lf = z2 := by unfold AM.cntOf; show ((A.cnt.set A.s.next.toNat 1)[n.lf.toNat]?).getD 0 = z2; rw [h2]; rfl
  have e2 : (A.put n).inc n.lf = AM.mk A.s.alloc (A.nodes.set A.s.next.toNat n) ((A.cnt.set A.s.next.toNat 1).set n.lf.toNat (IntKind.i64.wrap (z2 + 1))) := by unfold AM.inc; rw [e1]; rfl
  unfold AM.make
  rw [e2]
  unfold AM.inc AM.cntOf
  simp only
  rw [h3]; rfl
def Is (A : AM) : Tr → Int → Prop
  | .nil, i => i = 0
  | .node l k v r, i => 1 ≤ i ∧ A.s.ok i = true ∧ (A.nd i).key = k ∧ (A.nd i).val = v ∧ Is A l (A.nd i).lf ∧ Is A r (A.nd i).rg
theorem Is.sz {A : AM} {R : List Int} (h : ARf A R) : ∀ (t : Tr) (i : Int), Is A t i → A.sz i = t.n
  | .nil, i, hi => by
    have : i = 0 := hi
    subst this
    unfold AM.sz
    rw [h.s.u0]; rfl
  | .node l k v r, i, ⟨h1, h2, _, _, h5, h6⟩ => by
    have hs := (h.sz i h2 (by omega)).1
    rw [Is.sz h l _ h5, Is.sz h r _ h6] at hs
    unfold AM.sz
    rw [if_pos h2, hs]; simp only [Tr.n]; omega
theorem Is.ref {A : AM} : ∀ {t : Tr} {i : Int}, Is A t i → i = 0 ∨ (1 ≤ i ∧ A.s.ok i = true)
  | .nil, _, h => .inl h
  | .node _ _ _ _, _, h => .inr ⟨h.1, h.2.1⟩
theorem Is.nil_iff {A : AM} {t : Tr} {i : Int} (h : Is A t i) : i = 0 ↔ t = .nil := by
  cases t with
  | nil => exact ⟨fun _ => rfl, fun _ => h⟩
  | node => exact ⟨fun e => absurd h.1 (by omega), fun e => by cases e⟩
theorem ARf.tree {A : AM} {R : List Int} (h : ARf A R) : ∀ (m : Nat) (i : Int), (i = 0 ∨ (1 ≤ i ∧ A.s.ok i = true)) → A.sz i ≤ m → ∃ t, Is A t i
  | m, i, hi, hm => by
    induction m using Nat.strongRecOn generalizing i with
    | _ m ih =>
      rcases hi with e | ⟨h1, h2⟩
      · exact ⟨.nil, e⟩
      · have hs := (h.sz i h2 (by omega)).1
        have hp := h.pos i h2 (by omega)
        have e : A.sz i = (A.nd i).size := by unfold AM.sz; rw [if_pos h2]
        have hk := fun c hc => h.kid i h2 (by omega) c hc
        have hn : ∀ c, (c = 0 ∨ (1 ≤ c ∧ A.s.ok c = true)) → 0 ≤ A.sz c := fun c hc => by
          rcases hc with e | ⟨c1, c2⟩
          · subst e; unfold AM.sz; rw [h.s.u0]; exact Int.le_refl _
          · have := h.pos c c2 (by omega); unfold AM.sz; rw [if_pos c2]; omega
        have hl := hn _ (hk _ (.inl rfl))
        have hr := hn _ (hk _ (.inr rfl))
        obtain ⟨l, il⟩ := ih (m - 1) (by omega) _ (hk _ (.inl rfl)) (by omega)
        obtain ⟨r, ir⟩ := ih (m - 1) (by omega) _ (hk _ (.inr rfl)) (by omega)
        exact ⟨.node l _ _ r, h1, h2, rfl, rfl, il, ir⟩
def Kp (A B : AM) (R : List Int) : Prop := ∀ r ∈ R, ∀ t, Is A t r → Is B t r
theorem Kp.refl (A : AM) (R : List Int) : Kp A A R := fun _ _ _ h => h
theorem Kp.trans {A B C : AM} {R : List Int} (h : Kp A B R) (k : Kp B C R) : Kp A C R := fun r hr t ht => k r hr t (h r hr t ht)
theorem Kp.sub {A B : AM} {R R' : List Int} (h : Kp A B R) (hs : ∀ r ∈ R', r ∈ R) : Kp A B R' := fun r hr t ht => h r (hs r hr) t ht
theorem Kp.cons {A B : AM} {R : List Int} {x : Int} (h : Kp A B (x :: R)) : Kp A B R := h.sub fun _ hr => List.mem_cons_of_mem _ hr
theorem Is.mono {A B : AM} {RB : List Int} (hB : ARf B RB) (h : ∀ j, 0 ≤ j → B.s.ok j = true → B.nd j = A.nd j) : ∀ (t : Tr) (i : Int), Is A t i → (i = 0 ∨ B.s.ok i = true) → Is B t i
  | .nil, _, hi, _ => hi
  | .node l k v r, i, ⟨h1, h2, h3, h4, h5, h6⟩, hb => by
    have hb : B.s.ok i = true := hb.resolve_left (by omega)
    have hk := fun c hc => hB.kid i hb (by omega) c hc
    have e := h i (by omega) hb
    refine ⟨h1, hb, by rw [e]; exact h3, by rw [e]; exact h4, ?_, ?_⟩
    · rw [e]; exact Is.mono hB h l _ h5 ((hk _ (.inl (by rw [e]))).imp id (·.2))
    · rw [e]; exact Is.mono hB h r _ h6 ((hk _ (.inr (by rw [e]))).imp id (·.2))
theorem Is.up {A B : AM} (h : ∀ j, 1 ≤ j → A.s.ok j = true → B.s.ok j = true ∧ B.nd j = A.nd j) : ∀ (t : Tr) (i : Int), Is A t i → Is B t i
  | .nil, _, hi => hi
  | .node l k v r, i, ⟨h1, h2, h3, h4, h5, h6⟩ => by
    obtain ⟨hb, e⟩ := h i h1 h2
    refine ⟨h1, hb, by rw [e]; exact h3, by rw [e]; exact h4, ?_, ?_⟩
    · rw [e]; exact Is.up h l _ h5
    · rw [e]; exact Is.up h r _ h6
structure TOp (A B : AM) (R : List Int) (i : Int) (t : Tr) (c : Nat) : Prop where
  ref : ARf B (i :: R)
  is : Is B t i
  kp : Kp A B R
  fr : A.s.free ≤ B.s.free + c
  cap : B.s.used.length = A.s.used.length
theorem TOp.rng {A B : AM} {R : List Int} {i : Int} {t : Tr} {c : Nat} (h : TOp A B R i t c) : 0 ≤ i ∧ i < 4294967296 := ⟨(h.ref.rng (List.mem_cons_self ..)).1, (h.ref.rng (List.mem_cons_self ..)).2.1⟩
theorem ARf.refl {A : AM} {R : List Int} {i : Int} {t : Tr} (h : ARf A (i :: R)) (hi : Is A t i) : TOp A A R i t 0 := ⟨h, hi, Kp.refl _ _, by omega, rfl⟩
theorem TOp.trans {A B C : AM} {R R' : List Int} {i j : Int} {t u : Tr} {c d : Nat} (h : TOp A B R' i t c) (k : TOp B C R j u d) (hs : ∀ r ∈ R, r ∈ R') : TOp A C R j u (c + d) :=
  ⟨k.ref, k.is, (h.kp.sub hs).trans k.kp, by have := h.fr; have := k.fr; omega, k.cap.trans h.cap⟩
theorem TOp.weak {A B : AM} {R : List Int} {i : Int} {t : Tr} {c d : Nat} (h : TOp A B R i t c) (hd : c ≤ d) : TOp A B R i t d := ⟨h.ref, h.is, h.kp, by have := h.fr; omega, h.cap⟩
theorem AM.ret_eq {A : AM} {R : List Int} (h : ARf A R) {i : Int} (hi : i = 0 ∨ (1 ≤ i ∧ A.s.ok i = true)) (hl : R.length + 1 ≤ 1000000000) : ARf (A.ret i) (i :: R) ∧ A.retE i = 0 := by
  unfold AM.ret AM.retE
  rcases hi with e | ⟨h1, h2⟩
  · subst e; rw [if_neg (fun h => h.1 rfl), if_pos (.inl rfl)]; exact ⟨h.cons0 hl, rfl⟩
  · rw [if_pos ⟨by omega, h2⟩, if_pos (.inr h2)]; exact ⟨h.inc h2 (by omega) hl, rfl⟩
theorem Is.same {A B : AM} (hs : B.s = A.s) (hn : B.nodes = A.nodes) : ∀ (t : Tr) (i : Int), Is A t i → Is B t i := by
  refine fun t i h => Is.up (fun j _ hj => ⟨by rw [hs]; exact hj, ?_⟩) t i h
  unfold AM.nd; rw [hn]
theorem AM.ret_same (A : AM) (i : Int) : (A.ret i).s = A.s ∧ (A.ret i).nodes = A.nodes := by
  unfold AM.ret
  split <;> exact ⟨rfl, rfl⟩
theorem Is.ret {A : AM} {t : Tr} {j : Int} (i : Int) (h : Is A t j) : Is (A.ret i) t j := Is.same (A.ret_same i).1 (A.ret_same i).2 t j h
theorem Kp.ret (A : AM) (i : Int) (R : List Int) : Kp A (A.ret i) R := fun _ _ _ h => h.ret i
end Go.V
namespace Go.V
open Go Go.RowKit
theorem AM.make_keep {A : AM} {n : Nd} (h : AWf A) (hf : 0 < A.s.free) : (∀ j, 1 ≤ j → A.s.ok j = true → (A.make n).s.ok j = true ∧ (A.make n).nd j = A.nd j) ∧ (A.make n).s.ok A.s.next = true ∧ (A.make n).nd A.s.next = n ∧ (A.make n).s.free = A.s.free - 1 ∧ (A.make n).s.used.length = A.s.used.length := by
  have hn := SM.next_rng h.s hf
  have hnl : A.s.next.toNat < A.nodes.length := by rw [h.nl]; exact hn.2.2.1
  have hok : ∀ j, 0 ≤ j → (A.make n).s.ok j = if j = A.s.next then true else A.s.ok j := fun j hj => SM.alloc_ok' h.s hf hj
  have hnd : ∀ j, 0 ≤ j → (A.make n).nd j = if j = A.s.next then n else A.nd j := fun j hj => AM.nd_set hnl (by omega) hj
  refine ⟨fun j hj ho => ?_, by rw [hok _ (by omega), if_pos rfl], by rw [hnd _ (by omega), if_pos rfl], SM.alloc_free _, ?_⟩
  · have hne : j ≠ A.s.next := fun e => by rw [e, hn.2.2.2] at ho; cases ho
    rw [hok j (by omega), hnd j (by omega), if_neg hne, if_neg hne]; exact ⟨ho, rfl⟩
  · show (A.s.used.set _ _).length = _
    rw [List.length_set]
structure Mk (A : AM) (R : List Int) (l r : Int) (tl tr : Tr) (k v : Int) : Prop where
  kd : Kd A l r
  rf : ARf (A.make (A.nodeOf k v l r)) (A.s.next :: l :: r :: R)
  is : Is (A.make (A.nodeOf k v l r)) (.node tl k v tr) A.s.next
  kp : Kp A (A.make (A.nodeOf k v l r)) (l :: r :: R)
  fr : (A.make (A.nodeOf k v l r)).s.free = A.s.free - 1
  cap : (A.make (A.nodeOf k v l r)).s.used.length = A.s.used.length
theorem Mk.of {A : AM} {R : List Int} {l r : Int} {tl tr : Tr} {k v : Int} (hA : ARf A (l :: r :: R)) (hl : Is A tl l) (hr : Is A tr r) (hf : 0 < A.s.free) (hz : tl.n + tr.n ≤ 2000000000) (hlen : R.length + 4 ≤ 1000000000) : Mk A R l r tl tr k v := by
  have hn := SM.next_rng hA.s hf
  have e1 := Is.sz hA tl l hl
  have e2 := Is.sz hA tr r hr
  have kd : Kd A l r := ⟨hl.ref, hr.ref, by omega, by omega, by omega⟩
  have hnl := accN_lf A l r (ndBase k v l r) 2
  have hlf : (A.nodeOf k v l r).lf = l := hnl.1
  have hrg : (A.nodeOf k v l r).rg = r := hnl.2.1
  have hky : (A.nodeOf k v l r).key = k := hnl.2.2.1
  have hvl : (A.nodeOf k v l r).val = v := hnl.2.2.2
  have hsz := nodeOf_sz hA.toAWf (key := k) (val := v) kd
  obtain ⟨k1, k2, k3, k4, k5⟩ := AM.make_keep (n := A.nodeOf k v l r) hA.toAWf hf
  have rf := hA.make (n := A.nodeOf k v l r) hf (by rw [hlf]; exact hl.ref) (by rw [hrg]; exact hr.ref) (by rw [hlf, hrg]; omega) (by omega) (by simp; omega)
  refine ⟨kd, rf, ⟨hn.1, k2, by rw [k3]; exact hky, by rw [k3]; exact hvl, ?_, ?_⟩, fun x _ t ht => Is.up k1 t x ht, k4, k5⟩
  · rw [k3, hlf]; exact Is.up k1 tl l hl
  · rw [k3, hrg]; exact Is.up k1 tr r hr
structure Rl (A B : AM) (R : List Int) : Prop where
  ref : ARf B R
  kp : Kp A B R
  fr : A.s.free ≤ B.s.free
  cap : B.s.used.length = A.s.used.length
theorem Mk.op {A B C : AM} {R : List Int} {l r : Int} {tl tr : Tr} {k v : Int} (h : Mk A R l r tl tr k v) (h1 : Rl (A.make (A.nodeOf k v l r)) B (A.s.next :: r :: R)) (h2 : Rl B C (A.s.next :: R)) : TOp A C R A.s.next (.node tl k v tr) 1 :=
  ⟨h2.ref, h2.kp _ (List.mem_cons_self ..) _ (h1.kp _ (List.mem_cons_self ..) _ h.is),
    fun x hx t ht => h2.kp x (List.mem_cons_of_mem _ hx) t (h1.kp x (List.mem_cons_of_mem _ (List.mem_cons_of_mem _ hx)) t (h.kp x (List.mem_cons_of_mem _ (List.mem_cons_of_mem _ hx)) t ht)),
    by have := h.fr; have := h1.fr; have := h2.fr; omega, by rw [h2.cap, h1.cap, h.cap]⟩
theorem Mk.p1 {A : AM} {R : List Int} {l r : Int} {tl tr : Tr} {k v : Int} (h : Mk A R l r tl tr k v) : ARf (A.make (A.nodeOf k v l r)) (l :: A.s.next :: r :: R) := h.rf.perm (List.Perm.swap _ _ _)
theorem Rl.p1 {A B : AM} {R : List Int} {x r : Int} (h : Rl A B (x :: r :: R)) : ARf B (r :: x :: R) := h.ref.perm (List.Perm.swap _ _ _)
structure Opn (A B : AM) (R : List Int) (x y : Int) (l r : Tr) : Prop where
  ref : ARf B (x :: y :: R)
  il : Is B l x
  ir : Is B r y
  kp : Kp A B R
  fr : A.s.free ≤ B.s.free
  cap : B.s.used.length = A.s.used.length
theorem Opn.rng {A B : AM} {R : List Int} {x y : Int} {l r : Tr} (h : Opn A B R x y l r) : (0 ≤ x ∧ x < 4294967296) ∧ 0 ≤ y ∧ y < 4294967296 := by
  have h1 := h.ref.rng (r := x) (by simp)
  have h2 := h.ref.rng (r := y) (by simp)
  omega
theorem Opn.of {A B : AM} {R : List Int} {i k v : Int} {l r : Tr} (hi : Is A (.node l k v r) i) (h : Rl ((A.ret (A.nd i).lf).ret (A.nd i).rg) B ((A.nd i).lf :: (A.nd i).rg :: R)) : Opn A B R (A.nd i).lf (A.nd i).rg l r :=
  ⟨h.ref, h.kp _ (by simp) _ ((hi.2.2.2.2.1.ret _).ret _), h.kp _ (by simp) _ ((hi.2.2.2.2.2.ret _).ret _), fun x hx t ht => h.kp x (by simp [hx]) t ((ht.ret _).ret _),
    by have := h.fr; rw [(AM.ret_same _ _).1, (AM.ret_same _ _).1] at this; exact this, by rw [h.cap, (AM.ret_same _ _).1, (AM.ret_same _ _).1]⟩
theorem Opn.swap {A B : AM} {R : List Int} {x y : Int} {l r : Tr} (h : Opn A B R x y l r) : ARf B (y :: x :: R) := h.ref.perm (List.Perm.swap _ _ _)
structure Ch (A B : AM) (R : List Int) (c : Nat) : Prop where
  kp : Kp A B R
  fr : A.s.free ≤ B.s.free + c
  cap : B.s.used.length = A.s.used.length
theorem Ch.trans {A B C : AM} {R R' R'' : List Int} {c d : Nat} (h : Ch A B R' c) (k : Ch B C R'' d) (h1 : ∀ r ∈ R, r ∈ R') (h2 : ∀ r ∈ R, r ∈ R'') : Ch A C R (c + d) :=
  ⟨(h.kp.sub h1).trans (k.kp.sub h2), by have := h.fr; have := k.fr; omega, k.cap.trans h.cap⟩
theorem Opn.ch {A B : AM} {R : List Int} {x y : Int} {l r : Tr} (h : Opn A B R x y l r) : Ch A B R 0 := ⟨h.kp, by have := h.fr; omega, h.cap⟩
theorem TOp.ch {A B : AM} {R : List Int} {i : Int} {t : Tr} {c : Nat} (h : TOp A B R i t c) : Ch A B R c := ⟨h.kp, h.fr, h.cap⟩
theorem Rl.ch {A B : AM} {R : List Int} (h : Rl A B R) : Ch A B R 0 := ⟨h.kp, by have := h.fr; omega, h.cap⟩
theorem TOp.after {A B C : AM} {R R' : List Int} {i : Int} {t : Tr} {c d e : Nat} (k : TOp B C R i t d) (h : Ch A B R' c) (h1 : ∀ r ∈ R, r ∈ R') (he : c + d ≤ e) : TOp A C R i t e :=
  let q := h.trans k.ch h1 (fun _ h => h)
  ⟨k.ref, k.is, q.kp, by have := q.fr; omega, q.cap⟩
theorem ARf.sw {A : AM} {R : List Int} {a b : Int} (h : ARf A (a :: b :: R)) : ARf A (b :: a :: R) := h.perm (List.Perm.swap _ _ _)
theorem ARf.r3 {A : AM} {R : List Int} {a b c : Int} (h : ARf A (a :: b :: c :: R)) : ARf A (c :: a :: b :: R) := h.perm ((List.Perm.cons a (List.Perm.swap c b R)).trans (List.Perm.swap c a _))
theorem ARf.r4 {A : AM} {R : List Int} {a b c d : Int} (h : ARf A (a :: b :: c :: d :: R)) : ARf A (d :: a :: b :: c :: R) := h.perm ((List.Perm.cons a ((List.Perm.cons b (List.Perm.swap d c R)).trans (List.Perm.swap d b _))).trans (List.Perm.swap d a _))
theorem sb1 {a : Int} {R : List Int} : ∀ r ∈ R, r ∈ a :: R := fun _ h => List.mem_cons_of_mem _ h
theorem sb2 {a b : Int} {R : List Int} : ∀ r ∈ R, r ∈ a :: b :: R := fun _ h => List.mem_cons_of_mem _ (List.mem_cons_of_mem _ h)
theorem sb0 {R : List Int} : ∀ r ∈ R, r ∈ R := fun _ h => h
end Go.V
namespace Go.V
open Go Go.RowKit
def ixs (A : AM) : Tr → Int → List Int
  | .nil, _ => []
  | .node l _ _ r, i => ixs A l (A.nd i).lf ++ i :: ixs A r (A.nd i).rg
theorem ixs_keys (A : AM) : ∀ (t : Tr) (i : Int), Is A t i → (ixs A t i).map (fun j => ((A.nd j).key, (A.nd j).val)) = t.ls
  | .nil, _, _ => rfl
  | .node l k v r, i, ⟨_, _, h3, h4, h5, h6⟩ => by
    unfold ixs Tr.ls
    rw [List.map_append, List.map_cons, ixs_keys A l _ h5, ixs_keys A r _ h6, h3, h4]
theorem ixs_len (A : AM) {t : Tr} {i : Int} (h : Is A t i) : (ixs A t i).length = t.n := by
  rw [← Tr.ls_len, ← ixs_keys A t i h, List.length_map]
theorem ixs_nodup {A : AM} {t : Tr} {i : Int} (h : Is A t i) (hs : Srt t.ls) : (ixs A t i).Nodup := by
  have h1 := ixs_keys A t i h
  rw [← h1] at hs
  have h2 := List.pairwise_map.1 hs
  exact h2.imp fun {a b} hab e => by subst e; exact absurd hab (by omega)
theorem ixs_ok (A : AM) : ∀ (t : Tr) (i : Int), Is A t i → ∀ j ∈ ixs A t i, 1 ≤ j ∧ A.s.ok j = true
  | .nil, _, _, _, hj => by cases hj
  | .node l k v r, i, ⟨h1, h2, _, _, h5, h6⟩, j, hj => by
    unfold ixs at hj
    rcases List.mem_append.1 hj with hj | hj
    · exact ixs_ok A l _ h5 j hj
    · rcases List.mem_cons.1 hj with rfl | hj
      · exact ⟨h1, h2⟩
      · exact ixs_ok A r _ h6 j hj
theorem ixs_root {A : AM} : ∀ {t : Tr} {i : Int}, Is A t i → i ≠ 0 → i ∈ ixs A t i
  | .nil, _, h, hne => absurd h hne
  | .node _ _ _ _, _, _, _ => by unfold ixs; simp
theorem ixs_kid {A : AM} : ∀ (t : Tr) (i : Int), Is A t i → ∀ j ∈ ixs A t i, ∀ c, c = (A.nd j).lf ∨ c = (A.nd j).rg → c ≠ 0 → c ∈ ixs A t i
  | .nil, _, _, _, hj, _, _, _ => by cases hj
  | .node l k v r, i, ⟨h1, h2, _, _, h5, h6⟩, j, hj, c, hc, hne => by
    unfold ixs at hj ⊢
    rcases List.mem_append.1 hj with hj | hj
    · exact List.mem_append_left _ (ixs_kid l _ h5 j hj c hc hne)
    · rcases List.mem_cons.1 hj with rfl | hj
      · rcases hc with rfl | rfl
        · exact List.mem_append_left _ (ixs_root h5 hne)
        · exact List.mem_append_right _ (List.mem_cons_of_mem _ (ixs_root h6 hne))
      · exact List.mem_append_right _ (List.mem_cons_of_mem _ (ixs_kid r _ h6 j hj c hc hne))
theorem reach {A : AM} {R : List Int} (h : ARf A R) (S : Int → Prop) (hR : ∀ r ∈ R, r ≠ 0 → S r) (hK : ∀ j, 1 ≤ j → A.s.ok j = true → S j → ∀ c, c = (A.nd j).lf ∨ c = (A.nd j).rg → c ≠ 0 → S c) : ∀ j, 1 ≤ j → A.s.ok j = true → S j := by
  have key : ∀ (m : Nat) (j : Int), 1 ≤ j → A.s.ok j = true → 2147483647 - (A.nd j).size < m → S j := by
    intro m
    induction m with
    | zero => intro j h1 h2 h3; have := (h.sz j h2 (by omega)).2; omega
    | succ m ih =>
      intro j h1 h2 h3
      have hc := h.cnt j h2 (by omega)
      have hm : j ∈ R ++ A.kids := List.count_pos_iff.1 (by omega)
      rcases List.mem_append.1 hm with hm | hm
      · exact hR j hm (by omega)
      · obtain ⟨p, p0, p1, p2⟩ := (A.mem_kids j).1 hm
        have hp1 := (SM.ok_rng h.s p0 p1).1
        have hsz := (h.sz p p1 p0).1
        have hn : ∀ c, (c = 0 ∨ (1 ≤ c ∧ A.s.ok c = true)) → 0 ≤ A.sz c := fun c hc => by
          rcases hc with e | ⟨c1, c2⟩
          · subst e; unfold AM.sz; rw [h.s.u0]; exact Int.le_refl _
          · have := h.pos c c2 (by omega); unfold AM.sz; rw [if_pos c2]; omega
        have hl := hn _ (h.kid p p1 p0 _ (.inl rfl))
        have hr := hn _ (h.kid p p1 p0 _ (.inr rfl))
        have hsj : A.sz j = (A.nd j).size := by unfold AM.sz; rw [if_pos h2]
        have hlt : (A.nd j).size < (A.nd p).size := by
          rcases p2 with e | e
          · rw [← hsj, e]; omega
          · rw [← hsj, e]; omega
        exact hK p hp1 p1 (ih p hp1 p1 (by omega)) j p2 (by omega)
  intro j h1 h2
  exact key ((2147483647 - (A.nd j).size).toNat + 1) j h1 h2 (by have := (h.sz j h2 (by omega)).2; omega)
theorem one_tree {A : AM} {r : Int} {t : Tr} (h : ARf A [r]) (hi : Is A t r) (hs : Srt t.ls) : A.s.cap - A.s.free = t.n := by
  have h1 := AM.cnt_live h.s
  have hp : A.live.Perm (ixs A t r) := (List.perm_ext_iff_of_nodup A.live_nodup (ixs_nodup hi hs)).2 fun j => by
    rw [A.mem_live]
    constructor
    · rintro ⟨h0, h2⟩
      have h3 := (SM.ok_rng h.s h0 h2).1
      refine reach h (fun j => j ∈ ixs A t r) (fun x hx hne => ?_) (fun j _ _ hj c hc hne => ixs_kid t r hi j hj c hc hne) j h3 h2
      rw [List.mem_singleton.1 hx] at hne ⊢
      exact ixs_root hi hne
    · intro hj
      have := ixs_ok A t r hi j hj
      exact ⟨by omega, this.2⟩
  have h2 := hp.length_eq
  rw [ixs_len A hi] at h2
  omega
end Go.V
/-! ## S1 -/
namespace Go.Proofs.YtloebjlnmdjeiaaGreatDoor
open Go Go.V
set_option maxRecDepth 8192 in
theorem sl_cap0 {g w : World} {L : List HP} (s : Nat) (ua ga ra : Option Addr) (n ng nr uc gc rc : Nat) (fr : Int) (hn : n ≤ 65537) (hS : St g (cel s #[.slice ua n uc, .slice ga ng gc, .slice ra nr rc, .int .u32 fr] 121 :: L) w) :
    Sp Tryz.prog 102 [.pointer (some ⟨s, 0, none⟩)] w (fun v w' => v = .int .i64 (n - 1) ∧ St g (cel s #[.slice ua n uc, .slice ga ng gc, .slice ra nr rc, .int .u32 fr] 121 :: L) w') := by
  refine Sp.enter Tryz.func102 rfl (by kernel_rfl) (by kernel_rfl) ?_
  have _ := hn
  refine WC.seq ?_
  refine WC.region ?_
  refine WL.r 1 rfl ?_
  refine WL.nil ?_
  refine WC.seq ?_
  refine WC.region ?_
  refine WL.run 6 [.slice ua n uc] rfl (by exact hS.ld 0 rfl rfl) ?_
  refine WL.nw 8 rfl (w64 (by omega)) ?_
  refine WL.r 1 rfl ?_
  refine WL.nil ?_
  refine WC.ret ?_
  refine ⟨[.int .i64 ((n : Int) - 1)], rfl, ?_⟩
  exact ⟨rfl, hS⟩
set_option maxRecDepth 8192 in
theorem sl_free0 {g w : World} {L : List HP} (s : Nat) (ua ga ra : Option Addr) (n ng nr uc gc rc : Nat) (fr : Int) (hn : n ≤ 65537 ∧ nr ≤ 65537 ∧ 0 ≤ fr ∧ fr ≤ 65537) (hS : St g (cel s #[.slice ua n uc, .slice ga ng gc, .slice ra nr rc, .int .u32 fr] 121 :: L) w) :
    Sp Tryz.prog 38 [.pointer (some ⟨s, 0, none⟩)] w (fun v w' => v = .int .i64 (nr + (n - 1) - fr) ∧ St g (cel s #[.slice ua n uc, .slice ga ng gc, .slice ra nr rc, .int .u32 fr] 121 :: L) w') := by
  refine Sp.enter Tryz.func38 rfl (by kernel_rfl) (by kernel_rfl) ?_
  have _ := hn
  refine WC.seq ?_
  refine WC.region ?_
  refine WL.r 1 rfl ?_
  refine WL.nil ?_
  refine WC.seq ?_
  refine WC.plan [([0, 5, 8, 1, 9, 2, 10, 3, 11, 4, 12], some (6, [0, 1, 2, 3, 4, 8, 9, 10, 11, 12])), ([7, 13, 14], none)] (by kernel_rfl) (by kernel_rfl) ?_
  refine WQ.run 11 [.slice ra nr rc, .int .u32 fr] rfl (by exact ⟨hS.ld 0 rfl rfl, hS.ld 0 rfl rfl⟩) ?_
  refine WQ.nw 15 rfl (w64 (by omega)) ?_
  refine WQ.nil ?_
  intro m1
  replace hS := hS.drewN m1; generalize hwm1 : World.drewN _ _ = w at *; clear hwm1
  refine WL.call rfl rfl (sl_cap0 (s := s) (ua := ua) (ga := ga) (ra := ra) (n := n) (ng := ng) (nr := nr) (uc := uc) (gc := gc) (rc := rc) (fr := fr) (hn := (by omega)) (hS := hS)) rfl ?_
  clear hS; rintro _ w ⟨rfl, hS⟩
  replace hS : St g (cel s #[.slice ua n uc, .slice ga ng gc, .slice ra nr rc, .int .u32 fr] 121 :: L) w := hS
  refine WL.nil ?_
  refine ⟨by exact ⟨RQ.pure rfl rfl rfl rfl, RQ.pure rfl rfl rfl rfl, RQ.pure rfl rfl rfl rfl, RQ.load rfl rfl rfl rfl (hS.ld 0 rfl rfl), RQ.pure rfl rfl rfl rfl, RQ.pure rfl rfl rfl rfl, RQ.pure rfl rfl rfl rfl, RQ.pure rfl rfl rfl rfl, RQ.load rfl rfl rfl rfl (hS.ld 0 rfl rfl), RQ.pure rfl rfl rfl (congrArg (Value.int .i64) (Eq.symm (w64 (by omega))))⟩, ?_⟩
  refine WQ.r 1 rfl ?_
  refine WQ.nw 10 rfl (w64 (by omega)) ?_
  refine WQ.r 1 rfl ?_
  refine WQ.nw 16 rfl (w64 (by omega)) ?_
  refine WQ.r 1 rfl ?_
  refine WQ.nil ?_
  intro m2
  replace hS := hS.drewN m2; generalize hwm2 : World.drewN _ _ = w at *; clear hwm2
  as_aux_lemma =>
    refine WC.ret ?_
    refine ⟨[.int .i64 (((nr : Int) + (n - 1)) - fr)], rfl, ?_⟩
    exact ⟨rfl, hS⟩
set_option maxRecDepth 8192 in
theorem sl_cap {g w : World} {L : List HP} (s : Nat) (S : SM) (hl : S.used.length ≤ 65537) (hS : St g (Slt s S :: L) w) :
    Sp Tryz.prog 102 [.pointer (some ⟨s, 0, none⟩)] w (fun v w' => v = .int .i64 S.cap ∧ St g (Slt s S :: L) w') := by
  refine Sp.enter Tryz.func102 rfl (by kernel_rfl) (by kernel_rfl) ?_
  have _ := hl
  refine WC.seq ?_
  refine WC.region ?_
  obtain ⟨⟨ua, uc, ga, gc, ra, rc⟩, hS⟩ := St.exOpen (f := sltF s S) hS; have hbu := bos_len S.used; have hbg := u32s_len S.gen; have hbr := u32s_len S.rel
  replace hS : St g (cel s #[.slice ua (List.length (bos S.used)) uc, .slice ga (List.length (u32s S.gen)) gc, .slice ra (List.length (u32s S.rel)) rc, .int .u32 S.fresh] 121 :: Own 4 1 (bos S.used) ua uc :: Own 70 1 (u32s S.gen) ga gc :: Own 70 1 (u32s S.rel) ra rc :: L) w := hS
  refine WL.r 1 rfl ?_
  refine WL.nil ?_
  refine WC.seq ?_
  refine WC.region ?_
  refine WL.run 6 [.slice ua (List.length (bos S.used)) uc] rfl (by exact hS.ld 0 rfl rfl) ?_
  refine WL.nw 8 rfl (w64 (by omega)) ?_
  refine WL.r 1 rfl ?_
  refine WL.nil ?_
  refine WC.ret ?_
  replace hS := St.exClose (f := sltF s S) ⟨ua, uc, ga, gc, ra, rc⟩ hS
  replace hS : St g (Slt s S :: L) w := hS
  refine ⟨[.int .i64 ((List.length (bos S.used) : Int) - 1)], rfl, ?_⟩
  exact ⟨congrArg (Value.int .i64) (by rw [bos_len]; rfl), hS⟩
set_option maxRecDepth 8192 in
theorem sl_free {g w : World} {L : List HP} (s : Nat) (S : SM) (hO : SOk S) (hS : St g (Slt s S :: L) w) :
    Sp Tryz.prog 38 [.pointer (some ⟨s, 0, none⟩)] w (fun v w' => v = .int .i64 S.free ∧ St g (Slt s S :: L) w') := by
  refine Sp.enter Tryz.func38 rfl (by kernel_rfl) (by kernel_rfl) ?_
  refine WC.seq ?_
  refine WC.region ?_
  have hfr := hO.fr; have hcp : S.cap = (S.used.length : Int) - 1 := rfl; have hle := hO.le; have hrl := hO.rle
  obtain ⟨⟨ua, uc, ga, gc, ra, rc⟩, hS⟩ := St.exOpen (f := sltF s S) hS; have hbu := bos_len S.used; have hbg := u32s_len S.gen; have hbr := u32s_len S.rel
  replace hS : St g (cel s #[.slice ua (List.length (bos S.used)) uc, .slice ga (List.length (u32s S.gen)) gc, .slice ra (List.length (u32s S.rel)) rc, .int .u32 S.fresh] 121 :: Own 4 1 (bos S.used) ua uc :: Own 70 1 (u32s S.gen) ga gc :: Own 70 1 (u32s S.rel) ra rc :: L) w := hS
  refine WL.r 1 rfl ?_
  refine WL.nil ?_
  refine WC.seq ?_
  refine WC.plan [([0, 5, 8, 1, 9, 2, 10, 3, 11, 4, 12], some (6, [0, 1, 2, 3, 4, 8, 9, 10, 11, 12])), ([7, 13, 14], none)] (by kernel_rfl) (by kernel_rfl) ?_
  refine WQ.run 11 [.slice ra (List.length (u32s S.rel)) rc, .int .u32 S.fresh] rfl (by exact ⟨hS.ld 0 rfl rfl, hS.ld 0 rfl rfl⟩) ?_
  refine WQ.nw 15 rfl (w64 (by omega)) ?_
  refine WQ.nil ?_
  intro m1
  replace hS := hS.drewN m1; generalize hwm1 : World.drewN _ _ = w at *; clear hwm1
  refine WL.call rfl rfl (sl_cap0 (s := s) (ua := ua) (ga := ga) (ra := ra) (n := List.length (bos S.used)) (ng := List.length (u32s S.gen)) (nr := List.length (u32s S.rel)) (uc := uc) (gc := gc) (rc := rc) (fr := S.fresh) (hn := (by omega)) (hS := hS)) rfl ?_
  clear hS; rintro _ w ⟨rfl, hS⟩
  replace hS : St g (cel s #[.slice ua (List.length (bos S.used)) uc, .slice ga (List.length (u32s S.gen)) gc, .slice ra (List.length (u32s S.rel)) rc, .int .u32 S.fresh] 121 :: Own 4 1 (bos S.used) ua uc :: Own 70 1 (u32s S.gen) ga gc :: Own 70 1 (u32s S.rel) ra rc :: L) w := hS
  refine WL.nil ?_
  refine ⟨by exact ⟨RQ.pure rfl rfl rfl rfl, RQ.pure rfl rfl rfl rfl, RQ.pure rfl rfl rfl rfl, RQ.load rfl rfl rfl rfl (hS.ld 0 rfl rfl), RQ.pure rfl rfl rfl rfl, RQ.pure rfl rfl rfl rfl, RQ.pure rfl rfl rfl rfl, RQ.pure rfl rfl rfl rfl, RQ.load rfl rfl rfl rfl (hS.ld 0 rfl rfl), RQ.pure rfl rfl rfl (congrArg (Value.int .i64) (Eq.symm (w64 (by omega))))⟩, ?_⟩
  refine WQ.r 1 rfl ?_
  refine WQ.nw 10 rfl (w64 (by omega)) ?_
  refine WQ.r 1 rfl ?_
  refine WQ.nw 16 rfl (w64 (by omega)) ?_
  refine WQ.r 1 rfl ?_
  refine WQ.nil ?_
  intro m2
  replace hS := hS.drewN m2; generalize hwm2 : World.drewN _ _ = w at *; clear hwm2
  as_aux_lemma =>
    refine WC.ret ?_
    replace hS := St.exClose (f := sltF s S) ⟨ua, uc, ga, gc, ra, rc⟩ hS
    replace hS : St g (Slt s S :: L) w := hS
    refine ⟨[.int .i64 (((List.length (u32s S.rel) : Int) + ((List.length (bos S.used)) - 1)) - S.fresh)], rfl, ?_⟩
    exact ⟨congrArg (Value.int .i64) (by unfold SM.free; omega), hS⟩
set_option maxRecDepth 8192 in
theorem sl_ok {g w : World} {L : List HP} (s : Nat) (S : SM) (i : Int) (hl : S.used.length ≤ 65537) (hi : 0 ≤ i ∧ i < 4294967296) (hS : St g (Slt s S :: L) w) :
    Sp Tryz.prog 44 [.pointer (some ⟨s, 0, none⟩), .int .u32 i] w (fun v w' => v = .bool (S.ok i) ∧ St g (Slt s S :: L) w') := by
  refine Sp.enter Tryz.func44 rfl (by kernel_rfl) (by kernel_rfl) ?_
  have _ := hi
  have _ := hl
  refine WC.seq ?_
  refine WC.region ?_
  obtain ⟨⟨ua, uc, ga, gc, ra, rc⟩, hS⟩ := St.exOpen (f := sltF s S) hS; have hbu := bos_len S.used; have hbg := u32s_len S.gen; have hbr := u32s_len S.rel
  replace hS : St g (cel s #[.slice ua (List.length (bos S.used)) uc, .slice ga (List.length (u32s S.gen)) gc, .slice ra (List.length (u32s S.rel)) rc, .int .u32 S.fresh] 121 :: Own 4 1 (bos S.used) ua uc :: Own 70 1 (u32s S.gen) ga gc :: Own 70 1 (u32s S.rel) ra rc :: L) w := hS
  refine WL.r 1 rfl ?_
  refine WL.nil ?_
  refine WC.seq ?_
  refine WC.region ?_
  refine WL.r 2 rfl ?_
  refine WL.nw 6 rfl (w64 (by omega)) ?_
  refine WL.run 7 [.slice ua (List.length (bos S.used)) uc] rfl (by exact hS.ld 0 rfl rfl) ?_
  by_cases cg1 : i < (List.length (bos S.used) : Int)
  · refine WL.reb 13 (.bool true) (congrArg Value.bool (decide_eq_true cg1)) ?_
    refine WL.ung rfl rfl rfl ?_
    refine WL.r 1 rfl ?_
    refine WL.ung rfl rfl rfl ?_
    refine WL.r 1 rfl ?_
    refine WL.ung rfl rfl rfl ?_
    refine WL.r 1 rfl ?_
    refine WL.ung rfl rfl rfl ?_
    refine WL.run 1 [.slice ua (List.length (bos S.used)) uc] rfl (by exact hS.ld 0 rfl rfl) ?_
    refine WL.ung rfl rfl rfl ?_
    refine WL.r 1 rfl ?_
    refine WL.ung rfl rfl rfl ?_
    obtain ⟨x, hx⟩ : ∃ x, S.used[i.toNat]? = some x := ⟨_, List.getElem?_eq_getElem (by omega)⟩
    refine WL.ix rfl rfl (i := i) (i.toNat) el_119 rfl rfl (by omega) (by omega) (hS.rdO 1 rfl (bos_at hx)).1 ?_
    refine WL.ung rfl rfl rfl ?_
    refine WL.run 3 [.bool x] rfl (by exact (hS.rdO 1 rfl (bos_at hx)).2 0 _ rfl) ?_
    refine WL.nil ?_
    as_aux_lemma =>
      refine WC.ret ?_
      replace hS := St.exClose (f := sltF s S) ⟨ua, uc, ga, gc, ra, rc⟩ hS
      replace hS : St g (Slt s S :: L) w := hS
      refine ⟨[.bool x], rfl, ?_⟩
      first | exact ⟨congrArg Value.bool (by unfold SM.ok; rw [hx]; rfl), hS⟩ | exact ⟨congrArg Value.bool (by unfold SM.ok; rw [List.getElem?_eq_none (by omega)]; rfl), hS⟩
  · refine WL.reb 13 (.bool false) (congrArg Value.bool (decide_eq_false cg1)) ?_
    refine WL.skp rfl rfl rfl rfl ?_
    refine WL.skp rfl rfl rfl rfl ?_
    refine WL.skp rfl rfl rfl rfl ?_
    refine WL.skp rfl rfl rfl rfl ?_
    refine WL.skp rfl rfl rfl rfl ?_
    refine WL.skp rfl rfl rfl rfl ?_
    refine WL.skp rfl rfl rfl rfl ?_
    refine WL.r 2 rfl ?_
    refine WL.nil ?_
    refine WC.ret ?_
    replace hS := St.exClose (f := sltF s S) ⟨ua, uc, ga, gc, ra, rc⟩ hS
    replace hS : St g (Slt s S :: L) w := hS
    refine ⟨[.bool false], rfl, ?_⟩
    first | exact ⟨congrArg Value.bool (by unfold SM.ok; rw [hx]; rfl), hS⟩ | exact ⟨congrArg Value.bool (by unfold SM.ok; rw [List.getElem?_eq_none (by omega)]; rfl), hS⟩
set_option maxRecDepth 8192 in
theorem sl_gen {g w : World} {L : List HP} (s : Nat) (S : SM) (i : Int) (hl : S.gen.length ≤ 65537) (hi : 0 ≤ i ∧ i < 4294967296) (hS : St g (Slt s S :: L) w) :
    Sp Tryz.prog 116 [.pointer (some ⟨s, 0, none⟩), .int .u32 i] w (fun v w' => v = .int .u32 (S.genOf i) ∧ St g (Slt s S :: L) w') := by
  refine Sp.enter Tryz.func116 rfl (by kernel_rfl) (by kernel_rfl) ?_
  have _ := hi
  have _ := hl
  refine WC.seq ?_
  refine WC.region ?_
  refine WL.r 1 rfl ?_
  refine WL.nil ?_
  refine WC.seq ?_
  refine WC.seq ?_
  refine WC.region ?_
  obtain ⟨⟨ua, uc, ga, gc, ra, rc⟩, hS⟩ := St.exOpen (f := sltF s S) hS; have hbu := bos_len S.used; have hbg := u32s_len S.gen; have hbr := u32s_len S.rel
  replace hS : St g (cel s #[.slice ua (List.length (bos S.used)) uc, .slice ga (List.length (u32s S.gen)) gc, .slice ra (List.length (u32s S.rel)) rc, .int .u32 S.fresh] 121 :: Own 4 1 (bos S.used) ua uc :: Own 70 1 (u32s S.gen) ga gc :: Own 70 1 (u32s S.rel) ra rc :: L) w := hS
  refine WL.r 2 rfl ?_
  refine WL.nw 6 rfl (w64 (by omega)) ?_
  refine WL.run 6 [.slice ga (List.length (u32s S.gen)) gc] rfl (by exact hS.ld 0 rfl rfl) ?_
  refine WL.nil ?_
  refine WC.ifP rfl (fun cd1 => ?_) (fun cd1 => ?_)
  · refine WC.seq ?_
    refine WC.region ?_
    refine WL.r 1 rfl ?_
    refine WL.nil ?_
    refine WC.ret ?_
    replace hS := St.exClose (f := sltF s S) ⟨ua, uc, ga, gc, ra, rc⟩ hS
    replace hS : St g (Slt s S :: L) w := hS
    refine ⟨[.int .u32 0], rfl, ?_⟩
    exact ⟨congrArg (Value.int .u32) (by unfold SM.genOf; rw [List.getElem?_eq_none (by omega)]; rfl), hS⟩
  · refine WC.skip ?_
    refine WC.seq ?_
    refine WC.region ?_
    refine WL.run 5 [.slice ga (List.length (u32s S.gen)) gc] rfl (by exact hS.ld 0 rfl rfl) ?_
    obtain ⟨x, hx⟩ : ∃ x, S.gen[i.toNat]? = some x := ⟨_, List.getElem?_eq_getElem (by omega)⟩
    refine WL.ix rfl rfl (i := i) (i.toNat) el_32 rfl rfl (by omega) (by omega) (hS.rdO 2 rfl (u32s_at hx)).1 ?_
    refine WL.run 2 [.int .u32 x] rfl (by exact (hS.rdO 2 rfl (u32s_at hx)).2 0 _ rfl) ?_
    refine WL.nil ?_
    refine WC.ret ?_
    replace hS := St.exClose (f := sltF s S) ⟨ua, uc, ga, gc, ra, rc⟩ hS
    replace hS : St g (Slt s S :: L) w := hS
    refine ⟨[.int .u32 x], rfl, ?_⟩
    exact ⟨congrArg (Value.int .u32) (by unfold SM.genOf; rw [hx]; rfl), hS⟩
end Go.Proofs.YtloebjlnmdjeiaaGreatDoor
/-! ## S2 -/
namespace Go.Proofs.YtloebjlnmdjeiaaGreatDoor
open Go Go.V
theorem rel_nil {S : SM} (h : ¬ 0 ≤ (List.length (u32s S.rel) : Int) - 1) : S.rel = [] := by
  rw [u32s_len] at h
  exact List.length_eq_zero_iff.1 (by omega)
theorem sl_new_close {g w : World} {L : List HP} {n s : Nat} {ua ga : Option Addr} {uc gc : Nat} (hS : St g (cel s #[.slice ua (n + 1) uc, .slice ga (n + 1) gc, .slice none 0 0, .int .u32 0] 121 :: Own 4 1 (bos (List.replicate (n + 1) false)) ua uc :: Own 70 1 (u32s (List.replicate (n + 1) 0)) ga gc :: Own 70 1 [] none 0 :: L) w) : St g (sltF s (SM.new n) ⟨ua, uc, ga, gc, none, 0⟩ ++ L) w := by
  have e1 : (bos (SM.new n).used).length = n + 1 := by simp [SM.new]
  have e2 : (u32s (SM.new n).gen).length = n + 1 := by simp [SM.new]
  unfold sltF
  rw [e1, e2]
  exact hS
set_option maxRecDepth 8192 in
theorem sl_new_bad {g w : World} {L : List HP} (cap : Int) (hc : ¬ (1 ≤ cap ∧ cap ≤ 65536)) (hS : St g (L) w) :
    Sp Tryz.prog 22 [.int .i64 cap] w (fun v w' => v = .tuple #[.pointer none, .int .i64 1] ∧ St g (L) w') := by
  refine Sp.enter Tryz.func22 rfl (by kernel_rfl) (by kernel_rfl) ?_
  have _ := hc
  refine WC.seq ?_
  refine WC.region ?_
  refine WL.r 2 rfl ?_
  refine WL.nil ?_
  refine WC.seq ?_
  refine WC.seq ?_
  refine WC.region ?_
  refine WL.r 2 rfl ?_
  refine WL.rG 4 rfl (fun j => ?_)
  refine WL.prop 9 rfl (bor (dd _) (dd _)) ?_
  refine WL.nil ?_
  refine WC.ifT rfl (decide_eq_true ((by omega))) ?_
  refine WC.seq ?_
  refine WC.region ?_
  refine WL.r 2 rfl ?_
  refine WL.nil ?_
  refine WC.ret ?_
  refine ⟨[.pointer none, .int .i64 1], ⟨rfl, rfl⟩, ?_⟩
  exact ⟨rfl, hS⟩
set_option maxRecDepth 8192 in
theorem sl_new_ok {g w : World} {L : List HP} (cap : Int) (hc : 1 ≤ cap ∧ cap ≤ 65536) (hS : St g (L) w) :
    Sp Tryz.prog 22 [.int .i64 cap] w (fun v w' => ∃ (s : Nat), v = .tuple #[.pointer (some ⟨s, 0, none⟩), .int .i64 0] ∧ St g (Slt s (SM.new cap.toNat) :: L) w') := by
  refine Sp.enter Tryz.func22 rfl (by kernel_rfl) (by kernel_rfl) ?_
  have _ := hc
  refine WC.seq ?_
  refine WC.region ?_
  refine WL.r 2 rfl ?_
  refine WL.nil ?_
  refine WC.seq ?_
  refine WC.seq ?_
  refine WC.region ?_
  refine WL.r 2 rfl ?_
  refine WL.rG 4 rfl (fun j => ?_)
  refine WL.prop 9 rfl (bor (dd _) (dd _)) ?_
  refine WL.nil ?_
  refine WC.ifF rfl (decide_eq_false ((by omega))) ?_
  refine WC.skip ?_
  refine WC.seq ?_
  refine WC.tree (.two [0, 3, 1, 4] 2 [3, 4] (.one [] 5 [0, 1] (.one [6] 7 [] (.seg [8, 9] .nil))) 5 [0, 1] (.one [] 2 [3, 4] (.one [6] 7 [] (.seg [8, 9] .nil)))) (by kernel_rfl) (by kernel_rfl) ?_
  refine WQ.r 3 rfl ?_
  refine WQ.nw 11 rfl (w64 (by omega)) ?_
  refine WQ.r 1 rfl ?_
  refine WQ.nw 14 rfl (w64 (by omega)) ?_
  refine WQ.nil ?_
  intro m1
  replace hS := hS.drewN m1; generalize hwm1 : World.drewN _ _ = w at *; clear hwm1
  refine ⟨?_, ?_⟩
  · refine WL.make rfl rfl (v := cap + 1) (v' := cap + 1) (cap.toNat + 1) (cap.toNat + 1) el_119 hS rfl (by omega) rfl (by omega) (by omega) (Rm.of (by omega) (by decide)) (fun b1 w hS => ?_)
    replace hS : St g (Own 4 1 (List.replicate (cap.toNat + 1) [.bool false]) (some ⟨b1, 0, none⟩) (cap.toNat + 1) :: L) w := hS
    refine WL.nil ?_
    refine ⟨by exact ⟨RQ.pure rfl rfl rfl rfl, RQ.pure rfl rfl rfl (congrArg (Value.int .i64) (Eq.symm (w64 (by omega))))⟩, ?_⟩
    refine WQ.nil ?_
    intro m2
    replace hS := hS.drewN m2; generalize hwm2 : World.drewN _ _ = w at *; clear hwm2
    refine WL.make rfl rfl (v := cap + 1) (v' := cap + 1) (cap.toNat + 1) (cap.toNat + 1) el_32 hS rfl (by omega) rfl (by omega) (by omega) (Rm.of (by omega) (by decide)) (fun b2 w hS => ?_)
    replace hS : St g (Own 70 1 (List.replicate (cap.toNat + 1) [.int .u32 0]) (some ⟨b2, 0, none⟩) (cap.toNat + 1) :: Own 4 1 (List.replicate (cap.toNat + 1) [.bool false]) (some ⟨b1, 0, none⟩) (cap.toNat + 1) :: L) w := hS
    refine WL.nil ?_
    refine ⟨by exact ⟨RQ.pure rfl rfl rfl rfl, RQ.pure rfl rfl rfl (congrArg (Value.int .i64) (Eq.symm (w64 (by omega))))⟩, ?_⟩
    refine WQ.build rfl rfl (cs := [.slice (some ⟨b1, 0, none⟩) (cap.toNat + 1) (cap.toNat + 1), .slice (some ⟨b2, 0, none⟩) (cap.toNat + 1) (cap.toNat + 1), .slice none 0 0, .int .u32 0]) zv_121 rfl rfl ?_
    refine WQ.nil ?_
    intro m3
    replace hS := hS.drewN m3; generalize hwm3 : World.drewN _ _ = w at *; clear hwm3
    refine WL.box rfl rfl #[.slice (some ⟨b1, 0, none⟩) (cap.toNat + 1) (cap.toNat + 1), .slice (some ⟨b2, 0, none⟩) (cap.toNat + 1) (cap.toNat + 1), .slice none 0 0, .int .u32 0] hS rfl rfl (fun b3 w hS => ?_)
    refine WL.nil ?_
    refine ⟨by exact trivial, ?_⟩
    refine WQ.r 2 rfl ?_
    refine WQ.nil ?_
    intro m4
    replace hS := hS.drewN m4; generalize hwm4 : World.drewN _ _ = w at *; clear hwm4
    as_aux_lemma =>
      refine WC.ret ?_
      rw [bos_rep, u32s_rep] at hS
      first
      | (replace hS : St g (cel b3 #[.slice (some ⟨b1, 0, none⟩) (cap.toNat + 1) (cap.toNat + 1), .slice (some ⟨b2, 0, none⟩) (cap.toNat + 1) (cap.toNat + 1), .slice none 0 0, .int .u32 0] 121 :: Own 4 1 (bos (List.replicate (cap.toNat + 1) false)) (some ⟨b1, 0, none⟩) (cap.toNat + 1) :: Own 70 1 (u32s (List.replicate (cap.toNat + 1) 0)) (some ⟨b2, 0, none⟩) (cap.toNat + 1) :: Own 70 1 [] none 0 :: L) w := (hS.nil_ 70 1).sel 4 [1, 2, 1, 0] rfl; replace hS := St.exClose (f := sltF b3 (SM.new cap.toNat)) ⟨some ⟨b1, 0, none⟩, cap.toNat + 1, some ⟨b2, 0, none⟩, cap.toNat + 1, none, 0⟩ (sl_new_close hS))
      | (replace hS : St g (cel b3 #[.slice (some ⟨b2, 0, none⟩) (cap.toNat + 1) (cap.toNat + 1), .slice (some ⟨b1, 0, none⟩) (cap.toNat + 1) (cap.toNat + 1), .slice none 0 0, .int .u32 0] 121 :: Own 4 1 (bos (List.replicate (cap.toNat + 1) false)) (some ⟨b2, 0, none⟩) (cap.toNat + 1) :: Own 70 1 (u32s (List.replicate (cap.toNat + 1) 0)) (some ⟨b1, 0, none⟩) (cap.toNat + 1) :: Own 70 1 [] none 0 :: L) w := (hS.nil_ 70 1).sel 4 [1, 1, 1, 0] rfl; replace hS := St.exClose (f := sltF b3 (SM.new cap.toNat)) ⟨some ⟨b2, 0, none⟩, cap.toNat + 1, some ⟨b1, 0, none⟩, cap.toNat + 1, none, 0⟩ (sl_new_close hS))
      replace hS : St g (Slt b3 (SM.new cap.toNat) :: L) w := hS
      refine ⟨[.pointer (some ⟨b3, 0, none⟩), .int .i64 0], ⟨rfl, rfl⟩, ?_⟩
      exact ⟨_, rfl, hS⟩
  · refine WL.make rfl rfl (v := cap + 1) (v' := cap + 1) (cap.toNat + 1) (cap.toNat + 1) el_32 hS rfl (by omega) rfl (by omega) (by omega) (Rm.of (by omega) (by decide)) (fun b1 w hS => ?_)
    replace hS : St g (Own 70 1 (List.replicate (cap.toNat + 1) [.int .u32 0]) (some ⟨b1, 0, none⟩) (cap.toNat + 1) :: L) w := hS
    refine WL.nil ?_
    refine ⟨by exact ⟨RQ.pure rfl rfl rfl rfl, RQ.pure rfl rfl rfl (congrArg (Value.int .i64) (Eq.symm (w64 (by omega))))⟩, ?_⟩
    refine WQ.nil ?_
    intro m2
    replace hS := hS.drewN m2; generalize hwm2 : World.drewN _ _ = w at *; clear hwm2
    refine WL.make rfl rfl (v := cap + 1) (v' := cap + 1) (cap.toNat + 1) (cap.toNat + 1) el_119 hS rfl (by omega) rfl (by omega) (by omega) (Rm.of (by omega) (by decide)) (fun b2 w hS => ?_)
    replace hS : St g (Own 4 1 (List.replicate (cap.toNat + 1) [.bool false]) (some ⟨b2, 0, none⟩) (cap.toNat + 1) :: Own 70 1 (List.replicate (cap.toNat + 1) [.int .u32 0]) (some ⟨b1, 0, none⟩) (cap.toNat + 1) :: L) w := hS
    refine WL.nil ?_
    refine ⟨by exact ⟨RQ.pure rfl rfl rfl rfl, RQ.pure rfl rfl rfl (congrArg (Value.int .i64) (Eq.symm (w64 (by omega))))⟩, ?_⟩
    refine WQ.build rfl rfl (cs := [.slice (some ⟨b2, 0, none⟩) (cap.toNat + 1) (cap.toNat + 1), .slice (some ⟨b1, 0, none⟩) (cap.toNat + 1) (cap.toNat + 1), .slice none 0 0, .int .u32 0]) zv_121 rfl rfl ?_
    refine WQ.nil ?_
    intro m3
    replace hS := hS.drewN m3; generalize hwm3 : World.drewN _ _ = w at *; clear hwm3
    refine WL.box rfl rfl #[.slice (some ⟨b2, 0, none⟩) (cap.toNat + 1) (cap.toNat + 1), .slice (some ⟨b1, 0, none⟩) (cap.toNat + 1) (cap.toNat + 1), .slice none 0 0, .int .u32 0] hS rfl rfl (fun b3 w hS => ?_)
    refine WL.nil ?_
    refine ⟨by exact trivial, ?_⟩
    refine WQ.r 2 rfl ?_
    refine WQ.nil ?_
    intro m4
    replace hS := hS.drewN m4; generalize hwm4 : World.drewN _ _ = w at *; clear hwm4
    as_aux_lemma =>
      refine WC.ret ?_
      rw [bos_rep, u32s_rep] at hS
      first
      | (replace hS : St g (cel b3 #[.slice (some ⟨b1, 0, none⟩) (cap.toNat + 1) (cap.toNat + 1), .slice (some ⟨b2, 0, none⟩) (cap.toNat + 1) (cap.toNat + 1), .slice none 0 0, .int .u32 0] 121 :: Own 4 1 (bos (List.replicate (cap.toNat + 1) false)) (some ⟨b1, 0, none⟩) (cap.toNat + 1) :: Own 70 1 (u32s (List.replicate (cap.toNat + 1) 0)) (some ⟨b2, 0, none⟩) (cap.toNat + 1) :: Own 70 1 [] none 0 :: L) w := (hS.nil_ 70 1).sel 4 [1, 2, 1, 0] rfl; replace hS := St.exClose (f := sltF b3 (SM.new cap.toNat)) ⟨some ⟨b1, 0, none⟩, cap.toNat + 1, some ⟨b2, 0, none⟩, cap.toNat + 1, none, 0⟩ (sl_new_close hS))
      | (replace hS : St g (cel b3 #[.slice (some ⟨b2, 0, none⟩) (cap.toNat + 1) (cap.toNat + 1), .slice (some ⟨b1, 0, none⟩) (cap.toNat + 1) (cap.toNat + 1), .slice none 0 0, .int .u32 0] 121 :: Own 4 1 (bos (List.replicate (cap.toNat + 1) false)) (some ⟨b2, 0, none⟩) (cap.toNat + 1) :: Own 70 1 (u32s (List.replicate (cap.toNat + 1) 0)) (some ⟨b1, 0, none⟩) (cap.toNat + 1) :: Own 70 1 [] none 0 :: L) w := (hS.nil_ 70 1).sel 4 [1, 1, 1, 0] rfl; replace hS := St.exClose (f := sltF b3 (SM.new cap.toNat)) ⟨some ⟨b2, 0, none⟩, cap.toNat + 1, some ⟨b1, 0, none⟩, cap.toNat + 1, none, 0⟩ (sl_new_close hS))
      replace hS : St g (Slt b3 (SM.new cap.toNat) :: L) w := hS
      refine ⟨[.pointer (some ⟨b3, 0, none⟩), .int .i64 0], ⟨rfl, rfl⟩, ?_⟩
      exact ⟨_, rfl, hS⟩
set_option maxRecDepth 8192 in
theorem sl_alloc_ok {g w : World} {L : List HP} (s : Nat) (S : SM) (hO : SOk S) (hf : 0 < S.free) (hS : St g (Slt s S :: L) w) :
    Sp Tryz.prog 156 [.pointer (some ⟨s, 0, none⟩)] w (fun v w' => v = .tuple #[.int .u32 S.next, .int .i64 0] ∧ St g (Slt s S.alloc :: L) w') := by
  refine Sp.enter Tryz.func156 rfl (by kernel_rfl) (by kernel_rfl) ?_
  refine WC.seq ?_
  refine WC.region ?_
  refine WL.r 2 rfl ?_
  refine WL.nil ?_
  refine WC.seq ?_
  refine WC.seq ?_
  refine WC.region ?_
  refine WL.r 1 rfl ?_
  refine WL.call rfl rfl (sl_free (s := s) (S := S) (hO := (by assumption)) (hS := hS)) rfl ?_
  clear hS; rintro _ w ⟨rfl, hS⟩
  replace hS : St g (Slt s S :: L) w := hS
  refine WL.r 1 rfl ?_
  refine WL.nil ?_
  refine WC.ifF rfl (decide_eq_false ((by omega))) ?_
  refine WC.skip ?_
  refine WC.seq ?_
  refine WC.region ?_
  refine WL.r 1 rfl ?_
  refine WL.nil ?_
  refine WC.seq ?_
  refine WC.seq ?_
  refine WC.region ?_
  have hfr := hO.fr; have hcp : S.cap = (S.used.length : Int) - 1 := rfl; have hle := hO.cap; have hrl := hO.rle; have hnx := S.next_rng hO hf; have hgl := hO.gl
  obtain ⟨⟨ua, uc, ga, gc, ra, rc⟩, hS⟩ := St.exOpen (f := sltF s S) hS; have hbu := bos_len S.used; have hbg := u32s_len S.gen; have hbr := u32s_len S.rel
  replace hS : St g (cel s #[.slice ua (List.length (bos S.used)) uc, .slice ga (List.length (u32s S.gen)) gc, .slice ra (List.length (u32s S.rel)) rc, .int .u32 S.fresh] 121 :: Own 4 1 (bos S.used) ua uc :: Own 70 1 (u32s S.gen) ga gc :: Own 70 1 (u32s S.rel) ra rc :: L) w := hS
  refine WL.run 6 [.slice ra (List.length (u32s S.rel)) rc] rfl (by exact hS.ld 0 rfl rfl) ?_
  refine WL.nw 14 rfl (w64 (by omega)) ?_
  refine WL.r 1 rfl ?_
  refine WL.nil ?_
  as_aux_lemma =>
    refine WC.seq ?_
    refine WC.region ?_
    refine WL.r 2 rfl ?_
    refine WL.nil ?_
    refine WC.cut [0, 2, 3, 4] (fun vs w => ∃ (nx : Int) (rl : List Int) (fr : Int) (ra2 : Option Addr) (rc2 : Nat), vs = [.pointer (some ⟨s, 0, none⟩), .int .u32 0, .int .i64 0, .int .u32 nx] ∧ St g (cel s #[.slice ua (List.length (bos S.used)) uc, .slice ga (List.length (u32s S.gen)) gc, .slice ra2 (List.length (u32s rl)) rc2, .int .u32 fr] 121 :: Own 4 1 (bos S.used) ua uc :: Own 70 1 (u32s S.gen) ga gc :: Own 70 1 (u32s rl) ra2 rc2 :: L) w ∧ (nx = S.next) ∧ (rl = S.alloc.rel) ∧ (fr = S.alloc.fresh)) ?_ ?_
    · refine WC.ifP rfl (fun cd1 => ?_) (fun cd1 => ?_)
      · refine WC.seq ?_
        refine WC.region ?_
        refine WL.run 5 [.slice ra (List.length (u32s S.rel)) rc] rfl (by exact hS.ld 0 rfl rfl) ?_
        have hne : S.rel ≠ [] := (fun e => by have h9 := congrArg List.length e; rw [List.length_nil] at h9; omega); have hx : S.rel[S.rel.length - 1]? = some S.next := by rw [rel_split hne]; simp
        refine WL.ix rfl rfl (i := (List.length (u32s S.rel) : Int) - 1) (S.rel.length - 1) el_32 rfl rfl (by omega) (by omega) (hS.rdO 3 rfl (u32s_at hx)).1 ?_
        refine WL.run 2 [.int .u32 S.next] rfl (by exact (hS.rdO 3 rfl (u32s_at hx)).2 0 _ rfl) ?_
        refine WL.nil ?_
        refine WC.region ?_
        refine WL.run 6 [.slice ra (List.length (u32s S.rel)) rc] rfl (by exact hS.ld 0 rfl rfl) ?_
        refine WL.slOwn rfl rfl (v := (List.length (u32s S.rel) : Int) - 1) 3 (S.rel.length - 1) (u32s (S.rel.take (S.rel.length - 1))) el_32 hS rfl rfl rfl (by omega) (by omega) (u32s_take _ _) (fun hS => ?_)
        replace hS : St g (cel s #[.slice ua (List.length (bos S.used)) uc, .slice ga (List.length (u32s S.gen)) gc, .slice ra (List.length (u32s S.rel)) rc, .int .u32 S.fresh] 121 :: Own 4 1 (bos S.used) ua uc :: Own 70 1 (u32s S.gen) ga gc :: Own 70 1 (u32s (S.rel.take ((List.length S.rel) - 1))) ra rc :: L) w := hS
        refine WL.r 2 rfl ?_
        refine WL.st rfl rfl rfl 0 hS rfl rfl rfl rfl rfl rfl (fun w hS => ?_)
        replace hS : St g (cel s #[.slice ua (List.length (bos S.used)) uc, .slice ga (List.length (u32s S.gen)) gc, .slice ra (List.length (u32s (S.rel.take ((List.length S.rel) - 1)))) rc, .int .u32 S.fresh] 121 :: Own 4 1 (bos S.used) ua uc :: Own 70 1 (u32s S.gen) ga gc :: Own 70 1 (u32s (S.rel.take ((List.length S.rel) - 1))) ra rc :: L) w := hS
        refine WL.nil ?_
        exact ⟨S.next, S.rel.take (S.rel.length - 1), S.fresh, ra, rc, rfl, hS, (rfl), (List.dropLast_eq_take (l := S.rel)).symm, (if_neg hne).symm⟩
      · refine WC.seq ?_
        refine WC.region ?_
        refine WL.run 5 [.int .u32 S.fresh] rfl (by exact hS.ld 0 rfl rfl) ?_
        refine WL.nw 37 rfl (wu32 (by omega)) ?_
        refine WL.r 2 rfl ?_
        refine WL.st rfl rfl rfl 0 hS rfl rfl rfl rfl rfl rfl (fun w hS => ?_)
        replace hS : St g (cel s #[.slice ua (List.length (bos S.used)) uc, .slice ga (List.length (u32s S.gen)) gc, .slice ra (List.length (u32s S.rel)) rc, .int .u32 (S.fresh + 1)] 121 :: Own 4 1 (bos S.used) ua uc :: Own 70 1 (u32s S.gen) ga gc :: Own 70 1 (u32s S.rel) ra rc :: L) w := hS
        refine WL.nil ?_
        refine WC.region ?_
        refine WL.run 5 [.int .u32 (S.fresh + 1)] rfl (by exact hS.ld 0 rfl rfl) ?_
        refine WL.nil ?_
        exact ⟨S.fresh + 1, S.rel, S.fresh + 1, ra, rc, rfl, hS, (SM.next_nil (rel_nil cd1)).symm, (by show S.rel = S.rel.dropLast; rw [rel_nil cd1]; rfl), (if_pos (rel_nil cd1)).symm⟩
    clear hS; rintro _ w j ⟨nx, rl, fr, ra2, rc2, rfl, hS, hnx, hrl, hfr⟩
    refine WC.seq ?_
    refine WC.region ?_
    refine WL.run 5 [.slice ua (List.length (bos S.used)) uc] rfl (by exact hS.ld 0 rfl rfl) ?_
    obtain ⟨u, hu⟩ : ∃ u, S.used[nx.toNat]? = some u := ⟨_, List.getElem?_eq_getElem (by omega)⟩
    refine WL.ix rfl rfl (i := nx) (nx.toNat) el_119 rfl rfl (by omega) (by omega) (hS.rdO 1 rfl (bos_at hu)).1 ?_
    refine WL.stE rfl rfl rfl 1 (nx.toNat) 0 [.bool u] (bos (S.used.set nx.toNat true)) hS rfl (bos_at hu) rfl rfl rfl rfl rfl (bos_set _ _ _) (fun w hS => ?_)
    replace hS : St g (cel s #[.slice ua (List.length (bos S.used)) uc, .slice ga (List.length (u32s S.gen)) gc, .slice ra2 (List.length (u32s rl)) rc2, .int .u32 fr] 121 :: Own 4 1 (bos (S.used.set nx.toNat true)) ua uc :: Own 70 1 (u32s S.gen) ga gc :: Own 70 1 (u32s rl) ra2 rc2 :: L) w := hS
    refine WL.nil ?_
    refine WC.seq ?_
    refine WC.region ?_
    refine WL.run 5 [.slice ga (List.length (u32s S.gen)) gc] rfl (by exact hS.ld 0 rfl rfl) ?_
    obtain ⟨v, hv⟩ : ∃ v, S.gen[nx.toNat]? = some v := ⟨_, List.getElem?_eq_getElem (by omega)⟩
    refine WL.ix rfl rfl (i := nx) (nx.toNat) el_32 rfl rfl (by omega) (by omega) (hS.rdO 2 rfl (u32s_at hv)).1 ?_
    refine WL.run 2 [.int .u32 v] rfl (by exact (hS.rdO 2 rfl (u32s_at hv)).2 0 _ rfl) ?_
    refine WL.reb 57 (.int .u32 ((v + 1) % 4294967296)) (congrArg (Value.int .u32) (by rfl)) ?_
    refine WL.ix rfl rfl (i := nx) (nx.toNat) el_32 rfl rfl (by omega) (by omega) (hS.rdO 2 rfl (u32s_at hv)).1 ?_
    refine WL.stE rfl rfl rfl 2 (nx.toNat) 0 [.int .u32 v] (u32s (S.gen.set nx.toNat ((v + 1) % 4294967296))) hS rfl (u32s_at hv) rfl rfl rfl rfl rfl (u32s_set _ _ _) (fun w hS => ?_)
    replace hS : St g (cel s #[.slice ua (List.length (bos S.used)) uc, .slice ga (List.length (u32s S.gen)) gc, .slice ra2 (List.length (u32s rl)) rc2, .int .u32 fr] 121 :: Own 4 1 (bos (S.used.set nx.toNat true)) ua uc :: Own 70 1 (u32s (S.gen.set nx.toNat ((v + 1) % 4294967296))) ga gc :: Own 70 1 (u32s rl) ra2 rc2 :: L) w := hS
    refine WL.nil ?_
    as_aux_lemma =>
      refine WC.seq ?_
      refine WC.region ?_
      refine WL.r 3 rfl ?_
      refine WL.nil ?_
      refine WC.ret ?_
      replace hS := St.exClose (f := sltF s S.alloc) ⟨ua, uc, ga, gc, ra2, rc2⟩ (by
        subst hnx; subst hrl; subst hfr
        have hge : S.genOf S.next = v := by unfold SM.genOf; rw [hv]; rfl
        have e1 : (bos S.alloc.used).length = (bos S.used).length := by simp [SM.alloc]
        have e2 : (u32s S.alloc.gen).length = (u32s S.gen).length := by simp [SM.alloc]
        have e3 : S.alloc.gen = S.gen.set S.next.toNat ((v + 1) % 4294967296) := by rw [← hge]; rfl
        unfold sltF
        rw [e1, e2, e3]
        exact hS)
      replace hS : St g (Slt s S.alloc :: L) w := hS
      refine ⟨[.int .u32 nx, .int .i64 0], ⟨rfl, rfl⟩, ?_⟩
      exact ⟨by rw [hnx]; rfl, hS⟩
set_option maxRecDepth 8192 in
theorem sl_release_ok {g w : World} {L : List HP} (s : Nat) (S : SM) (i : Int) (hO : SOk S) (hi : 0 ≤ i ∧ i < 4294967296) (hn : S.ok i = true) (hS : St g (Slt s S :: L) w) :
    Sp Tryz.prog 149 [.pointer (some ⟨s, 0, none⟩), .int .u32 i] w (fun v w' => v = .int .i64 0 ∧ St g (Slt s (S.release i) :: L) w') := by
  refine Sp.enter Tryz.func149 rfl (by kernel_rfl) (by kernel_rfl) ?_
  refine WC.seq ?_
  refine WC.region ?_
  refine WL.r 1 rfl ?_
  refine WL.nil ?_
  refine WC.seq ?_
  refine WC.seq ?_
  refine WC.region ?_
  refine WL.r 2 rfl ?_
  refine WL.call rfl rfl (sl_ok (s := s) (S := S) (i := i) (hl := (by first | assumption | exact SOk.le (by assumption))) (hi := (by omega)) (hS := hS)) rfl ?_
  clear hS; rintro _ w ⟨rfl, hS⟩
  replace hS : St g (Slt s S :: L) w := hS
  refine WL.r 1 rfl ?_
  refine WL.nil ?_
  refine WC.ifF rfl (by rw [hn]; decide) ?_
  refine WC.skip ?_
  refine WC.seq ?_
  refine WC.region ?_
  have hrg := SM.ok_rng hO hi.1 hn; have hrl := hO.rle
  obtain ⟨⟨ua, uc, ga, gc, ra, rc⟩, hS⟩ := St.exOpen (f := sltF s S) hS; have hbu := bos_len S.used; have hbg := u32s_len S.gen; have hbr := u32s_len S.rel
  replace hS : St g (cel s #[.slice ua (List.length (bos S.used)) uc, .slice ga (List.length (u32s S.gen)) gc, .slice ra (List.length (u32s S.rel)) rc, .int .u32 S.fresh] 121 :: Own 4 1 (bos S.used) ua uc :: Own 70 1 (u32s S.gen) ga gc :: Own 70 1 (u32s S.rel) ra rc :: L) w := hS
  refine WL.run 5 [.slice ua (List.length (bos S.used)) uc] rfl (by exact hS.ld 0 rfl rfl) ?_
  obtain ⟨u, hu⟩ : ∃ u, S.used[i.toNat]? = some u := ⟨_, List.getElem?_eq_getElem (by omega)⟩
  refine WL.ix rfl rfl (i := i) (i.toNat) el_119 rfl rfl (by omega) (by omega) (hS.rdO 1 rfl (bos_at hu)).1 ?_
  refine WL.stE rfl rfl rfl 1 (i.toNat) 0 [.bool u] (bos (S.used.set i.toNat false)) hS rfl (bos_at hu) rfl rfl rfl rfl rfl (bos_set _ _ _) (fun w hS => ?_)
  replace hS : St g (cel s #[.slice ua (List.length (bos S.used)) uc, .slice ga (List.length (u32s S.gen)) gc, .slice ra (List.length (u32s S.rel)) rc, .int .u32 S.fresh] 121 :: Own 4 1 (bos (S.used.set i.toNat false)) ua uc :: Own 70 1 (u32s S.gen) ga gc :: Own 70 1 (u32s S.rel) ra rc :: L) w := hS
  refine WL.nil ?_
  as_aux_lemma =>
    refine WC.seq ?_
    refine WC.region ?_
    refine WL.run 6 [.slice ra (List.length (u32s S.rel)) rc] rfl (by exact hS.ld 0 rfl rfl) ?_
    refine WL.lit rfl rfl (u32s [i]) el_32 hS (by exact ⟨rfl, rfl⟩) (u32s_ok _) rfl (by decide) (fun b1 w hS => ?_)
    refine WL.app rfl rfl 4 (u32s (S.rel ++ [i])) el_32 hS rfl (hS.srcO 0 rfl) (u32s_app _ _).symm (Rm.of (by first | omega | (simp <;> omega)) (by decide)) rfl rfl (fun a1 c1 w hS => ?_)
    replace hS : St g (Own 70 1 (u32s [i]) (some ⟨b1, 0, none⟩) (List.length (u32s [i])) :: cel s #[.slice ua (List.length (bos S.used)) uc, .slice ga (List.length (u32s S.gen)) gc, .slice ra (List.length (u32s S.rel)) rc, .int .u32 S.fresh] 121 :: Own 4 1 (bos (S.used.set i.toNat false)) ua uc :: Own 70 1 (u32s S.gen) ga gc :: Own 70 1 (u32s (S.rel ++ [i])) a1 c1 :: L) w := hS
    refine WL.r 2 rfl ?_
    refine WL.st rfl rfl rfl 1 hS rfl rfl rfl rfl rfl rfl (fun w hS => ?_)
    replace hS : St g (Own 70 1 (u32s [i]) (some ⟨b1, 0, none⟩) (List.length (u32s [i])) :: cel s #[.slice ua (List.length (bos S.used)) uc, .slice ga (List.length (u32s S.gen)) gc, .slice a1 (List.length (u32s (S.rel ++ [i]))) c1, .int .u32 S.fresh] 121 :: Own 4 1 (bos (S.used.set i.toNat false)) ua uc :: Own 70 1 (u32s S.gen) ga gc :: Own 70 1 (u32s (S.rel ++ [i])) a1 c1 :: L) w := hS
    refine WL.nil ?_
    refine WC.seq ?_
    refine WC.region ?_
    refine WL.r 1 rfl ?_
    refine WL.nil ?_
    refine WC.ret ?_
    replace hS := St.exClose (f := sltF s (S.release i)) ⟨ua, uc, ga, gc, a1, c1⟩ (by
      have e1 : (bos (S.release i).used).length = (bos S.used).length := by simp [SM.release]
      unfold sltF
      rw [e1]
      exact hS.sel 5 [1, 1, 1, 1] rfl)
    replace hS : St g (Slt s (S.release i) :: L) w := hS
    refine ⟨[.int .i64 0], rfl, ?_⟩
    exact ⟨rfl, hS⟩
end Go.Proofs.YtloebjlnmdjeiaaGreatDoor
/-! ## T1 -/
namespace Go.Proofs.YtloebjlnmdjeiaaGreatDoor
open Go Go.V
set_option maxRecDepth 8192 in
theorem pack_spec {g w : World} {L : List HP} (i n : Int) (hi : 0 ≤ i ∧ i < 4294967296) (hn : 0 ≤ n ∧ n < 4294967296) (hS : St g (L) w) :
    Sp Tryz.prog 237 [.int .u32 i, .int .u32 n] w (fun v w' => v = .int .u64 (n * 4294967296 + i) ∧ St g (L) w') := by
  refine Sp.enter Tryz.func237 rfl (by kernel_rfl) (by kernel_rfl) ?_
  refine WC.seq ?_
  refine WC.region ?_
  refine WL.r 1 rfl ?_
  refine WL.nil ?_
  refine WC.seq ?_
  refine WC.region ?_
  refine WL.r 2 rfl ?_
  refine WL.nw 6 rfl (wu64 (by omega)) ?_
  refine WL.r 1 rfl ?_
  refine WL.r 2 rfl ?_
  refine WL.nw 9 rfl (wu64 (by omega)) ?_
  refine WL.r 1 rfl ?_
  refine WL.reb 10 (.int .u64 (n * 4294967296 + i)) (congrArg (Value.int .u64) (by exact pack_or hi hn)) ?_
  refine WL.r 1 rfl ?_
  refine WL.nil ?_
  refine WC.ret ?_
  refine ⟨[.int .u64 (n * 4294967296 + i)], rfl, ?_⟩
  exact ⟨rfl, hS⟩
set_option maxRecDepth 8192 in
theorem unpack_spec {g w : World} {L : List HP} (h : Int) (hh : 0 ≤ h ∧ h ≤ 18446744073709551615) (hS : St g (L) w) :
    Sp Tryz.prog 235 [.int .u64 h] w (fun v w' => v = .tuple #[.int .u32 (h % 4294967296), .int .u32 (h / 4294967296)] ∧ St g (L) w') := by
  refine Sp.enter Tryz.func235 rfl (by kernel_rfl) (by kernel_rfl) ?_
  have _ := hh
  refine WC.seq ?_
  refine WC.region ?_
  refine WL.r 2 rfl ?_
  refine WL.nil ?_
  refine WC.seq ?_
  refine WC.region ?_
  refine WL.r 2 rfl ?_
  refine WL.reb 5 (.int .u32 (h % 4294967296)) (congrArg (Value.int .u32) (by rfl)) ?_
  refine WL.r 2 rfl ?_
  refine WL.reb 7 (.int .u64 (h / 4294967296)) (congrArg (Value.int .u64) (by rfl)) ?_
  refine WL.r 1 rfl ?_
  refine WL.reb 8 (.int .u32 (h / 4294967296)) (congrArg (Value.int .u32) (by show (h / 4294967296) % 4294967296 = h / 4294967296; omega)) ?_
  refine WL.r 2 rfl ?_
  refine WL.nil ?_
  refine WC.ret ?_
  refine ⟨[.int .u32 (h % 4294967296), .int .u32 (h / 4294967296)], ⟨rfl, rfl⟩, ?_⟩
  exact ⟨rfl, hS⟩
set_option maxRecDepth 8192 in
theorem hd0 {g w : World} {L : List HP} (t p : Nat) (S : SM) (va : Option Addr) (n vc : Nat) (i : Int) (hO : SOk S) (hi : 0 ≤ i ∧ i < 4294967296) (hS : St g (cel t #[.pointer (some ⟨p, 0, none⟩), .slice va n vc] 88 :: Slt p S :: L) w) :
    Sp Tryz.prog 157 [.pointer (some ⟨t, 0, none⟩), .int .u32 i] w (fun v w' => v = .int .u64 (S.hd i) ∧ St g (cel t #[.pointer (some ⟨p, 0, none⟩), .slice va n vc] 88 :: Slt p S :: L) w') := by
  refine Sp.enter Tryz.func157 rfl (by kernel_rfl) (by kernel_rfl) ?_
  have _ := hi
  refine WC.seq ?_
  refine WC.region ?_
  have hg := hO.gen_rng i
  refine WL.r 1 rfl ?_
  refine WL.nil ?_
  refine WC.seq ?_
  refine WC.region ?_
  refine WL.run 6 [.pointer (some ⟨p, 0, none⟩)] rfl (by exact hS.ld 0 rfl rfl) ?_
  refine WL.call rfl rfl (sl_gen (s := p) (S := S) (i := i) (hl := (by first | assumption | exact SOk.gle (by assumption))) (hi := (by omega)) (hS := (hS.sel 2 [1, 0] rfl))) rfl ?_
  clear hS; rintro _ w ⟨rfl, hS⟩
  replace hS : St g (Slt p S :: cel t #[.pointer (some ⟨p, 0, none⟩), .slice va n vc] 88 :: L) w := hS
  refine WL.call rfl rfl (pack_spec (i := i) (n := S.genOf i) (hi := (by omega)) (hn := (by first | omega | exact SOk.gen_rng (by assumption) _)) (hS := hS)) rfl ?_
  clear hS; rintro _ w ⟨rfl, hS⟩
  replace hS : St g (Slt p S :: cel t #[.pointer (some ⟨p, 0, none⟩), .slice va n vc] 88 :: L) w := hS
  refine WL.r 1 rfl ?_
  refine WL.nil ?_
  refine WC.ret ?_
  refine ⟨[.int .u64 ((S.genOf i) * 4294967296 + i)], rfl, ?_⟩
  replace hS := (hS.sel 2 [1, 0] rfl)
  exact ⟨rfl, hS⟩
set_option maxRecDepth 8192 in
theorem ent0 {g w : World} {L : List HP} (t p : Nat) (S : SM) (va : Option Addr) (n vc : Nat) (h : Int) (hO : SOk S) (hh : 0 ≤ h ∧ h ≤ 18446744073709551615) (hS : St g (cel t #[.pointer (some ⟨p, 0, none⟩), .slice va n vc] 88 :: Slt p S :: L) w) :
    Sp Tryz.prog 150 [.pointer (some ⟨t, 0, none⟩), .int .u64 h] w (fun v w' => v = .tuple #[.int .u32 (h % 4294967296), .bool (S.opn h)] ∧ St g (cel t #[.pointer (some ⟨p, 0, none⟩), .slice va n vc] 88 :: Slt p S :: L) w') := by
  refine Sp.enter Tryz.func150 rfl (by kernel_rfl) (by kernel_rfl) ?_
  have _ := hh
  have _ := hO
  refine WC.seq ?_
  refine WC.region ?_
  refine WL.r 2 rfl ?_
  refine WL.nil ?_
  refine WC.seq ?_
  refine WC.region ?_
  refine WL.r 1 rfl ?_
  refine WL.call rfl rfl (unpack_spec (h := h) (hh := (by omega)) (hS := hS)) rfl ?_
  clear hS; rintro _ w ⟨rfl, hS⟩
  replace hS : St g (cel t #[.pointer (some ⟨p, 0, none⟩), .slice va n vc] 88 :: Slt p S :: L) w := hS
  refine WL.r 5 rfl ?_
  refine WL.nil ?_
  refine WC.seq ?_
  refine WC.region ?_
  refine WL.run 6 [.pointer (some ⟨p, 0, none⟩)] rfl (by exact hS.ld 0 rfl rfl) ?_
  refine WL.call rfl rfl (sl_ok (s := p) (S := S) (i := h % 4294967296) (hl := (by first | assumption | exact SOk.le (by assumption))) (hi := (by omega)) (hS := (hS.sel 2 [1, 0] rfl))) rfl ?_
  clear hS; rintro _ w ⟨rfl, hS⟩
  replace hS : St g (Slt p S :: cel t #[.pointer (some ⟨p, 0, none⟩), .slice va n vc] 88 :: L) w := hS
  refine WL.r 1 rfl ?_
  by_cases cg1 : (S.ok (h % 4294967296)) = true
  · refine WL.reb 20 (.bool true) (congrArg Value.bool cg1) ?_
    refine WL.ung rfl rfl rfl ?_
    refine WL.r 1 rfl ?_
    refine WL.ung rfl rfl rfl ?_
    refine WL.r 1 rfl ?_
    refine WL.ung rfl rfl rfl ?_
    refine WL.call rfl rfl (hd0 (t := t) (p := p) (S := S) (va := va) (n := n) (vc := vc) (i := h % 4294967296) (hO := (by assumption)) (hi := (by omega)) (hS := (hS.sel 2 [1, 0] rfl))) rfl ?_
    clear hS; rintro _ w ⟨rfl, hS⟩
    replace hS : St g (cel t #[.pointer (some ⟨p, 0, none⟩), .slice va n vc] 88 :: Slt p S :: L) w := hS
    refine WL.ung rfl rfl rfl ?_
    refine WL.r 1 rfl ?_
    refine WL.ung rfl rfl rfl ?_
    refine WL.r 4 rfl ?_
    refine WL.nil ?_
    as_aux_lemma =>
      refine WC.ret ?_
      refine ⟨[.int .u32 (h % 4294967296), .bool (decide ((S.hd (h % 4294967296)) = h))], ⟨rfl, rfl⟩, ?_⟩
      first | exact ⟨congrArg (fun b => Value.tuple #[.int .u32 (h % 4294967296), .bool b]) (by unfold SM.opn; rw [show S.ok (h % 4294967296) = true from cg1]; rfl), hS⟩ | exact ⟨congrArg (fun b => Value.tuple #[.int .u32 (h % 4294967296), .bool b]) (by unfold SM.opn; rw [Bool.eq_false_iff.2 cg1]; rfl), hS⟩
  · refine WL.reb 20 (.bool false) (congrArg Value.bool (Bool.eq_false_iff.2 cg1)) ?_
    refine WL.skp rfl rfl rfl rfl ?_
    refine WL.skp rfl rfl rfl rfl ?_
    refine WL.skp rfl rfl rfl rfl ?_
    refine WL.skp rfl rfl rfl rfl ?_
    refine WL.skp rfl rfl rfl rfl ?_
    refine WL.r 3 rfl ?_
    refine WL.nil ?_
    as_aux_lemma =>
      refine WC.ret ?_
      refine ⟨[.int .u32 (h % 4294967296), .bool false], ⟨rfl, rfl⟩, ?_⟩
      replace hS := (hS.sel 2 [1, 0] rfl)
      first | exact ⟨congrArg (fun b => Value.tuple #[.int .u32 (h % 4294967296), .bool b]) (by unfold SM.opn; rw [show S.ok (h % 4294967296) = true from cg1]; rfl), hS⟩ | exact ⟨congrArg (fun b => Value.tuple #[.int .u32 (h % 4294967296), .bool b]) (by unfold SM.opn; rw [Bool.eq_false_iff.2 cg1]; rfl), hS⟩
set_option maxRecDepth 8192 in
theorem tb_lookup_bad {g w : World} {L : List HP} (t : Nat) (T : TM) (h : Int) (hT : TOk T) (hh : 0 ≤ h ∧ h ≤ 18446744073709551615) (hn : T.s.opn h = false) (hS : St g (Tbl t T :: L) w) :
    Sp Tryz.prog 119 [.pointer (some ⟨t, 0, none⟩), .int .u64 h] w (fun v w' => v = .tuple #[.int .u32 0, .int .i64 5] ∧ St g (Tbl t T :: L) w') := by
  refine Sp.enter Tryz.func119 rfl (by kernel_rfl) (by kernel_rfl) ?_
  refine WC.seq ?_
  refine WC.region ?_
  refine WL.r 2 rfl ?_
  refine WL.nil ?_
  refine WC.seq ?_
  refine WC.region ?_
  obtain ⟨⟨p, va, vc⟩, hS⟩ := St.exOpen (f := tblF t T) hS; have hbv := u32s_len T.vals; have hTs := hT.s; have hvl := hT.vl; have hcp := hTs.cap
  replace hS : St g (cel t #[.pointer (some ⟨p, 0, none⟩), .slice va (List.length (u32s T.vals)) vc] 88 :: Slt p T.s :: Own 70 1 (u32s T.vals) va vc :: L) w := hS
  refine WL.r 2 rfl ?_
  refine WL.call rfl rfl (ent0 (t := t) (p := p) (S := T.s) (va := va) (n := List.length (u32s T.vals)) (vc := vc) (h := h) (hO := (by assumption)) (hh := hh) (hS := hS)) rfl ?_
  clear hS; rintro _ w ⟨rfl, hS⟩
  replace hS : St g (cel t #[.pointer (some ⟨p, 0, none⟩), .slice va (List.length (u32s T.vals)) vc] 88 :: Slt p T.s :: Own 70 1 (u32s T.vals) va vc :: L) w := hS
  refine WL.r 5 rfl ?_
  refine WL.nil ?_
  refine WC.seq ?_
  refine WC.seq ?_
  refine WC.region ?_
  refine WL.r 2 rfl ?_
  refine WL.nil ?_
  refine WC.ifT rfl (by rw [hn]; rfl) ?_
  refine WC.seq ?_
  refine WC.region ?_
  refine WL.r 2 rfl ?_
  refine WL.nil ?_
  as_aux_lemma =>
    refine WC.ret ?_
    replace hS := St.exClose (f := tblF t T) ⟨p, va, vc⟩ hS
    replace hS : St g (Tbl t T :: L) w := hS
    refine ⟨[.int .u32 0, .int .i64 5], ⟨rfl, rfl⟩, ?_⟩
    exact ⟨rfl, hS⟩
set_option maxRecDepth 8192 in
theorem tb_lookup_ok {g w : World} {L : List HP} (t : Nat) (T : TM) (h : Int) (hT : TOk T) (hh : 0 ≤ h ∧ h ≤ 18446744073709551615) (hn : T.s.opn h = true) (hS : St g (Tbl t T :: L) w) :
    Sp Tryz.prog 119 [.pointer (some ⟨t, 0, none⟩), .int .u64 h] w (fun v w' => v = .tuple #[.int .u32 (T.val h), .int .i64 0] ∧ St g (Tbl t T :: L) w') := by
  refine Sp.enter Tryz.func119 rfl (by kernel_rfl) (by kernel_rfl) ?_
  refine WC.seq ?_
  refine WC.region ?_
  refine WL.r 2 rfl ?_
  refine WL.nil ?_
  refine WC.seq ?_
  refine WC.region ?_
  obtain ⟨⟨p, va, vc⟩, hS⟩ := St.exOpen (f := tblF t T) hS; have hbv := u32s_len T.vals; have hTs := hT.s; have hvl := hT.vl; have hcp := hTs.cap
  replace hS : St g (cel t #[.pointer (some ⟨p, 0, none⟩), .slice va (List.length (u32s T.vals)) vc] 88 :: Slt p T.s :: Own 70 1 (u32s T.vals) va vc :: L) w := hS
  refine WL.r 2 rfl ?_
  refine WL.call rfl rfl (ent0 (t := t) (p := p) (S := T.s) (va := va) (n := List.length (u32s T.vals)) (vc := vc) (h := h) (hO := (by assumption)) (hh := hh) (hS := hS)) rfl ?_
  clear hS; rintro _ w ⟨rfl, hS⟩
  replace hS : St g (cel t #[.pointer (some ⟨p, 0, none⟩), .slice va (List.length (u32s T.vals)) vc] 88 :: Slt p T.s :: Own 70 1 (u32s T.vals) va vc :: L) w := hS
  refine WL.r 5 rfl ?_
  refine WL.nil ?_
  refine WC.seq ?_
  refine WC.seq ?_
  refine WC.region ?_
  refine WL.r 2 rfl ?_
  refine WL.nil ?_
  refine WC.ifF rfl (by rw [hn]; decide) ?_
  refine WC.skip ?_
  refine WC.seq ?_
  refine WC.region ?_
  have hrg := SM.ok_rng hTs (by omega) (SM.opn_ok hn).1
  refine WL.run 5 [.slice va (List.length (u32s T.vals)) vc] rfl (by exact hS.ld 0 rfl rfl) ?_
  obtain ⟨v, hv⟩ : ∃ v, T.vals[(h % 4294967296).toNat]? = some v := ⟨_, List.getElem?_eq_getElem (by omega)⟩
  refine WL.ix rfl rfl (i := h % 4294967296) ((h % 4294967296).toNat) el_32 rfl rfl (by omega) (by omega) (hS.rdO 2 rfl (u32s_at hv)).1 ?_
  refine WL.run 3 [.int .u32 v] rfl (by exact (hS.rdO 2 rfl (u32s_at hv)).2 0 _ rfl) ?_
  refine WL.nil ?_
  as_aux_lemma =>
    refine WC.ret ?_
    replace hS := St.exClose (f := tblF t T) ⟨p, va, vc⟩ hS
    replace hS : St g (Tbl t T :: L) w := hS
    refine ⟨[.int .u32 v, .int .i64 0], ⟨rfl, rfl⟩, ?_⟩
    exact ⟨by rw [TM.val, hv]; rfl, hS⟩
set_option maxRecDepth 8192 in
theorem tb_close_ok {g w : World} {L : List HP} (t : Nat) (T : TM) (h : Int) (hT : TOk T) (hh : 0 ≤ h ∧ h ≤ 18446744073709551615) (hn : T.s.opn h = true) (hS : St g (Tbl t T :: L) w) :
    Sp Tryz.prog 70 [.pointer (some ⟨t, 0, none⟩), .int .u64 h] w (fun v w' => v = .tuple #[.int .u32 (T.val h), .int .i64 0] ∧ St g (Tbl t (T.close h) :: L) w') := by
  refine Sp.enter Tryz.func70 rfl (by kernel_rfl) (by kernel_rfl) ?_
  refine WC.seq ?_
  refine WC.region ?_
  refine WL.r 2 rfl ?_
  refine WL.nil ?_
  refine WC.seq ?_
  refine WC.region ?_
  obtain ⟨⟨p, va, vc⟩, hS⟩ := St.exOpen (f := tblF t T) hS; have hbv := u32s_len T.vals; have hTs := hT.s; have hvl := hT.vl; have hcp := hTs.cap
  replace hS : St g (cel t #[.pointer (some ⟨p, 0, none⟩), .slice va (List.length (u32s T.vals)) vc] 88 :: Slt p T.s :: Own 70 1 (u32s T.vals) va vc :: L) w := hS
  refine WL.r 2 rfl ?_
  refine WL.call rfl rfl (ent0 (t := t) (p := p) (S := T.s) (va := va) (n := List.length (u32s T.vals)) (vc := vc) (h := h) (hO := (by assumption)) (hh := hh) (hS := hS)) rfl ?_
  clear hS; rintro _ w ⟨rfl, hS⟩
  replace hS : St g (cel t #[.pointer (some ⟨p, 0, none⟩), .slice va (List.length (u32s T.vals)) vc] 88 :: Slt p T.s :: Own 70 1 (u32s T.vals) va vc :: L) w := hS
  refine WL.r 5 rfl ?_
  refine WL.nil ?_
  refine WC.seq ?_
  refine WC.seq ?_
  refine WC.region ?_
  refine WL.r 2 rfl ?_
  refine WL.nil ?_
  refine WC.ifF rfl (by rw [hn]; decide) ?_
  refine WC.skip ?_
  refine WC.seq ?_
  refine WC.region ?_
  have hrg := SM.ok_rng hTs (by omega) (SM.opn_ok hn).1
  refine WL.run 5 [.pointer (some ⟨p, 0, none⟩)] rfl (by exact hS.ld 0 rfl rfl) ?_
  refine WL.call rfl rfl (sl_release_ok (s := p) (S := T.s) (i := h % 4294967296) (hO := (by assumption)) (hi := (by omega)) (hn := (SM.opn_ok hn).1) (hS := (hS.sel 2 [1, 0] rfl))) rfl ?_
  clear hS; rintro _ w ⟨rfl, hS⟩
  replace hS : St g (Slt p (T.s.release (h % 4294967296)) :: cel t #[.pointer (some ⟨p, 0, none⟩), .slice va (List.length (u32s T.vals)) vc] 88 :: Own 70 1 (u32s T.vals) va vc :: L) w := hS
  refine WL.nil ?_
  as_aux_lemma =>
    refine WC.seq ?_
    refine WC.region ?_
    refine WL.run 5 [.slice va (List.length (u32s T.vals)) vc] rfl (by exact hS.ld 1 rfl rfl) ?_
    obtain ⟨v, hv⟩ : ∃ v, T.vals[(h % 4294967296).toNat]? = some v := ⟨_, List.getElem?_eq_getElem (by omega)⟩
    refine WL.ix rfl rfl (i := h % 4294967296) ((h % 4294967296).toNat) el_32 rfl rfl (by omega) (by omega) (hS.rdO 2 rfl (u32s_at hv)).1 ?_
    refine WL.run 3 [.int .u32 v] rfl (by exact (hS.rdO 2 rfl (u32s_at hv)).2 0 _ rfl) ?_
    refine WL.nil ?_
    refine WC.ret ?_
    replace hS := St.exClose (f := tblF t (T.close h)) ⟨p, va, vc⟩ (by first | exact hS | exact hS.sel 3 [1, 0, 0] rfl)
    replace hS : St g (Tbl t (T.close h) :: L) w := hS
    refine ⟨[.int .u32 v, .int .i64 0], ⟨rfl, rfl⟩, ?_⟩
    exact ⟨by rw [TM.val, hv]; rfl, hS⟩
set_option maxRecDepth 8192 in
theorem tb_len {g w : World} {L : List HP} (t : Nat) (T : TM) (hT : TOk T) (hS : St g (Tbl t T :: L) w) :
    Sp Tryz.prog 53 [.pointer (some ⟨t, 0, none⟩)] w (fun v w' => v = .int .i64 (T.s.cap - T.s.free) ∧ St g (Tbl t T :: L) w') := by
  refine Sp.enter Tryz.func53 rfl (by kernel_rfl) (by kernel_rfl) ?_
  refine WC.seq ?_
  refine WC.region ?_
  have hfr := hT.s.fr; have hrl := hT.s.rle; have hcp0 := hT.s.cap; have e1 : T.s.cap = (T.s.used.length : Int) - 1 := rfl; have e2 : T.s.free = (T.s.rel.length : Int) + T.s.cap - T.s.fresh := rfl
  obtain ⟨⟨p, va, vc⟩, hS⟩ := St.exOpen (f := tblF t T) hS; have hbv := u32s_len T.vals; have hTs := hT.s; have hvl := hT.vl; have hcp := hTs.cap
  replace hS : St g (cel t #[.pointer (some ⟨p, 0, none⟩), .slice va (List.length (u32s T.vals)) vc] 88 :: Slt p T.s :: Own 70 1 (u32s T.vals) va vc :: L) w := hS
  refine WL.r 1 rfl ?_
  refine WL.nil ?_
  refine WC.seq ?_
  refine WC.plan [([0, 5, 1, 6, 2, 7, 3, 8], some (4, [5, 6, 7, 8])), ([], some (9, [])), ([10, 11], none)] (by kernel_rfl) (by kernel_rfl) ?_
  refine WQ.run 8 [.pointer (some ⟨p, 0, none⟩), .pointer (some ⟨p, 0, none⟩)] rfl (by exact ⟨hS.ld 0 rfl rfl, hS.ld 0 rfl rfl⟩) ?_
  refine WQ.nil ?_
  intro m1
  replace hS := hS.drewN m1; generalize hwm1 : World.drewN _ _ = w at *; clear hwm1
  refine WL.call rfl rfl (sl_cap (s := p) (S := T.s) (hl := (by first | assumption | exact SOk.le (by assumption))) (hS := (hS.sel 2 [1, 0] rfl))) rfl ?_
  clear hS; rintro _ w ⟨rfl, hS⟩
  replace hS : St g (Slt p T.s :: cel t #[.pointer (some ⟨p, 0, none⟩), .slice va (List.length (u32s T.vals)) vc] 88 :: Own 70 1 (u32s T.vals) va vc :: L) w := hS
  refine WL.nil ?_
  refine ⟨by exact ⟨RQ.pure rfl rfl rfl rfl, RQ.pure rfl rfl rfl rfl, RQ.pure rfl rfl rfl rfl, RQ.load rfl rfl rfl rfl (hS.ld 1 rfl rfl)⟩, ?_⟩
  refine WQ.nil ?_
  intro m2
  replace hS := hS.drewN m2; generalize hwm2 : World.drewN _ _ = w at *; clear hwm2
  refine WL.call rfl rfl (sl_free (s := p) (S := T.s) (hO := (by assumption)) (hS := hS)) rfl ?_
  clear hS; rintro _ w ⟨rfl, hS⟩
  replace hS : St g (Slt p T.s :: cel t #[.pointer (some ⟨p, 0, none⟩), .slice va (List.length (u32s T.vals)) vc] 88 :: Own 70 1 (u32s T.vals) va vc :: L) w := hS
  refine WL.nil ?_
  refine ⟨by exact trivial, ?_⟩
  refine WQ.r 1 rfl ?_
  refine WQ.nw 13 rfl (w64 (by omega)) ?_
  refine WQ.r 1 rfl ?_
  refine WQ.nil ?_
  intro m3
  replace hS := hS.drewN m3; generalize hwm3 : World.drewN _ _ = w at *; clear hwm3
  as_aux_lemma =>
    refine WC.ret ?_
    replace hS := St.exClose (f := tblF t T) ⟨p, va, vc⟩ (by first | exact hS | exact hS.sel 3 [1, 0, 0] rfl)
    replace hS : St g (Tbl t T :: L) w := hS
    refine ⟨[.int .i64 (T.s.cap - T.s.free)], rfl, ?_⟩
    exact ⟨rfl, hS⟩
set_option maxRecDepth 8192 in
theorem tb_open_ok {g w : World} {L : List HP} (t : Nat) (T : TM) (y : Int) (hT : TOk T) (hf : 0 < T.s.free) (hS : St g (Tbl t T :: L) w) :
    Sp Tryz.prog 73 [.pointer (some ⟨t, 0, none⟩), .int .u32 y] w (fun v w' => v = .tuple #[.int .u64 T.newH, .int .i64 0] ∧ St g (Tbl t (T.open y) :: L) w') := by
  refine Sp.enter Tryz.func73 rfl (by kernel_rfl) (by kernel_rfl) ?_
  refine WC.seq ?_
  refine WC.region ?_
  refine WL.r 2 rfl ?_
  refine WL.nil ?_
  refine WC.seq ?_
  refine WC.region ?_
  obtain ⟨⟨p, va, vc⟩, hS⟩ := St.exOpen (f := tblF t T) hS; have hbv := u32s_len T.vals; have hTs := hT.s; have hvl := hT.vl; have hcp := hTs.cap
  replace hS : St g (cel t #[.pointer (some ⟨p, 0, none⟩), .slice va (List.length (u32s T.vals)) vc] 88 :: Slt p T.s :: Own 70 1 (u32s T.vals) va vc :: L) w := hS
  refine WL.run 4 [.pointer (some ⟨p, 0, none⟩)] rfl (by exact hS.ld 0 rfl rfl) ?_
  refine WL.call rfl rfl (sl_alloc_ok (s := p) (S := T.s) (hO := (by assumption)) (hf := hf) (hS := (hS.sel 2 [1, 0] rfl))) rfl ?_
  clear hS; rintro _ w ⟨rfl, hS⟩
  replace hS : St g (Slt p T.s.alloc :: cel t #[.pointer (some ⟨p, 0, none⟩), .slice va (List.length (u32s T.vals)) vc] 88 :: Own 70 1 (u32s T.vals) va vc :: L) w := hS
  refine WL.r 5 rfl ?_
  refine WL.nil ?_
  refine WC.seq ?_
  refine WC.seq ?_
  refine WC.region ?_
  refine WL.r 2 rfl ?_
  refine WL.nil ?_
  refine WC.ifF rfl (decide_eq_false ((by decide))) ?_
  refine WC.skip ?_
  refine WC.seq ?_
  refine WC.region ?_
  have hnx := T.s.next_rng hTs hf; have hO2 := SM.alloc_sok hTs hf
  refine WL.run 6 [.slice va (List.length (u32s T.vals)) vc] rfl (by exact hS.ld 1 rfl rfl) ?_
  obtain ⟨u, hv⟩ : ∃ u, T.vals[T.s.next.toNat]? = some u := ⟨_, List.getElem?_eq_getElem (by omega)⟩
  refine WL.ix rfl rfl (i := T.s.next) (T.s.next.toNat) el_32 rfl rfl (by omega) (by omega) (hS.rdO 2 rfl (u32s_at hv)).1 ?_
  refine WL.stE rfl rfl rfl 2 (T.s.next.toNat) 0 [.int .u32 u] (u32s (T.vals.set T.s.next.toNat y)) hS rfl (u32s_at hv) rfl rfl rfl rfl rfl (u32s_set _ _ _) (fun w hS => ?_)
  replace hS : St g (Slt p T.s.alloc :: cel t #[.pointer (some ⟨p, 0, none⟩), .slice va (List.length (u32s T.vals)) vc] 88 :: Own 70 1 (u32s (T.vals.set T.s.next.toNat y)) va vc :: L) w := hS
  refine WL.nil ?_
  as_aux_lemma =>
    refine WC.seq ?_
    refine WC.region ?_
    refine WL.r 2 rfl ?_
    refine WL.call rfl rfl (hd0 (t := t) (p := p) (S := T.s.alloc) (va := va) (n := List.length (u32s T.vals)) (vc := vc) (i := T.s.next) (hO := (by assumption)) (hi := (by omega)) (hS := (hS.sel 2 [1, 0] rfl))) rfl ?_
    clear hS; rintro _ w ⟨rfl, hS⟩
    replace hS : St g (cel t #[.pointer (some ⟨p, 0, none⟩), .slice va (List.length (u32s T.vals)) vc] 88 :: Slt p T.s.alloc :: Own 70 1 (u32s (T.vals.set T.s.next.toNat y)) va vc :: L) w := hS
    refine WL.r 2 rfl ?_
    refine WL.nil ?_
    refine WC.ret ?_
    replace hS := St.exClose (f := tblF t (T.open y)) ⟨p, va, vc⟩ (by
      have e1 : (u32s (T.open y).vals).length = (u32s T.vals).length := by simp [TM.open]
      unfold tblF
      rw [e1]
      first | exact hS | exact hS.sel 3 [1, 0, 0] rfl)
    replace hS : St g (Tbl t (T.open y) :: L) w := hS
    refine ⟨[.int .u64 (T.s.alloc.hd T.s.next), .int .i64 0], ⟨rfl, rfl⟩, ?_⟩
    exact ⟨rfl, hS⟩
set_option maxRecDepth 8192 in
theorem tb_new_bad {g w : World} {L : List HP} (cap : Int) (hc : ¬ (1 ≤ cap ∧ cap ≤ 4096)) (hS : St g (L) w) :
    Sp Tryz.prog 12 [.int .i64 cap] w (fun v w' => v = .tuple #[.pointer none, .int .i64 1] ∧ St g (L) w') := by
  refine Sp.enter Tryz.func12 rfl (by kernel_rfl) (by kernel_rfl) ?_
  have _ := hc
  refine WC.seq ?_
  refine WC.region ?_
  refine WL.r 2 rfl ?_
  refine WL.nil ?_
  refine WC.seq ?_
  refine WC.seq ?_
  refine WC.region ?_
  refine WL.r 2 rfl ?_
  refine WL.rG 4 rfl (fun j => ?_)
  refine WL.prop 11 rfl (bor (dd _) (dd _)) ?_
  refine WL.nil ?_
  refine WC.ifT rfl (decide_eq_true ((by omega))) ?_
  refine WC.seq ?_
  refine WC.region ?_
  refine WL.r 2 rfl ?_
  refine WL.nil ?_
  refine WC.ret ?_
  refine ⟨[.pointer none, .int .i64 1], ⟨rfl, rfl⟩, ?_⟩
  exact ⟨rfl, hS⟩
set_option maxRecDepth 8192 in
theorem tb_new_ok {g w : World} {L : List HP} (cap : Int) (hc : 1 ≤ cap ∧ cap ≤ 4096) (hS : St g (L) w) :
    Sp Tryz.prog 12 [.int .i64 cap] w (fun v w' => ∃ (t : Nat), v = .tuple #[.pointer (some ⟨t, 0, none⟩), .int .i64 0] ∧ St g (Tbl t (TM.new cap.toNat) :: L) w') := by
  refine Sp.enter Tryz.func12 rfl (by kernel_rfl) (by kernel_rfl) ?_
  have _ := hc
  refine WC.seq ?_
  refine WC.region ?_
  refine WL.r 2 rfl ?_
  refine WL.nil ?_
  refine WC.seq ?_
  refine WC.seq ?_
  refine WC.region ?_
  refine WL.r 2 rfl ?_
  refine WL.rG 4 rfl (fun j => ?_)
  refine WL.prop 11 rfl (bor (dd _) (dd _)) ?_
  refine WL.nil ?_
  refine WC.ifF rfl (decide_eq_false ((by omega))) ?_
  refine WC.skip ?_
  refine WC.seq ?_
  refine WC.region ?_
  refine WL.r 1 rfl ?_
  refine WL.call rfl rfl (sl_new_ok (cap := cap) (hc := (by omega)) (hS := hS)) rfl ?_
  clear hS; rintro _ w ⟨s1, rfl, hS⟩
  replace hS : St g (Slt s1 (SM.new cap.toNat) :: L) w := hS
  refine WL.r 5 rfl ?_
  refine WL.nil ?_
  refine WC.seq ?_
  refine WC.seq ?_
  refine WC.region ?_
  refine WL.r 2 rfl ?_
  refine WL.nil ?_
  as_aux_lemma =>
    refine WC.ifF rfl (decide_eq_false ((by decide))) ?_
    refine WC.skip ?_
    refine WC.seq ?_
    refine WC.region ?_
    refine WL.r 3 rfl ?_
    refine WL.nw 22 rfl (w64 (by omega)) ?_
    refine WL.make rfl rfl (v := cap + 1) (v' := cap + 1) (cap.toNat + 1) (cap.toNat + 1) el_32 hS rfl (by omega) rfl (by omega) (by omega) (Rm.of (by omega) (by decide)) (fun b1 w hS => ?_)
    replace hS : St g (Own 70 1 (List.replicate (cap.toNat + 1) [.int .u32 0]) (some ⟨b1, 0, none⟩) (cap.toNat + 1) :: Slt s1 (SM.new cap.toNat) :: L) w := hS
    refine WL.build rfl rfl (cs := [.pointer (some ⟨s1, 0, none⟩), .slice (some ⟨b1, 0, none⟩) (cap.toNat + 1) (cap.toNat + 1)]) zv_88 rfl rfl ?_
    refine WL.box rfl rfl #[.pointer (some ⟨s1, 0, none⟩), .slice (some ⟨b1, 0, none⟩) (cap.toNat + 1) (cap.toNat + 1)] hS rfl rfl (fun b2 w hS => ?_)
    refine WL.r 2 rfl ?_
    refine WL.nil ?_
    refine WC.ret ?_
    rw [u32s_rep] at hS
    replace hS := St.exClose (f := tblF b2 (TM.new cap.toNat)) ⟨s1, some ⟨b1, 0, none⟩, cap.toNat + 1⟩ (by
      have e1 : (u32s (TM.new cap.toNat).vals).length = cap.toNat + 1 := by simp [TM.new]
      unfold tblF
      rw [e1]
      exact hS.sel 3 [0, 1, 0] rfl)
    replace hS : St g (Tbl b2 (TM.new cap.toNat) :: L) w := hS
    refine ⟨[.pointer (some ⟨b2, 0, none⟩), .int .i64 0], ⟨rfl, rfl⟩, ?_⟩
    exact ⟨_, rfl, hS⟩
end Go.Proofs.YtloebjlnmdjeiaaGreatDoor
/-! ## R1 -/
namespace Go.Proofs.YtloebjlnmdjeiaaGreatDoor
open Go Go.V
theorem arn_new1 {n : Nat} : (nds (AM.new n).nodes).length = n + 1 := by simp [AM.new]
theorem arn_new2 {n : Nat} : (i64s (AM.new n).cnt).length = n + 1 := by simp [AM.new]
set_option maxRecDepth 8192 in
theorem ar_new_bad {g w : World} {L : List HP} (cap : Int) (hc : ¬ (1 ≤ cap ∧ cap ≤ 65536)) (hS : St g (L) w) :
    Sp Tryz.prog 20 [.int .i64 cap] w (fun v w' => v = .tuple #[.pointer none, .int .i64 1] ∧ St g (L) w') := by
  refine Sp.enter Tryz.func20 rfl (by kernel_rfl) (by kernel_rfl) ?_
  refine WC.seq ?_
  refine WC.region ?_
  refine WL.r 2 rfl ?_
  refine WL.nil ?_
  refine WC.seq ?_
  refine WC.region ?_
  refine WL.r 1 rfl ?_
  refine WL.call rfl rfl (sl_new_bad (cap := cap) (hc := hc) (hS := hS)) rfl ?_
  clear hS; rintro _ w ⟨rfl, hS⟩
  replace hS : St g (L) w := hS
  refine WL.r 5 rfl ?_
  refine WL.nil ?_
  refine WC.seq ?_
  refine WC.seq ?_
  refine WC.region ?_
  refine WL.r 2 rfl ?_
  refine WL.nil ?_
  refine WC.ifT rfl (decide_eq_true ((by decide))) ?_
  refine WC.seq ?_
  refine WC.region ?_
  refine WL.r 3 rfl ?_
  refine WL.nil ?_
  refine WC.ret ?_
  refine ⟨[.pointer none, .int .i64 1], ⟨rfl, rfl⟩, ?_⟩
  exact ⟨rfl, hS⟩
set_option maxRecDepth 8192 in
theorem ar_new_ok {g w : World} {L : List HP} (cap : Int) (hc : 1 ≤ cap ∧ cap ≤ 65536) (hS : St g (L) w) :
    Sp Tryz.prog 20 [.int .i64 cap] w (fun v w' => ∃ (a : Nat), v = .tuple #[.pointer (some ⟨a, 0, none⟩), .int .i64 0] ∧ St g (Arn a (AM.new cap.toNat) :: L) w') := by
  refine Sp.enter Tryz.func20 rfl (by kernel_rfl) (by kernel_rfl) ?_
  refine WC.seq ?_
  refine WC.region ?_
  refine WL.r 2 rfl ?_
  refine WL.nil ?_
  refine WC.seq ?_
  refine WC.region ?_
  refine WL.r 1 rfl ?_
  refine WL.call rfl rfl (sl_new_ok (cap := cap) (hc := hc) (hS := hS)) rfl ?_
  clear hS; rintro _ w ⟨s1, rfl, hS⟩
  replace hS : St g (Slt s1 (SM.new cap.toNat) :: L) w := hS
  refine WL.r 5 rfl ?_
  refine WL.nil ?_
  refine WC.seq ?_
  refine WC.seq ?_
  refine WC.region ?_
  refine WL.r 2 rfl ?_
  refine WL.nil ?_
  refine WC.ifF rfl (decide_eq_false ((by decide))) ?_
  refine WC.skip ?_
  refine WC.seq ?_
  refine WC.tree (.two [0, 1, 4, 2, 5] 3 [0, 4, 5] (.one [] 6 [0, 1, 2] (.one [7] 8 [] (.seg [9, 10] .nil))) 6 [0, 1, 2] (.one [] 3 [0, 4, 5] (.one [7] 8 [] (.seg [9, 10] .nil)))) (by kernel_rfl) (by kernel_rfl) ?_
  refine WQ.r 4 rfl ?_
  refine WQ.nw 16 rfl (w64 (by omega)) ?_
  refine WQ.r 1 rfl ?_
  refine WQ.nw 19 rfl (w64 (by omega)) ?_
  refine WQ.nil ?_
  intro m1
  replace hS := hS.drewN m1; generalize hwm1 : World.drewN _ _ = w at *; clear hwm1
  refine ⟨?_, ?_⟩
  · refine WL.make rfl rfl (v := cap + 1) (v' := cap + 1) (cap.toNat + 1) (cap.toNat + 1) el_101 hS rfl (by omega) rfl (by omega) (by omega) (Rm.of (by omega) (by decide)) (fun b1 w hS => ?_)
    replace hS : St g (Own 113 8 (List.replicate (cap.toNat + 1) [.int .i64 0, .int .i64 0, .int .u32 0, .int .u32 0, .int .i64 0, .int .i64 0, .int .i64 0, .int .i64 0]) (some ⟨b1, 0, none⟩) (cap.toNat + 1) :: Slt s1 (SM.new cap.toNat) :: L) w := hS
    refine WL.nil ?_
    refine ⟨by exact ⟨RQ.pure rfl rfl rfl rfl, RQ.pure rfl rfl rfl rfl, RQ.pure rfl rfl rfl (congrArg (Value.int .i64) (Eq.symm (w64 (by omega))))⟩, ?_⟩
    refine WQ.nil ?_
    intro m2
    replace hS := hS.drewN m2; generalize hwm2 : World.drewN _ _ = w at *; clear hwm2
    refine WL.make rfl rfl (v := cap + 1) (v' := cap + 1) (cap.toNat + 1) (cap.toNat + 1) el_102 hS rfl (by omega) rfl (by omega) (by omega) (Rm.of (by omega) (by decide)) (fun b2 w hS => ?_)
    replace hS : St g (Own 3 1 (List.replicate (cap.toNat + 1) [.int .i64 0]) (some ⟨b2, 0, none⟩) (cap.toNat + 1) :: Own 113 8 (List.replicate (cap.toNat + 1) [.int .i64 0, .int .i64 0, .int .u32 0, .int .u32 0, .int .i64 0, .int .i64 0, .int .i64 0, .int .i64 0]) (some ⟨b1, 0, none⟩) (cap.toNat + 1) :: Slt s1 (SM.new cap.toNat) :: L) w := hS
    refine WL.nil ?_
    refine ⟨by exact ⟨RQ.pure rfl rfl rfl rfl, RQ.pure rfl rfl rfl rfl, RQ.pure rfl rfl rfl (congrArg (Value.int .i64) (Eq.symm (w64 (by omega))))⟩, ?_⟩
    refine WQ.build rfl rfl (cs := [.pointer (some ⟨s1, 0, none⟩), .slice (some ⟨b1, 0, none⟩) (cap.toNat + 1) (cap.toNat + 1), .slice (some ⟨b2, 0, none⟩) (cap.toNat + 1) (cap.toNat + 1), .int .u64 0]) zv_104 rfl rfl ?_
    refine WQ.nil ?_
    intro m3
    replace hS := hS.drewN m3; generalize hwm3 : World.drewN _ _ = w at *; clear hwm3
    refine WL.box rfl rfl #[.pointer (some ⟨s1, 0, none⟩), .slice (some ⟨b1, 0, none⟩) (cap.toNat + 1) (cap.toNat + 1), .slice (some ⟨b2, 0, none⟩) (cap.toNat + 1) (cap.toNat + 1), .int .u64 0] hS rfl rfl (fun b3 w hS => ?_)
    refine WL.nil ?_
    refine ⟨by exact trivial, ?_⟩
    refine WQ.r 2 rfl ?_
    refine WQ.nil ?_
    intro m4
    replace hS := hS.drewN m4; generalize hwm4 : World.drewN _ _ = w at *; clear hwm4
    as_aux_lemma =>
      refine WC.ret ?_
      rw [nds_rep, i64s_rep] at hS
      first
      | (replace hS := St.exClose (f := arnF b3 (AM.new cap.toNat)) ⟨s1, some ⟨b1, 0, none⟩, cap.toNat + 1, some ⟨b2, 0, none⟩, cap.toNat + 1, 0⟩ (by
          unfold arnF
          rw [arn_new1, arn_new2]
          exact hS.sel 4 [0, 2, 1, 0] rfl))
      | (replace hS := St.exClose (f := arnF b3 (AM.new cap.toNat)) ⟨s1, some ⟨b2, 0, none⟩, cap.toNat + 1, some ⟨b1, 0, none⟩, cap.toNat + 1, 0⟩ (by
          unfold arnF
          rw [arn_new1, arn_new2]
          exact hS.sel 4 [0, 2, 0, 0] rfl))
      replace hS : St g (Arn b3 (AM.new cap.toNat) :: L) w := hS
      refine ⟨[.pointer (some ⟨b3, 0, none⟩), .int .i64 0], ⟨rfl, rfl⟩, ?_⟩
      exact ⟨_, rfl, hS⟩
  · refine WL.make rfl rfl (v := cap + 1) (v' := cap + 1) (cap.toNat + 1) (cap.toNat + 1) el_102 hS rfl (by omega) rfl (by omega) (by omega) (Rm.of (by omega) (by decide)) (fun b1 w hS => ?_)
    replace hS : St g (Own 3 1 (List.replicate (cap.toNat + 1) [.int .i64 0]) (some ⟨b1, 0, none⟩) (cap.toNat + 1) :: Slt s1 (SM.new cap.toNat) :: L) w := hS
    refine WL.nil ?_
    refine ⟨by exact ⟨RQ.pure rfl rfl rfl rfl, RQ.pure rfl rfl rfl rfl, RQ.pure rfl rfl rfl (congrArg (Value.int .i64) (Eq.symm (w64 (by omega))))⟩, ?_⟩
    refine WQ.nil ?_
    intro m2
    replace hS := hS.drewN m2; generalize hwm2 : World.drewN _ _ = w at *; clear hwm2
    refine WL.make rfl rfl (v := cap + 1) (v' := cap + 1) (cap.toNat + 1) (cap.toNat + 1) el_101 hS rfl (by omega) rfl (by omega) (by omega) (Rm.of (by omega) (by decide)) (fun b2 w hS => ?_)
    replace hS : St g (Own 113 8 (List.replicate (cap.toNat + 1) [.int .i64 0, .int .i64 0, .int .u32 0, .int .u32 0, .int .i64 0, .int .i64 0, .int .i64 0, .int .i64 0]) (some ⟨b2, 0, none⟩) (cap.toNat + 1) :: Own 3 1 (List.replicate (cap.toNat + 1) [.int .i64 0]) (some ⟨b1, 0, none⟩) (cap.toNat + 1) :: Slt s1 (SM.new cap.toNat) :: L) w := hS
    refine WL.nil ?_
    refine ⟨by exact ⟨RQ.pure rfl rfl rfl rfl, RQ.pure rfl rfl rfl rfl, RQ.pure rfl rfl rfl (congrArg (Value.int .i64) (Eq.symm (w64 (by omega))))⟩, ?_⟩
    refine WQ.build rfl rfl (cs := [.pointer (some ⟨s1, 0, none⟩), .slice (some ⟨b2, 0, none⟩) (cap.toNat + 1) (cap.toNat + 1), .slice (some ⟨b1, 0, none⟩) (cap.toNat + 1) (cap.toNat + 1), .int .u64 0]) zv_104 rfl rfl ?_
    refine WQ.nil ?_
    intro m3
    replace hS := hS.drewN m3; generalize hwm3 : World.drewN _ _ = w at *; clear hwm3
    refine WL.box rfl rfl #[.pointer (some ⟨s1, 0, none⟩), .slice (some ⟨b2, 0, none⟩) (cap.toNat + 1) (cap.toNat + 1), .slice (some ⟨b1, 0, none⟩) (cap.toNat + 1) (cap.toNat + 1), .int .u64 0] hS rfl rfl (fun b3 w hS => ?_)
    refine WL.nil ?_
    refine ⟨by exact trivial, ?_⟩
    refine WQ.r 2 rfl ?_
    refine WQ.nil ?_
    intro m4
    replace hS := hS.drewN m4; generalize hwm4 : World.drewN _ _ = w at *; clear hwm4
    as_aux_lemma =>
      refine WC.ret ?_
      rw [nds_rep, i64s_rep] at hS
      first
      | (replace hS := St.exClose (f := arnF b3 (AM.new cap.toNat)) ⟨s1, some ⟨b1, 0, none⟩, cap.toNat + 1, some ⟨b2, 0, none⟩, cap.toNat + 1, 0⟩ (by
          unfold arnF
          rw [arn_new1, arn_new2]
          exact hS.sel 4 [0, 2, 1, 0] rfl))
      | (replace hS := St.exClose (f := arnF b3 (AM.new cap.toNat)) ⟨s1, some ⟨b2, 0, none⟩, cap.toNat + 1, some ⟨b1, 0, none⟩, cap.toNat + 1, 0⟩ (by
          unfold arnF
          rw [arn_new1, arn_new2]
          exact hS.sel 4 [0, 2, 0, 0] rfl))
      replace hS : St g (Arn b3 (AM.new cap.toNat) :: L) w := hS
      refine ⟨[.pointer (some ⟨b3, 0, none⟩), .int .i64 0], ⟨rfl, rfl⟩, ?_⟩
      exact ⟨_, rfl, hS⟩
set_option maxRecDepth 8192 in
theorem ar_free {g w : World} {L : List HP} (a : Nat) (A : AM) (hA : AWf A) (hS : St g (Arn a A :: L) w) :
    Sp Tryz.prog 16 [.pointer (some ⟨a, 0, none⟩)] w (fun v w' => v = .int .i64 A.s.free ∧ St g (Arn a A :: L) w') := by
  refine Sp.enter Tryz.func16 rfl (by kernel_rfl) (by kernel_rfl) ?_
  refine WC.seq ?_
  refine WC.region ?_
  obtain ⟨⟨p, na, nc, ca, cc, rd⟩, hS⟩ := St.exOpen (f := arnF a A) hS; have hAs := hA.s; have hcp := hAs.cap; have hnl := hA.nl; have hcl := hA.cl; have hbn := nds_len A.nodes; have hbc := i64s_len A.cnt
  replace hS : St g (cel a #[.pointer (some ⟨p, 0, none⟩), .slice na (List.length (nds A.nodes)) nc, .slice ca (List.length (i64s A.cnt)) cc, .int .u64 rd] 104 :: Slt p A.s :: Own 113 8 (nds A.nodes) na nc :: Own 3 1 (i64s A.cnt) ca cc :: L) w := hS
  refine WL.r 1 rfl ?_
  refine WL.nil ?_
  refine WC.seq ?_
  refine WC.region ?_
  refine WL.run 4 [.pointer (some ⟨p, 0, none⟩)] rfl (by exact hS.ld 0 rfl rfl) ?_
  refine WL.call rfl rfl (sl_free (s := p) (S := A.s) (hO := (by assumption)) (hS := (hS.sel 2 [1, 0] rfl))) rfl ?_
  clear hS; rintro _ w ⟨rfl, hS⟩
  replace hS : St g (Slt p A.s :: cel a #[.pointer (some ⟨p, 0, none⟩), .slice na (List.length (nds A.nodes)) nc, .slice ca (List.length (i64s A.cnt)) cc, .int .u64 rd] 104 :: Own 113 8 (nds A.nodes) na nc :: Own 3 1 (i64s A.cnt) ca cc :: L) w := hS
  refine WL.r 1 rfl ?_
  refine WL.nil ?_
  refine WC.ret ?_
  replace hS := St.exClose (f := arnF a A) ⟨p, na, nc, ca, cc, rd⟩ (by first | exact hS | exact hS.sel 4 [1, 0, 0, 0] rfl)
  replace hS : St g (Arn a A :: L) w := hS
  refine ⟨[.int .i64 A.s.free], rfl, ?_⟩
  exact ⟨rfl, hS⟩
set_option maxRecDepth 8192 in
theorem ar_retain {g w : World} {L : List HP} (a : Nat) (A : AM) (i : Int) (hA : AWf A) (hi : 0 ≤ i ∧ i < 4294967296) (hS : St g (Arn a A :: L) w) :
    Sp Tryz.prog 56 [.pointer (some ⟨a, 0, none⟩), .int .u32 i] w (fun v w' => v = .int .i64 (A.retE i) ∧ St g (Arn a (A.ret i) :: L) w') := by
  refine Sp.enter Tryz.func56 rfl (by kernel_rfl) (by kernel_rfl) ?_
  refine WC.seq ?_
  refine WC.region ?_
  obtain ⟨⟨p, na, nc, ca, cc, rd⟩, hS⟩ := St.exOpen (f := arnF a A) hS; have hAs := hA.s; have hcp := hAs.cap; have hnl := hA.nl; have hcl := hA.cl; have hbn := nds_len A.nodes; have hbc := i64s_len A.cnt
  replace hS : St g (cel a #[.pointer (some ⟨p, 0, none⟩), .slice na (List.length (nds A.nodes)) nc, .slice ca (List.length (i64s A.cnt)) cc, .int .u64 rd] 104 :: Slt p A.s :: Own 113 8 (nds A.nodes) na nc :: Own 3 1 (i64s A.cnt) ca cc :: L) w := hS
  refine WL.r 1 rfl ?_
  refine WL.nil ?_
  refine WC.seq ?_
  refine WC.seq ?_
  refine WC.region ?_
  refine WL.r 2 rfl ?_
  refine WL.nil ?_
  refine WC.ifP rfl (fun cd1 => ?_) (fun cd1 => ?_)
  · refine WC.seq ?_
    refine WC.region ?_
    refine WL.r 1 rfl ?_
    refine WL.nil ?_
    refine WC.ret ?_
    replace hS := St.exClose (f := arnF a A) ⟨p, na, nc, ca, cc, rd⟩ hS; replace hS : St g (Arn a (A.ret i) :: L) w := by rw [AM.ret, if_neg (fun h => h.1 cd1)]; exact hS
    replace hS : St g (Arn a (A.ret i) :: L) w := hS
    refine ⟨[.int .i64 0], rfl, ?_⟩
    exact ⟨congrArg (Value.int .i64) (if_pos (.inl cd1)).symm, hS⟩
  · refine WC.skip ?_
    refine WC.seq ?_
    refine WC.seq ?_
    refine WC.region ?_
    refine WL.run 5 [.pointer (some ⟨p, 0, none⟩)] rfl (by exact hS.ld 0 rfl rfl) ?_
    refine WL.call rfl rfl (sl_ok (s := p) (S := A.s) (i := i) (hl := (by first | assumption | exact SOk.le (by assumption))) (hi := (by omega)) (hS := (hS.sel 2 [1, 0] rfl))) rfl ?_
    clear hS; rintro _ w ⟨rfl, hS⟩
    replace hS : St g (Slt p A.s :: cel a #[.pointer (some ⟨p, 0, none⟩), .slice na (List.length (nds A.nodes)) nc, .slice ca (List.length (i64s A.cnt)) cc, .int .u64 rd] 104 :: Own 113 8 (nds A.nodes) na nc :: Own 3 1 (i64s A.cnt) ca cc :: L) w := hS
    refine WL.r 1 rfl ?_
    refine WL.nil ?_
    refine WC.if_ rfl (fun cd2 => ?_) (fun cd2 => ?_)
    · refine WC.seq ?_
      refine WC.region ?_
      refine WL.r 1 rfl ?_
      refine WL.nil ?_
      as_aux_lemma =>
        refine WC.ret ?_
        replace hS := St.exClose (f := arnF a A) ⟨p, na, nc, ca, cc, rd⟩ (by first | exact hS | exact hS.sel 4 [1, 0, 0, 0] rfl); replace hS : St g (Arn a (A.ret i) :: L) w := by rw [AM.ret, if_neg (fun h => by rw [h.2] at cd2; cases cd2)]; exact hS
        replace hS : St g (Arn a (A.ret i) :: L) w := hS
        refine ⟨[.int .i64 3], rfl, ?_⟩
        exact ⟨congrArg (Value.int .i64) (if_neg (fun h => h.elim cd1 (fun k => by rw [k] at cd2; cases cd2))).symm, hS⟩
    · refine WC.skip ?_
      as_aux_lemma =>
        refine WC.seq ?_
        refine WC.region ?_
        have hik := SM.ok_rng hAs hi.1 (by simpa using cd2)
        refine WL.run 5 [.slice ca (List.length (i64s A.cnt)) cc] rfl (by exact hS.ld 1 rfl rfl) ?_
        obtain ⟨x, hx⟩ : ∃ x, A.cnt[i.toNat]? = some x := ⟨_, List.getElem?_eq_getElem (by omega)⟩
        refine WL.ix rfl rfl (i := i) (i.toNat) el_102 rfl rfl (by omega) (by omega) (hS.rdO 3 rfl (i64s_at hx)).1 ?_
        refine WL.run 2 [.int .i64 x] rfl (by exact (hS.rdO 3 rfl (i64s_at hx)).2 0 _ rfl) ?_
        refine WL.ix rfl rfl (i := i) (i.toNat) el_102 rfl rfl (by omega) (by omega) (hS.rdO 3 rfl (i64s_at hx)).1 ?_
        refine WL.stE rfl rfl rfl 3 (i.toNat) 0 [.int .i64 x] (i64s (A.cnt.set i.toNat (IntKind.i64.wrap (x + 1)))) hS rfl (i64s_at hx) rfl rfl rfl rfl rfl (i64s_set _ _ _) (fun w hS => ?_)
        replace hS : St g (Slt p A.s :: cel a #[.pointer (some ⟨p, 0, none⟩), .slice na (List.length (nds A.nodes)) nc, .slice ca (List.length (i64s A.cnt)) cc, .int .u64 rd] 104 :: Own 113 8 (nds A.nodes) na nc :: Own 3 1 (i64s (A.cnt.set i.toNat (IntKind.i64.wrap (x + 1)))) ca cc :: L) w := hS
        refine WL.nil ?_
        refine WC.seq ?_
        refine WC.region ?_
        refine WL.r 1 rfl ?_
        refine WL.nil ?_
        refine WC.ret ?_
        replace hS := St.exClose (f := arnF a (A.inc i)) ⟨p, na, nc, ca, cc, rd⟩ (by
          have e1 : (i64s (A.inc i).cnt).length = (i64s A.cnt).length := by simp [AM.inc]
          have e2 : (A.inc i).cnt = A.cnt.set i.toNat (IntKind.i64.wrap (x + 1)) := by unfold AM.inc AM.cntOf; rw [hx]; rfl
          unfold arnF
          rw [e1, e2]
          first | exact hS | exact hS.sel 4 [1, 0, 0, 0] rfl)
        replace hS : St g (Arn a (A.ret i) :: L) w := by rw [AM.ret, if_pos ⟨cd1, by simpa using cd2⟩]; exact hS
        replace hS : St g (Arn a (A.ret i) :: L) w := hS
        refine ⟨[.int .i64 0], rfl, ?_⟩
        exact ⟨congrArg (Value.int .i64) (if_pos (.inr (by simpa using cd2))).symm, hS⟩
set_option maxRecDepth 8192 in
theorem ar_release0 {g w : World} {L : List HP} (a : Nat) (A : AM) (hS : St g (Arn a A :: L) w) :
    Sp Tryz.prog 69 [.pointer (some ⟨a, 0, none⟩), .int .u32 0] w (fun v w' => v = .tuple #[.int .i64 0, .int .i64 0] ∧ St g (Arn a A :: L) w') := by
  refine Sp.enter Tryz.func69 rfl (by kernel_rfl) (by kernel_rfl) ?_
  refine WC.seq ?_
  refine WC.region ?_
  refine WL.r 2 rfl ?_
  refine WL.nil ?_
  refine WC.seq ?_
  refine WC.seq ?_
  refine WC.region ?_
  refine WL.r 2 rfl ?_
  refine WL.nil ?_
  refine WC.ifT rfl (decide_eq_true ((by decide))) ?_
  refine WC.seq ?_
  refine WC.region ?_
  refine WL.r 2 rfl ?_
  refine WL.nil ?_
  refine WC.ret ?_
  refine ⟨[.int .i64 0, .int .i64 0], ⟨rfl, rfl⟩, ?_⟩
  exact ⟨rfl, hS⟩
end Go.Proofs.YtloebjlnmdjeiaaGreatDoor
/-! ## R2 -/
namespace Go.Proofs.YtloebjlnmdjeiaaGreatDoor
open Go Go.V
structure Shr (A B : AM) : Prop where
  ok : ∀ j, 0 ≤ j → B.s.ok j = true → A.s.ok j = true ∧ B.nd j = A.nd j
  cap : B.s.used.length = A.s.used.length
  gen : B.s.gen = A.s.gen
theorem Shr.refl (A : AM) : Shr A A := ⟨fun _ _ h => ⟨h, rfl⟩, rfl, rfl⟩
theorem Shr.dec {A B : AM} (h : Shr A B) (k : Int) : Shr A (B.dec k) := ⟨h.ok, h.cap, h.gen⟩
theorem Shr.free {A B : AM} {k : Int} (h : Shr A B) (hB : AWf B) (hk : B.s.ok k = true) (h0 : 0 ≤ k) : Shr A (B.freed k) := ⟨fun j hj hjk => by
  rw [AM.freed_ok hB.s hk h0 j hj] at hjk
  split at hjk
  · cases hjk
  · rename_i e
    have h1 := h.ok j hj hjk
    refine ⟨h1.1, ?_⟩
    unfold AM.freed
    rw [AM.nd_set (by rw [hB.nl]; exact (SM.ok_rng hB.s h0 hk).2.2.2) h0 hj, if_neg e]
    exact h1.2, by rw [← h.cap]; exact List.length_set, h.gen⟩
theorem last_split {W : List Int} {k : Int} (h : W[W.length - 1]? = some k) : W = W.take (W.length - 1) ++ [k] := by
  have hl := (List.getElem?_eq_some_iff.1 h).1
  have h1 := List.take_append_drop (W.length - 1) W
  rw [List.drop_eq_getElem_cons hl, (List.getElem?_eq_some_iff.1 h).2, List.drop_of_length_le (by omega)] at h1
  exact h1.symm
theorem push_ok {B : AM} {R T : List Int} {l r : Int} (h : ARf B (l :: r :: (T ++ R))) : ARf B ((T ++ (if r ≠ 0 then [r] else []) ++ (if l ≠ 0 then [l] else [])) ++ R) := by
  have pr : (r :: (T ++ R)).Perm ((T ++ [r]) ++ R) := by simpa using (List.perm_middle (a := r) (l₁ := T) (l₂ := R)).symm
  have pl : (l :: (T ++ R)).Perm ((T ++ [l]) ++ R) := by simpa using (List.perm_middle (a := l) (l₁ := T) (l₂ := R)).symm
  by_cases hl : l = 0
  · by_cases hr : r = 0
    · subst hl; subst hr; simpa using h.tail0.tail0
    · subst hl
      have h1 := h.tail0.perm pr
      simpa [hr] using h1
  · by_cases hr : r = 0
    · subst hr
      have h0 : ARf B (0 :: l :: (T ++ R)) := h.perm (List.Perm.swap _ _ _)
      have h1 := h0.tail0.perm pl
      simpa [hl] using h1
    · have p2 : (l :: ((T ++ [r]) ++ R)).Perm (((T ++ [r]) ++ [l]) ++ R) := by simpa using (List.perm_middle (a := l) (l₁ := T ++ [r]) (l₂ := R)).symm
      have h1 := h.perm ((List.Perm.cons l pr).trans p2)
      simpa [hl, hr] using h1
theorem all_app {p : Int → Prop} {T : List Int} {r : Int} (h : ∀ x ∈ T, p x) (hr : p r) : ∀ x ∈ T ++ [r], p x := fun x hx => by
  rcases List.mem_append.1 hx with hx | hx
  · exact h x hx
  · rw [List.mem_singleton.1 hx]; exact hr
set_option maxHeartbeats 2000000 in
set_option maxRecDepth 8192 in
theorem ar_release_ok {g w : World} {L : List HP} (a : Nat) (A : AM) (R : List Int) (i : Int) (hA : ARf A (i :: R)) (hi : 1 ≤ i ∧ i < 4294967296) (hR : R.length ≤ 900000000) (hS : St g (Arn a A :: L) w) :
    Sp Tryz.prog 69 [.pointer (some ⟨a, 0, none⟩), .int .u32 i] w (fun v w' => ∃ (A2 : AM) (f : Int), v = .tuple #[.int .i64 f, .int .i64 0] ∧ St g (Arn a A2 :: L) w' ∧ (ARf A2 R) ∧ (Shr A A2) ∧ (f = A2.s.free - A.s.free)) := by
  refine Sp.enter Tryz.func69 rfl (by kernel_rfl) (by kernel_rfl) ?_
  have _ := hR
  have _ := hi
  refine WC.seq ?_
  refine WC.region ?_
  have hir := (hA.ref i (List.mem_cons_self ..)).resolve_left (by omega)
  refine WL.r 2 rfl ?_
  refine WL.nil ?_
  refine WC.seq ?_
  refine WC.seq ?_
  refine WC.region ?_
  refine WL.r 2 rfl ?_
  refine WL.nil ?_
  refine WC.ifF rfl (decide_eq_false ((by omega))) ?_
  refine WC.skip ?_
  refine WC.seq ?_
  refine WC.seq ?_
  refine WC.region ?_
  obtain ⟨⟨p, na, nc, ca, cc, rd⟩, hS⟩ := St.exOpen (f := arnF a A) hS; have hAs := hA.s; have hcp := hAs.cap; have hnl := hA.nl; have hcl := hA.cl; have hbn := nds_len A.nodes; have hbc := i64s_len A.cnt
  replace hS : St g (cel a #[.pointer (some ⟨p, 0, none⟩), .slice na (List.length (nds A.nodes)) nc, .slice ca (List.length (i64s A.cnt)) cc, .int .u64 rd] 104 :: Slt p A.s :: Own 113 8 (nds A.nodes) na nc :: Own 3 1 (i64s A.cnt) ca cc :: L) w := hS
  refine WL.run 5 [.pointer (some ⟨p, 0, none⟩)] rfl (by exact hS.ld 0 rfl rfl) ?_
  refine WL.call rfl rfl (sl_ok (s := p) (S := A.s) (i := i) (hl := (by first | assumption | exact SOk.le (by assumption))) (hi := (by omega)) (hS := (hS.sel 2 [1, 0] rfl))) rfl ?_
  clear hS; rintro _ w ⟨rfl, hS⟩
  replace hS : St g (Slt p A.s :: cel a #[.pointer (some ⟨p, 0, none⟩), .slice na (List.length (nds A.nodes)) nc, .slice ca (List.length (i64s A.cnt)) cc, .int .u64 rd] 104 :: Own 113 8 (nds A.nodes) na nc :: Own 3 1 (i64s A.cnt) ca cc :: L) w := hS
  refine WL.r 1 rfl ?_
  refine WL.nil ?_
  refine WC.ifF rfl (by rw [hir.2]; decide) ?_
  refine WC.skip ?_
  as_aux_lemma =>
    refine WC.seq ?_
    refine WC.region ?_
    refine WL.r 1 rfl ?_
    refine WL.nil ?_
    refine WC.seq ?_
    refine WC.region ?_
    refine WL.r 1 rfl ?_
    refine WL.lit rfl rfl (u32s [i]) el_32 hS (by exact ⟨rfl, rfl⟩) (u32s_ok _) rfl (by decide) (fun b1 w hS => ?_)
    refine WL.r 1 rfl ?_
    refine WL.nil ?_
    refine WC.seq ?_
    refine WC.block ?_
    refine WC.loop [0, 4, 5, 6, 7] (fun kM vs w => ∃ (W : List Int) (B : AM) (fr : Int) (u : Option Addr) (d : Nat), vs = [.pointer (some ⟨a, 0, none⟩), .int .i64 0, .int .i64 0, .int .i64 fr, .slice u (List.length (u32s W)) d] ∧ St g (Own 70 1 (u32s W) u d :: Slt p B.s :: cel a #[.pointer (some ⟨p, 0, none⟩), .slice na (List.length (nds A.nodes)) nc, .slice ca (List.length (i64s A.cnt)) cc, .int .u64 rd] 104 :: Own 113 8 (nds B.nodes) na nc :: Own 3 1 (i64s B.cnt) ca cc :: L) w ∧ (∀ x ∈ W, 1 ≤ x ∧ x < 4294967296) ∧ (ARf B (W ++ R)) ∧ (Shr A B) ∧ (fr = B.s.free - A.s.free) ∧ (W.length + B.live.length ≤ 65600) ∧ (2 * B.live.length + W.length) = kM) (2 * (List.length A.live) + (List.length [i])) ⟨[i], A, 0, some ⟨b1, 0, none⟩, 1, rfl, hS, (by simp; omega), (by exact hA), (Shr.refl A), (by omega), (by have := A.live_len; simp; omega), rfl⟩ ?_
    clear hS; rintro _ _ w j ⟨W, B, fr, u, d, rfl, hS, hW, hB, hSh, hf, hlen, rfl⟩
    refine WC.seq ?_
    refine WC.seq ?_
    refine WC.region ?_
    refine WL.r 3 rfl ?_
    refine WL.nil ?_
    refine WC.ifP rfl (fun cd1 => ?_) (fun cd1 => ?_)
    · refine WC.skip ?_
      refine WC.block ?_
      refine WC.seq ?_
      refine WC.region ?_
      have hfB := hB.s.free_rng; have hfA := hA.s.free_rng; have hWl := u32s_len W; obtain ⟨k, hk⟩ : ∃ k, W[W.length - 1]? = some k := ⟨_, List.getElem?_eq_getElem (by omega)⟩; have hk1 := hW k (List.mem_of_getElem? hk); have hsp := last_split hk; have hkR := (hB.ref k (List.mem_append_left _ (List.mem_of_getElem? hk))).resolve_left (by omega); have hkr := SM.ok_rng hB.s (by omega) hkR.2; have hle := hB.cnt_le hkR.2 (by omega); obtain ⟨c, hc⟩ : ∃ c, B.cnt[k.toNat]? = some c := ⟨_, List.getElem?_eq_getElem (by rw [hB.cl]; omega)⟩; obtain ⟨nd, hnd⟩ : ∃ nd, B.nodes[k.toNat]? = some nd := ⟨_, List.getElem?_eq_getElem (by rw [hB.nl]; omega)⟩; have hbc2 := i64s_len B.cnt; have hbn2 := nds_len B.nodes; have e1 := hB.cl; have e2 := hB.nl; have e3 := hSh.cap; have hce : B.cntOf k = c := by unfold AM.cntOf; rw [hc]; rfl
      have hpk : ARf B (k :: (W.take (W.length - 1) ++ R)) := hB.perm (by rw [hsp]; simp); have hTl : ∀ x ∈ W.take (W.length - 1), 1 ≤ x ∧ x < 4294967296 := (fun x hx => hW x (List.mem_of_mem_take hx)); have hTn : (W.take (W.length - 1)).length = W.length - 1 := by simp
      refine WL.r 4 rfl ?_
      refine WL.nw 27 rfl (w64 (by omega)) ?_
      refine WL.ix rfl rfl (i := (List.length (u32s W) : Int) - 1) (W.length - 1) el_32 rfl rfl (by omega) (by omega) (hS.rdO 0 rfl (u32s_at hk)).1 ?_
      refine WL.run 2 [.int .u32 k] rfl (by exact (hS.rdO 0 rfl (u32s_at hk)).2 0 _ rfl) ?_
      refine WL.nil ?_
      as_aux_lemma =>
        refine WC.seq ?_
        refine WC.region ?_
        refine WL.r 4 rfl ?_
        refine WL.nw 33 rfl (w64 (by omega)) ?_
        refine WL.slOwn rfl rfl (v := (List.length (u32s W) : Int) - 1) 0 (W.length - 1) (u32s (W.take (W.length - 1))) el_32 hS rfl rfl rfl (by omega) (by omega) (u32s_take _ _) (fun hS => ?_)
        replace hS : St g (Own 70 1 (u32s (W.take ((List.length W) - 1))) u d :: Slt p B.s :: cel a #[.pointer (some ⟨p, 0, none⟩), .slice na (List.length (nds A.nodes)) nc, .slice ca (List.length (i64s A.cnt)) cc, .int .u64 rd] 104 :: Own 113 8 (nds B.nodes) na nc :: Own 3 1 (i64s B.cnt) ca cc :: L) w := hS
        refine WL.r 1 rfl ?_
        refine WL.nil ?_
        refine WC.seq ?_
        refine WC.region ?_
        refine WL.run 5 [.slice ca (List.length (i64s A.cnt)) cc] rfl (by exact hS.ld 2 rfl rfl) ?_
        refine WL.ix rfl rfl (i := k) (k.toNat) el_102 rfl rfl (by omega) (by omega) (hS.rdO 4 rfl (i64s_at hc)).1 ?_
        refine WL.run 2 [.int .i64 c] rfl (by exact (hS.rdO 4 rfl (i64s_at hc)).2 0 _ rfl) ?_
        refine WL.nw 42 rfl (w64 (by omega)) ?_
        refine WL.ix rfl rfl (i := k) (k.toNat) el_102 rfl rfl (by omega) (by omega) (hS.rdO 4 rfl (i64s_at hc)).1 ?_
        refine WL.stE rfl rfl rfl 4 (k.toNat) 0 [.int .i64 c] (i64s (B.cnt.set k.toNat (c - 1))) hS rfl (i64s_at hc) rfl rfl rfl rfl rfl (i64s_set _ _ _) (fun w hS => ?_)
        replace hS : St g (Own 70 1 (u32s (W.take ((List.length W) - 1))) u d :: Slt p B.s :: cel a #[.pointer (some ⟨p, 0, none⟩), .slice na (List.length (nds A.nodes)) nc, .slice ca (List.length (i64s A.cnt)) cc, .int .u64 rd] 104 :: Own 113 8 (nds B.nodes) na nc :: Own 3 1 (i64s (B.cnt.set k.toNat (c - 1))) ca cc :: L) w := hS
        refine WL.nil ?_
        refine WC.seq ?_
        refine WC.seq ?_
        refine WC.region ?_
        have hdk : B.dec k = AM.mk B.s B.nodes (B.cnt.set k.toNat (c - 1)) := (by unfold AM.dec; rw [hce, w64 (by omega)])
        refine WL.run 5 [.slice ca (List.length (i64s A.cnt)) cc] rfl (by exact hS.ld 2 rfl rfl) ?_
        have hc2 : (B.cnt.set k.toNat (c - 1))[k.toNat]? = some (c - 1) := by rw [List.getElem?_set, if_pos rfl, if_pos (by omega)]
        refine WL.ix rfl rfl (i := k) (k.toNat) el_102 rfl rfl (by omega) (by omega) (hS.rdO 4 rfl (i64s_at hc2)).1 ?_
        refine WL.run 2 [.int .i64 (c - 1)] rfl (by exact (hS.rdO 4 rfl (i64s_at hc2)).2 0 _ rfl) ?_
        refine WL.nil ?_
        as_aux_lemma =>
          refine WC.ifP rfl (fun cd2 => ?_) (fun cd2 => ?_)
          · refine WC.exit ?_
            exact ⟨_, (by first | (simp only [List.length_append, List.length_singleton]; omega) | omega | (show 2 * B.live.length + _ < _; omega)), W.take (W.length - 1), AM.mk B.s B.nodes (B.cnt.set k.toNat (c - 1)), fr, u, d, rfl, hS, (hTl), (by rw [← hdk]; exact hpk.dec hkR.2 (by omega) (by omega)), (by rw [← hdk]; exact hSh.dec k), (hf), (by show (W.take (W.length - 1)).length + B.live.length ≤ 65600; omega), rfl⟩
          · refine WC.skip ?_
            refine WC.seq ?_
            refine WC.region ?_
            refine WL.run 5 [.slice na (List.length (nds A.nodes)) nc] rfl (by exact hS.ld 2 rfl rfl) ?_
            refine WL.ix rfl rfl (i := k) (k.toNat) el_101 rfl rfl (by omega) (by omega) (hS.rdO 3 rfl (nds_at hnd)).1 ?_
            refine WL.ldC rfl rfl [.int .i64 nd.key, .int .i64 nd.val, .int .u32 nd.lf, .int .u32 nd.rg, .int .i64 nd.size, .int .i64 nd.sum, .int .i64 nd.mn, .int .i64 nd.mx] ag_113 rfl (hS.rdO 3 rfl (nds_at hnd)).2 ?_
            refine WL.new rfl rfl zv_113 hS (fun b2 w hS => ?_)
            refine WL.stF rfl rfl rfl 0 hS rfl rfl rfl rfl rfl ag_113 (fun w hS => ?_)
            replace hS : St g (cel b2 #[.int .i64 nd.key, .int .i64 nd.val, .int .u32 nd.lf, .int .u32 nd.rg, .int .i64 nd.size, .int .i64 nd.sum, .int .i64 nd.mn, .int .i64 nd.mx] 113 :: Own 70 1 (u32s (W.take ((List.length W) - 1))) u d :: Slt p B.s :: cel a #[.pointer (some ⟨p, 0, none⟩), .slice na (List.length (nds A.nodes)) nc, .slice ca (List.length (i64s A.cnt)) cc, .int .u64 rd] 104 :: Own 113 8 (nds B.nodes) na nc :: Own 3 1 (i64s (B.cnt.set k.toNat (c - 1))) ca cc :: L) w := hS
            refine WL.nil ?_
            refine WC.seq ?_
            refine WC.region ?_
            refine WL.run 5 [.slice na (List.length (nds A.nodes)) nc] rfl (by exact hS.ld 3 rfl rfl) ?_
            refine WL.build rfl rfl (cs := [.int .i64 0, .int .i64 0, .int .u32 0, .int .u32 0, .int .i64 0, .int .i64 0, .int .i64 0, .int .i64 0]) zv_113 rfl rfl ?_
            refine WL.ix rfl rfl (i := k) (k.toNat) el_101 rfl rfl (by omega) (by omega) (hS.rdO 4 rfl (nds_at hnd)).1 ?_
            refine WL.stS rfl rfl rfl 4 (k.toNat) [.int .i64 nd.key, .int .i64 nd.val, .int .u32 nd.lf, .int .u32 nd.rg, .int .i64 nd.size, .int .i64 nd.sum, .int .i64 nd.mn, .int .i64 nd.mx] (nds (B.nodes.set k.toNat Nd.zero)) hS rfl (nds_at hnd) rfl rfl rfl rfl ag_113 (nds_set _ _ Nd.zero) (fun w hS => ?_)
            replace hS : St g (cel b2 #[.int .i64 nd.key, .int .i64 nd.val, .int .u32 nd.lf, .int .u32 nd.rg, .int .i64 nd.size, .int .i64 nd.sum, .int .i64 nd.mn, .int .i64 nd.mx] 113 :: Own 70 1 (u32s (W.take ((List.length W) - 1))) u d :: Slt p B.s :: cel a #[.pointer (some ⟨p, 0, none⟩), .slice na (List.length (nds A.nodes)) nc, .slice ca (List.length (i64s A.cnt)) cc, .int .u64 rd] 104 :: Own 113 8 (nds (B.nodes.set k.toNat Nd.zero)) na nc :: Own 3 1 (i64s (B.cnt.set k.toNat (c - 1))) ca cc :: L) w := hS
            refine WL.nil ?_
            refine WC.seq ?_
            refine WC.region ?_
            refine WL.run 5 [.pointer (some ⟨p, 0, none⟩)] rfl (by exact hS.ld 3 rfl rfl) ?_
            refine WL.call rfl rfl (sl_release_ok (s := p) (S := B.s) (i := k) (hO := hB.s) (hi := (by omega)) (hn := hkR.2) (hS := (hS.sel 3 [2, 0, 0] rfl))) rfl ?_
            clear hS; rintro _ w ⟨rfl, hS⟩
            replace hS : St g (Slt p (B.s.release k) :: cel b2 #[.int .i64 nd.key, .int .i64 nd.val, .int .u32 nd.lf, .int .u32 nd.rg, .int .i64 nd.size, .int .i64 nd.sum, .int .i64 nd.mn, .int .i64 nd.mx] 113 :: Own 70 1 (u32s (W.take ((List.length W) - 1))) u d :: cel a #[.pointer (some ⟨p, 0, none⟩), .slice na (List.length (nds A.nodes)) nc, .slice ca (List.length (i64s A.cnt)) cc, .int .u64 rd] 104 :: Own 113 8 (nds (B.nodes.set k.toNat Nd.zero)) na nc :: Own 3 1 (i64s (B.cnt.set k.toNat (c - 1))) ca cc :: L) w := hS
            refine WL.nil ?_
            as_aux_lemma =>
              refine WC.seq ?_
              refine WC.region ?_
              refine WL.r 2 rfl ?_
              refine WL.nw 73 rfl (w64 (by omega)) ?_
              refine WL.r 1 rfl ?_
              refine WL.nil ?_
              refine WC.seq ?_
              refine WC.seq ?_
              refine WC.region ?_
              have hfk : B.freed k = AM.mk (B.s.release k) (B.nodes.set k.toNat Nd.zero) (B.cnt.set k.toNat (c - 1)) := (by unfold AM.freed; rw [hce, w64 (by omega)]); have hne : B.nd k = nd := (by unfold AM.nd; rw [hnd]; rfl); have hB2 := hpk.free hkR.2 (by omega) (by omega) (by rw [List.length_append, hTn]; omega); have hS2 := hSh.free hB.toAWf hkR.2 (by omega); have hlv := (live_perm hkR.2 (by omega) (AM.freed_ok hB.s hkR.2 (by omega))).length_eq; rw [List.length_cons] at hlv; have hfe : (B.freed k).s.free = B.s.free + 1 := SM.release_free k; rw [hne] at hB2; rw [hfk] at hB2 hS2 hlv hfe; have hrr := hB2.rng (r := nd.rg) (by simp); have hll := hB2.rng (r := nd.lf) (by simp); have hpp := push_ok hB2
              refine WL.run 3 [.int .u32 nd.rg] rfl (by exact hS.ld 1 rfl rfl) ?_
              refine WL.nil ?_
              refine WC.ifP rfl (fun cd3 => ?_) (fun cd3 => ?_)
              · refine WC.region ?_
                refine WL.run 3 [.int .u32 nd.rg] rfl (by exact hS.ld 1 rfl rfl) ?_
                refine WL.lit rfl rfl (u32s [nd.rg]) el_32 hS (by exact ⟨rfl, rfl⟩) (u32s_ok _) rfl (by decide) (fun b3 w hS => ?_)
                refine WL.app rfl rfl 3 (u32s ((W.take ((List.length W) - 1)) ++ [nd.rg])) el_32 hS rfl (hS.srcO 0 rfl) (u32s_app _ _).symm (Rm.of (by first | omega | (simp <;> omega)) (by decide)) rfl rfl (fun a2 c1 w hS => ?_)
                replace hS : St g (Own 70 1 (u32s [nd.rg]) (some ⟨b3, 0, none⟩) (List.length (u32s [nd.rg])) :: Slt p (B.s.release k) :: cel b2 #[.int .i64 nd.key, .int .i64 nd.val, .int .u32 nd.lf, .int .u32 nd.rg, .int .i64 nd.size, .int .i64 nd.sum, .int .i64 nd.mn, .int .i64 nd.mx] 113 :: Own 70 1 (u32s ((W.take ((List.length W) - 1)) ++ [nd.rg])) a2 c1 :: cel a #[.pointer (some ⟨p, 0, none⟩), .slice na (List.length (nds A.nodes)) nc, .slice ca (List.length (i64s A.cnt)) cc, .int .u64 rd] 104 :: Own 113 8 (nds (B.nodes.set k.toNat Nd.zero)) na nc :: Own 3 1 (i64s (B.cnt.set k.toNat (c - 1))) ca cc :: L) w := hS
                refine WL.r 1 rfl ?_
                refine WL.nil ?_
                refine WC.seq ?_
                refine WC.region ?_
                refine WL.run 3 [.int .u32 nd.lf] rfl (by exact hS.ld 2 rfl rfl) ?_
                refine WL.nil ?_
                refine WC.ifP rfl (fun cd4 => ?_) (fun cd4 => ?_)
                · refine WC.region ?_
                  refine WL.run 3 [.int .u32 nd.lf] rfl (by exact hS.ld 2 rfl rfl) ?_
                  refine WL.lit rfl rfl (u32s [nd.lf]) el_32 hS (by exact ⟨rfl, rfl⟩) (u32s_ok _) rfl (by decide) (fun b4 w hS => ?_)
                  refine WL.app rfl rfl 4 (u32s (((W.take ((List.length W) - 1)) ++ [nd.rg]) ++ [nd.lf])) el_32 hS rfl (hS.srcO 0 rfl) (u32s_app _ _).symm (Rm.of (by first | omega | (simp <;> omega)) (by decide)) rfl rfl (fun a3 c2 w hS => ?_)
                  replace hS : St g (Own 70 1 (u32s [nd.lf]) (some ⟨b4, 0, none⟩) (List.length (u32s [nd.lf])) :: Own 70 1 (u32s [nd.rg]) (some ⟨b3, 0, none⟩) (List.length (u32s [nd.rg])) :: Slt p (B.s.release k) :: cel b2 #[.int .i64 nd.key, .int .i64 nd.val, .int .u32 nd.lf, .int .u32 nd.rg, .int .i64 nd.size, .int .i64 nd.sum, .int .i64 nd.mn, .int .i64 nd.mx] 113 :: Own 70 1 (u32s (((W.take ((List.length W) - 1)) ++ [nd.rg]) ++ [nd.lf])) a3 c2 :: cel a #[.pointer (some ⟨p, 0, none⟩), .slice na (List.length (nds A.nodes)) nc, .slice ca (List.length (i64s A.cnt)) cc, .int .u64 rd] 104 :: Own 113 8 (nds (B.nodes.set k.toNat Nd.zero)) na nc :: Own 3 1 (i64s (B.cnt.set k.toNat (c - 1))) ca cc :: L) w := hS
                  refine WL.r 1 rfl ?_
                  refine WL.nil ?_
                  exact ⟨_, (by first | (simp only [List.length_append, List.length_singleton]; omega) | omega | (show 2 * B.live.length + _ < _; omega)), W.take (W.length - 1) ++ [nd.rg] ++ [nd.lf], AM.mk (B.s.release k) (B.nodes.set k.toNat Nd.zero) (B.cnt.set k.toNat (c - 1)), fr + 1, a3, c2, rfl, (hS.sel 5 [4, 2] rfl), (all_app (all_app hTl (by omega)) (by omega)), (by simpa [cd3, cd4] using hpp), (hS2), (by rw [hfe]; omega), (by simp only [List.length_append, List.length_singleton]; omega), rfl⟩
                · refine WC.skip ?_
                  exact ⟨_, (by first | (simp only [List.length_append, List.length_singleton]; omega) | omega | (show 2 * B.live.length + _ < _; omega)), W.take (W.length - 1) ++ [nd.rg], AM.mk (B.s.release k) (B.nodes.set k.toNat Nd.zero) (B.cnt.set k.toNat (c - 1)), fr + 1, a2, c1, rfl, (hS.sel 4 [3, 1] rfl), (all_app hTl (by omega)), (by simpa [cd3, cd4] using hpp), (hS2), (by rw [hfe]; omega), (by simp only [List.length_append, List.length_singleton]; omega), rfl⟩
              · refine WC.skip ?_
                refine WC.seq ?_
                refine WC.region ?_
                refine WL.run 3 [.int .u32 nd.lf] rfl (by exact hS.ld 1 rfl rfl) ?_
                refine WL.nil ?_
                refine WC.ifP rfl (fun cd4 => ?_) (fun cd4 => ?_)
                · refine WC.region ?_
                  refine WL.run 3 [.int .u32 nd.lf] rfl (by exact hS.ld 1 rfl rfl) ?_
                  refine WL.lit rfl rfl (u32s [nd.lf]) el_32 hS (by exact ⟨rfl, rfl⟩) (u32s_ok _) rfl (by decide) (fun b3 w hS => ?_)
                  refine WL.app rfl rfl 3 (u32s ((W.take ((List.length W) - 1)) ++ [nd.lf])) el_32 hS rfl (hS.srcO 0 rfl) (u32s_app _ _).symm (Rm.of (by first | omega | (simp <;> omega)) (by decide)) rfl rfl (fun a2 c1 w hS => ?_)
                  replace hS : St g (Own 70 1 (u32s [nd.lf]) (some ⟨b3, 0, none⟩) (List.length (u32s [nd.lf])) :: Slt p (B.s.release k) :: cel b2 #[.int .i64 nd.key, .int .i64 nd.val, .int .u32 nd.lf, .int .u32 nd.rg, .int .i64 nd.size, .int .i64 nd.sum, .int .i64 nd.mn, .int .i64 nd.mx] 113 :: Own 70 1 (u32s ((W.take ((List.length W) - 1)) ++ [nd.lf])) a2 c1 :: cel a #[.pointer (some ⟨p, 0, none⟩), .slice na (List.length (nds A.nodes)) nc, .slice ca (List.length (i64s A.cnt)) cc, .int .u64 rd] 104 :: Own 113 8 (nds (B.nodes.set k.toNat Nd.zero)) na nc :: Own 3 1 (i64s (B.cnt.set k.toNat (c - 1))) ca cc :: L) w := hS
                  refine WL.r 1 rfl ?_
                  refine WL.nil ?_
                  exact ⟨_, (by first | (simp only [List.length_append, List.length_singleton]; omega) | omega | (show 2 * B.live.length + _ < _; omega)), W.take (W.length - 1) ++ [nd.lf], AM.mk (B.s.release k) (B.nodes.set k.toNat Nd.zero) (B.cnt.set k.toNat (c - 1)), fr + 1, a2, c1, rfl, (hS.sel 4 [3, 1] rfl), (all_app hTl (by omega)), (by simpa [cd3, cd4] using hpp), (hS2), (by rw [hfe]; omega), (by simp only [List.length_append, List.length_singleton]; omega), rfl⟩
                · refine WC.skip ?_
                  exact ⟨_, (by first | (simp only [List.length_append, List.length_singleton]; omega) | omega | (show 2 * B.live.length + _ < _; omega)), W.take (W.length - 1), AM.mk (B.s.release k) (B.nodes.set k.toNat Nd.zero) (B.cnt.set k.toNat (c - 1)), fr + 1, u, d, rfl, (hS.sel 3 [2, 0] rfl), (hTl), (by simpa [cd3, cd4] using hpp), (hS2), (by rw [hfe]; omega), (by omega), rfl⟩
    · refine WC.exit ?_
      refine WC.seq ?_
      refine WC.region ?_
      refine WL.r 3 rfl ?_
      refine WL.nil ?_
      as_aux_lemma =>
        refine WC.ret ?_
        have hWn : W = [] := List.length_eq_zero_iff.1 (by rw [u32s_len] at cd1; omega)
        subst hWn
        have eN : (nds B.nodes).length = (nds A.nodes).length := by rw [nds_len, nds_len, hB.nl, hnl, hSh.cap]
        have eC : (i64s B.cnt).length = (i64s A.cnt).length := by rw [i64s_len, i64s_len, hB.cl, hcl, hSh.cap]
        replace hS := St.exClose (f := arnF a B) ⟨p, na, nc, ca, cc, rd⟩ (by unfold arnF; rw [eN, eC]; exact hS.sel 5 [2, 1, 1, 1] rfl)
        replace hS : St g (Arn a B :: L) w := hS
        refine ⟨[.int .i64 fr, .int .i64 0], ⟨rfl, rfl⟩, ?_⟩
        exact ⟨B, _, rfl, hS, hB, hSh, hf⟩
end Go.Proofs.YtloebjlnmdjeiaaGreatDoor
/-! ## R3 -/
namespace Go.Proofs.YtloebjlnmdjeiaaGreatDoor
open Go Go.V
set_option maxHeartbeats 2000000 in
set_option maxRecDepth 8192 in
theorem ar_make {g w : World} {L : List HP} (a : Nat) (A : AM) (key val l r : Int) (hA : AWf A) (hK : Kd A l r) (hf : 0 < A.s.free) (hS : St g (Arn a A :: L) w) :
    Sp Tryz.prog 233 [.pointer (some ⟨a, 0, none⟩), .int .i64 key, .int .i64 val, .int .u32 l, .int .u32 r] w (fun v w' => v = .tuple #[.int .u32 A.s.next, .int .i64 0] ∧ St g (Arn a (A.make (A.nodeOf key val l r)) :: L) w') := by
  refine Sp.enter Tryz.func233 rfl (by kernel_rfl) (by kernel_rfl) ?_
  refine WC.seq ?_
  refine WC.region ?_
  refine WL.r 2 rfl ?_
  refine WL.nil ?_
  refine WC.seq ?_
  refine WC.region ?_
  obtain ⟨⟨p, na, nc, ca, cc, rd⟩, hS⟩ := St.exOpen (f := arnF a A) hS; have hAs := hA.s; have hcp := hAs.cap; have hnl := hA.nl; have hcl := hA.cl; have hbn := nds_len A.nodes; have hbc := i64s_len A.cnt
  replace hS : St g (cel a #[.pointer (some ⟨p, 0, none⟩), .slice na (List.length (nds A.nodes)) nc, .slice ca (List.length (i64s A.cnt)) cc, .int .u64 rd] 104 :: Slt p A.s :: Own 113 8 (nds A.nodes) na nc :: Own 3 1 (i64s A.cnt) ca cc :: L) w := hS
  refine WL.r 7 rfl ?_
  refine WL.build rfl rfl (cs := [.int .i64 key, .int .i64 val, .int .u32 l, .int .u32 r, .int .i64 1, .int .i64 val, .int .i64 val, .int .i64 val]) zv_113 rfl rfl ?_
  refine WL.new rfl rfl zv_113 hS (fun b1 w hS => ?_)
  refine WL.stF rfl rfl rfl 0 hS rfl rfl rfl rfl rfl ag_113 (fun w hS => ?_)
  replace hS : St g (cel b1 #[.int .i64 key, .int .i64 val, .int .u32 l, .int .u32 r, .int .i64 1, .int .i64 val, .int .i64 val, .int .i64 val] 113 :: cel a #[.pointer (some ⟨p, 0, none⟩), .slice na (List.length (nds A.nodes)) nc, .slice ca (List.length (i64s A.cnt)) cc, .int .u64 rd] 104 :: Slt p A.s :: Own 113 8 (nds A.nodes) na nc :: Own 3 1 (i64s A.cnt) ca cc :: L) w := hS
  refine WL.nil ?_
  refine WC.seq ?_
  refine WC.seq ?_
  refine WC.region ?_
  refine WL.r 2 rfl ?_
  refine WL.buildA rfl rfl (cs := [.int .u32 l, .int .u32 r]) ar_399 zv_399 rfl ?_
  refine WL.r 1 rfl ?_
  refine WL.nil ?_
  refine WC.block ?_
  refine WC.loop [0, 3, 4, 12, 28, 29] (fun kM vs w => ∃ (k : Nat) (n1 : Nd), vs = [.pointer (some ⟨a, 0, none⟩), .int .u32 l, .int .u32 r, .pointer (some ⟨b1, 0, none⟩), .agg #[.int .u32 l, .int .u32 r], .int .i64 k] ∧ St g (cel b1 #[.int .i64 n1.key, .int .i64 n1.val, .int .u32 n1.lf, .int .u32 n1.rg, .int .i64 n1.size, .int .i64 n1.sum, .int .i64 n1.mn, .int .i64 n1.mx] 113 :: cel a #[.pointer (some ⟨p, 0, none⟩), .slice na (List.length (nds A.nodes)) nc, .slice ca (List.length (i64s A.cnt)) cc, .int .u64 rd] 104 :: Slt p A.s :: Own 113 8 (nds A.nodes) na nc :: Own 3 1 (i64s A.cnt) ca cc :: L) w ∧ (k ≤ 2) ∧ (n1 = accN A l r (ndBase key val l r) k) ∧ (2 - k) = kM) (2 - 0) ⟨0, ndBase key val l r, rfl, hS, (by omega), (rfl), rfl⟩ ?_
  clear hS; rintro _ _ w j ⟨k, n1, rfl, hS, hk, hn, rfl⟩
  refine WC.seq ?_
  refine WC.region ?_
  refine WL.r 1 rfl ?_
  refine WL.nil ?_
  as_aux_lemma =>
    refine WC.seq ?_
    refine WC.ifP rfl (fun cd1 => ?_) (fun cd1 => ?_)
    · refine WC.skip ?_
      refine WC.seq ?_
      refine WC.block ?_
      refine WC.seq ?_
      refine WC.region ?_
      have hk1 : k < 2 := (by omega); have hkk := hK.at_ k; have hcz := accN_le hA hK (key := key) (val := val) (k := k) (by omega); rw [← hn] at hcz; have hce : A.s.cap = (A.s.used.length : Int) - 1 := rfl
      refine WL.ixA rfl rfl (v := k) (k) ar_399 rfl rfl (by omega) (by omega) (lr_at (l := l) (r := r) (k := k) hk1) ?_
      refine WL.r 1 rfl ?_
      refine WL.nil ?_
      refine WC.seq ?_
      refine WC.seq ?_
      refine WC.region ?_
      refine WL.r 2 rfl ?_
      refine WL.nil ?_
      refine WC.ifP rfl (fun cd2 => ?_) (fun cd2 => ?_)
      · refine WC.exit ?_
        refine WC.region ?_
        refine WL.r 1 rfl ?_
        refine WL.nw 79 rfl (w64 (by omega)) ?_
        refine WL.r 1 rfl ?_
        refine WL.nil ?_
        exact ⟨_, by omega, k + 1, n1, rfl, hS, (by omega), (by rw [accN, if_pos cd2]; exact hn), rfl⟩
      · refine WC.skip ?_
        refine WC.seq ?_
        refine WC.seq ?_
        refine WC.region ?_
        refine WL.run 5 [.pointer (some ⟨p, 0, none⟩)] rfl (by exact hS.ld 1 rfl rfl) ?_
        refine WL.call rfl rfl (sl_ok (s := p) (S := A.s) (i := lrOf l r k) (hl := (by first | assumption | exact SOk.le (by assumption))) (hi := (by have := SM.ok_rng hAs (i := lrOf l r k) (by omega) (hkk.1.resolve_left cd2).2; omega)) (hS := (hS.sel 3 [2, 0, 0] rfl))) rfl ?_
        clear hS; rintro _ w ⟨rfl, hS⟩
        replace hS : St g (Slt p A.s :: cel b1 #[.int .i64 n1.key, .int .i64 n1.val, .int .u32 n1.lf, .int .u32 n1.rg, .int .i64 n1.size, .int .i64 n1.sum, .int .i64 n1.mn, .int .i64 n1.mx] 113 :: cel a #[.pointer (some ⟨p, 0, none⟩), .slice na (List.length (nds A.nodes)) nc, .slice ca (List.length (i64s A.cnt)) cc, .int .u64 rd] 104 :: Own 113 8 (nds A.nodes) na nc :: Own 3 1 (i64s A.cnt) ca cc :: L) w := hS
        refine WL.r 1 rfl ?_
        refine WL.nil ?_
        as_aux_lemma =>
          refine WC.ifF rfl (by rw [(hkk.1.resolve_left cd2).2]; rfl) ?_
          refine WC.skip ?_
          refine WC.seq ?_
          refine WC.region ?_
          have hcr := SM.ok_rng hAs (i := lrOf l r k) (by omega) (hkk.1.resolve_left cd2).2; obtain ⟨x, hx⟩ : ∃ x, A.nodes[(lrOf l r k).toNat]? = some x := ⟨_, List.getElem?_eq_getElem (by omega)⟩; have hxe : A.nd (lrOf l r k) = x := (by unfold AM.nd; rw [hx]; rfl); have hxz : A.sz (lrOf l r k) = x.size := (by rw [sz_ok (hkk.1.resolve_left cd2).2, hxe])
          refine WL.run 5 [.slice na (List.length (nds A.nodes)) nc] rfl (by exact hS.ld 2 rfl rfl) ?_
          refine WL.ix rfl rfl (i := lrOf l r k) ((lrOf l r k).toNat) el_101 rfl rfl (by omega) (by omega) (hS.rdO 3 rfl (nds_at hx)).1 ?_
          refine WL.r 1 rfl ?_
          refine WL.nil ?_
          refine WC.seq ?_
          refine WC.plan [([0, 2, 1, 3, 4, 5, 6, 7], some (8, []))] (by kernel_rfl) (by kernel_rfl) ?_
          refine WQ.run 7 [.int .i64 n1.size, .int .i64 x.size] rfl (by exact ⟨hS.ld 1 rfl rfl, (hS.rdO 3 rfl (nds_at hx)).2 4 _ rfl⟩) ?_
          refine WQ.nw 53 rfl (w64 (by omega)) ?_
          refine WQ.r 1 rfl ?_
          refine WQ.nil ?_
          intro m1
          replace hS := hS.drewN m1; generalize hwm1 : World.drewN _ _ = w at *; clear hwm1
          refine WL.st rfl rfl rfl 1 hS rfl rfl rfl rfl rfl rfl (fun w hS => ?_)
          replace hS : St g (Slt p A.s :: cel b1 #[.int .i64 n1.key, .int .i64 n1.val, .int .u32 n1.lf, .int .u32 n1.rg, .int .i64 (n1.size + x.size), .int .i64 n1.sum, .int .i64 n1.mn, .int .i64 n1.mx] 113 :: cel a #[.pointer (some ⟨p, 0, none⟩), .slice na (List.length (nds A.nodes)) nc, .slice ca (List.length (i64s A.cnt)) cc, .int .u64 rd] 104 :: Own 113 8 (nds A.nodes) na nc :: Own 3 1 (i64s A.cnt) ca cc :: L) w := hS
          refine WL.nil ?_
          refine ⟨by exact trivial, ?_⟩
          intro m2
          replace hS := hS.drewN m2; generalize hwm2 : World.drewN _ _ = w at *; clear hwm2
          refine WC.seq ?_
          refine WC.plan [([0, 2, 1, 3, 4, 5, 6, 7], some (8, []))] (by kernel_rfl) (by kernel_rfl) ?_
          refine WQ.run 7 [.int .i64 n1.sum, .int .i64 x.sum] rfl (by exact ⟨hS.ld 1 rfl rfl, (hS.rdO 3 rfl (nds_at hx)).2 5 _ rfl⟩) ?_
          refine WQ.r 1 rfl ?_
          refine WQ.nil ?_
          intro m3
          replace hS := hS.drewN m3; generalize hwm3 : World.drewN _ _ = w at *; clear hwm3
          refine WL.st rfl rfl rfl 1 hS rfl rfl rfl rfl rfl rfl (fun w hS => ?_)
          replace hS : St g (Slt p A.s :: cel b1 #[.int .i64 n1.key, .int .i64 n1.val, .int .u32 n1.lf, .int .u32 n1.rg, .int .i64 (n1.size + x.size), .int .i64 (IntKind.i64.wrap (n1.sum + x.sum)), .int .i64 n1.mn, .int .i64 n1.mx] 113 :: cel a #[.pointer (some ⟨p, 0, none⟩), .slice na (List.length (nds A.nodes)) nc, .slice ca (List.length (i64s A.cnt)) cc, .int .u64 rd] 104 :: Own 113 8 (nds A.nodes) na nc :: Own 3 1 (i64s A.cnt) ca cc :: L) w := hS
          refine WL.nil ?_
          refine ⟨by exact trivial, ?_⟩
          intro m4
          replace hS := hS.drewN m4; generalize hwm4 : World.drewN _ _ = w at *; clear hwm4
          as_aux_lemma =>
            refine WC.seq ?_
            refine WC.plan [([0, 2, 1, 3, 4, 5, 6, 7], some (8, []))] (by kernel_rfl) (by kernel_rfl) ?_
            refine WQ.run 8 [.int .i64 n1.mn, .int .i64 x.mn] rfl (by exact ⟨hS.ld 1 rfl rfl, (hS.rdO 3 rfl (nds_at hx)).2 6 _ rfl⟩) ?_
            refine WQ.nil ?_
            intro m5
            replace hS := hS.drewN m5; generalize hwm5 : World.drewN _ _ = w at *; clear hwm5
            refine WL.st rfl rfl rfl 1 hS rfl rfl rfl rfl rfl rfl (fun w hS => ?_)
            replace hS : St g (Slt p A.s :: cel b1 #[.int .i64 n1.key, .int .i64 n1.val, .int .u32 n1.lf, .int .u32 n1.rg, .int .i64 (n1.size + x.size), .int .i64 (IntKind.i64.wrap (n1.sum + x.sum)), .int .i64 (min n1.mn x.mn), .int .i64 n1.mx] 113 :: cel a #[.pointer (some ⟨p, 0, none⟩), .slice na (List.length (nds A.nodes)) nc, .slice ca (List.length (i64s A.cnt)) cc, .int .u64 rd] 104 :: Own 113 8 (nds A.nodes) na nc :: Own 3 1 (i64s A.cnt) ca cc :: L) w := hS
            refine WL.nil ?_
            refine ⟨by exact trivial, ?_⟩
            intro m6
            replace hS := hS.drewN m6; generalize hwm6 : World.drewN _ _ = w at *; clear hwm6
            refine WC.plan [([0, 2, 1, 3, 4, 5, 6, 7], some (8, []))] (by kernel_rfl) (by kernel_rfl) ?_
            refine WQ.run 8 [.int .i64 n1.mx, .int .i64 x.mx] rfl (by exact ⟨hS.ld 1 rfl rfl, (hS.rdO 3 rfl (nds_at hx)).2 7 _ rfl⟩) ?_
            refine WQ.nil ?_
            intro m7
            replace hS := hS.drewN m7; generalize hwm7 : World.drewN _ _ = w at *; clear hwm7
            refine WL.st rfl rfl rfl 1 hS rfl rfl rfl rfl rfl rfl (fun w hS => ?_)
            replace hS : St g (Slt p A.s :: cel b1 #[.int .i64 n1.key, .int .i64 n1.val, .int .u32 n1.lf, .int .u32 n1.rg, .int .i64 (n1.size + x.size), .int .i64 (IntKind.i64.wrap (n1.sum + x.sum)), .int .i64 (min n1.mn x.mn), .int .i64 (max n1.mx x.mx)] 113 :: cel a #[.pointer (some ⟨p, 0, none⟩), .slice na (List.length (nds A.nodes)) nc, .slice ca (List.length (i64s A.cnt)) cc, .int .u64 rd] 104 :: Own 113 8 (nds A.nodes) na nc :: Own 3 1 (i64s A.cnt) ca cc :: L) w := hS
            refine WL.nil ?_
            refine ⟨by exact trivial, ?_⟩
            intro m8
            replace hS := hS.drewN m8; generalize hwm8 : World.drewN _ _ = w at *; clear hwm8
            refine WC.region ?_
            refine WL.r 1 rfl ?_
            refine WL.nw 79 rfl (w64 (by omega)) ?_
            refine WL.r 1 rfl ?_
            refine WL.nil ?_
            exact ⟨_, by omega, k + 1, ndAdd n1 x, rfl, (hS.sel 3 [1, 1, 0] rfl), (by omega), (by rw [accN, if_neg cd2, hxe, ← hn]), rfl⟩
    · refine WC.exit ?_
      refine WC.seq ?_
      refine WC.seq ?_
      refine WC.region ?_
      have hk2 : k = 2 := by omega
      have hnd : n1 = A.nodeOf key val l r := by rw [hn, hk2]; rfl
      have hnz := nodeOf_sz hA (key := key) (val := val) hK; have hzz := hK.z; rw [← hnd] at hnz
      refine WL.run 3 [.int .i64 n1.size] rfl (by exact hS.ld 0 rfl rfl) ?_
      refine WL.nil ?_
      refine WC.ifF rfl (decide_eq_false ((by omega))) ?_
      refine WC.skip ?_
      refine WC.seq ?_
      refine WC.region ?_
      refine WL.run 4 [.pointer (some ⟨p, 0, none⟩)] rfl (by exact hS.ld 1 rfl rfl) ?_
      refine WL.call rfl rfl (sl_alloc_ok (s := p) (S := A.s) (hO := (by assumption)) (hf := hf) (hS := (hS.sel 3 [2, 0, 0] rfl))) rfl ?_
      clear hS; rintro _ w ⟨rfl, hS⟩
      replace hS : St g (Slt p A.s.alloc :: cel b1 #[.int .i64 n1.key, .int .i64 n1.val, .int .u32 n1.lf, .int .u32 n1.rg, .int .i64 n1.size, .int .i64 n1.sum, .int .i64 n1.mn, .int .i64 n1.mx] 113 :: cel a #[.pointer (some ⟨p, 0, none⟩), .slice na (List.length (nds A.nodes)) nc, .slice ca (List.length (i64s A.cnt)) cc, .int .u64 rd] 104 :: Own 113 8 (nds A.nodes) na nc :: Own 3 1 (i64s A.cnt) ca cc :: L) w := hS
      refine WL.r 5 rfl ?_
      refine WL.nil ?_
      refine WC.seq ?_
      refine WC.seq ?_
      refine WC.region ?_
      refine WL.r 2 rfl ?_
      refine WL.nil ?_
      as_aux_lemma =>
        refine WC.ifF rfl (decide_eq_false ((by decide))) ?_
        refine WC.skip ?_
        refine WC.seq ?_
        refine WC.plan [([0, 4, 1, 2, 3], some (5, [0, 1, 2, 3, 4])), ([], some (6, [])), ([], some (7, []))] (by kernel_rfl) (by kernel_rfl) ?_
        have hnx := A.s.next_rng hAs hf; obtain ⟨y, hy⟩ : ∃ y, A.nodes[A.s.next.toNat]? = some y := ⟨_, List.getElem?_eq_getElem (by omega)⟩
        refine WQ.run 5 [.slice na (List.length (nds A.nodes)) nc] rfl (by exact hS.ld 2 rfl rfl) ?_
        refine WQ.nil ?_
        intro m1
        replace hS := hS.drewN m1; generalize hwm1 : World.drewN _ _ = w at *; clear hwm1
        refine WL.ldF rfl rfl 1 hS rfl rfl ag_113 ?_
        refine WL.nil ?_
        refine ⟨by exact ⟨RQ.pure rfl rfl rfl rfl, RQ.pure rfl rfl rfl rfl, RQ.pure rfl rfl rfl rfl, RQ.load rfl rfl rfl rfl (hS.ld 2 rfl rfl), RQ.pure rfl rfl rfl rfl⟩, ?_⟩
        refine WQ.nil ?_
        intro m2
        replace hS := hS.drewN m2; generalize hwm2 : World.drewN _ _ = w at *; clear hwm2
        refine WL.ix rfl rfl (i := A.s.next) (A.s.next.toNat) el_101 rfl rfl (by omega) (by omega) (hS.rdO 3 rfl (nds_at hy)).1 ?_
        refine WL.nil ?_
        refine ⟨by exact trivial, ?_⟩
        refine WQ.nil ?_
        intro m3
        replace hS := hS.drewN m3; generalize hwm3 : World.drewN _ _ = w at *; clear hwm3
        refine WL.stS rfl rfl rfl 3 (A.s.next.toNat) [.int .i64 y.key, .int .i64 y.val, .int .u32 y.lf, .int .u32 y.rg, .int .i64 y.size, .int .i64 y.sum, .int .i64 y.mn, .int .i64 y.mx] (nds (A.nodes.set A.s.next.toNat n1)) hS rfl (nds_at hy) rfl rfl rfl rfl ag_113 (nds_set _ _ n1) (fun w hS => ?_)
        replace hS : St g (Slt p A.s.alloc :: cel b1 #[.int .i64 n1.key, .int .i64 n1.val, .int .u32 n1.lf, .int .u32 n1.rg, .int .i64 n1.size, .int .i64 n1.sum, .int .i64 n1.mn, .int .i64 n1.mx] 113 :: cel a #[.pointer (some ⟨p, 0, none⟩), .slice na (List.length (nds A.nodes)) nc, .slice ca (List.length (i64s A.cnt)) cc, .int .u64 rd] 104 :: Own 113 8 (nds (A.nodes.set A.s.next.toNat n1)) na nc :: Own 3 1 (i64s A.cnt) ca cc :: L) w := hS
        refine WL.nil ?_
        refine ⟨by exact trivial, ?_⟩
        intro m4
        replace hS := hS.drewN m4; generalize hwm4 : World.drewN _ _ = w at *; clear hwm4
        as_aux_lemma =>
          refine WC.seq ?_
          refine WC.region ?_
          refine WL.run 5 [.slice ca (List.length (i64s A.cnt)) cc] rfl (by exact hS.ld 2 rfl rfl) ?_
          obtain ⟨z, hz⟩ : ∃ z, A.cnt[A.s.next.toNat]? = some z := ⟨_, List.getElem?_eq_getElem (by omega)⟩
          refine WL.ix rfl rfl (i := A.s.next) (A.s.next.toNat) el_102 rfl rfl (by omega) (by omega) (hS.rdO 4 rfl (i64s_at hz)).1 ?_
          refine WL.stE rfl rfl rfl 4 (A.s.next.toNat) 0 [.int .i64 z] (i64s (A.cnt.set A.s.next.toNat 1)) hS rfl (i64s_at hz) rfl rfl rfl rfl rfl (i64s_set _ _ _) (fun w hS => ?_)
          replace hS : St g (Slt p A.s.alloc :: cel b1 #[.int .i64 n1.key, .int .i64 n1.val, .int .u32 n1.lf, .int .u32 n1.rg, .int .i64 n1.size, .int .i64 n1.sum, .int .i64 n1.mn, .int .i64 n1.mx] 113 :: cel a #[.pointer (some ⟨p, 0, none⟩), .slice na (List.length (nds A.nodes)) nc, .slice ca (List.length (i64s A.cnt)) cc, .int .u64 rd] 104 :: Own 113 8 (nds (A.nodes.set A.s.next.toNat n1)) na nc :: Own 3 1 (i64s (A.cnt.set A.s.next.toNat 1)) ca cc :: L) w := hS
          refine WL.nil ?_
          refine WC.seq ?_
          refine WC.region ?_
          refine WL.run 5 [.slice ca (List.length (i64s A.cnt)) cc] rfl (by exact hS.ld 2 rfl rfl) ?_
          have hlr2 := hK.at_ 0; have hrr2 := hK.at_ 1; have hlR := okrng0 hA hK.cl; have hrR := okrng0 hA hK.cr; obtain ⟨z2, hz2⟩ : ∃ z, (A.cnt.set A.s.next.toNat 1)[l.toNat]? = some z := ⟨_, List.getElem?_eq_getElem (by rw [List.length_set]; omega)⟩
          refine WL.ix rfl rfl (i := l) (l.toNat) el_102 rfl rfl (by omega) (by omega) (hS.rdO 4 rfl (i64s_at hz2)).1 ?_
          refine WL.run 2 [.int .i64 z2] rfl (by exact (hS.rdO 4 rfl (i64s_at hz2)).2 0 _ rfl) ?_
          refine WL.ix rfl rfl (i := l) (l.toNat) el_102 rfl rfl (by omega) (by omega) (hS.rdO 4 rfl (i64s_at hz2)).1 ?_
          refine WL.stE rfl rfl rfl 4 (l.toNat) 0 [.int .i64 z2] (i64s ((A.cnt.set A.s.next.toNat 1).set l.toNat (IntKind.i64.wrap (z2 + 1)))) hS rfl (i64s_at hz2) rfl rfl rfl rfl rfl (i64s_set _ _ _) (fun w hS => ?_)
          replace hS : St g (Slt p A.s.alloc :: cel b1 #[.int .i64 n1.key, .int .i64 n1.val, .int .u32 n1.lf, .int .u32 n1.rg, .int .i64 n1.size, .int .i64 n1.sum, .int .i64 n1.mn, .int .i64 n1.mx] 113 :: cel a #[.pointer (some ⟨p, 0, none⟩), .slice na (List.length (nds A.nodes)) nc, .slice ca (List.length (i64s A.cnt)) cc, .int .u64 rd] 104 :: Own 113 8 (nds (A.nodes.set A.s.next.toNat n1)) na nc :: Own 3 1 (i64s ((A.cnt.set A.s.next.toNat 1).set l.toNat (IntKind.i64.wrap (z2 + 1)))) ca cc :: L) w := hS
          refine WL.nil ?_
          refine WC.seq ?_
          refine WC.region ?_
          refine WL.run 5 [.slice ca (List.length (i64s A.cnt)) cc] rfl (by exact hS.ld 2 rfl rfl) ?_
          obtain ⟨z3, hz3⟩ : ∃ z, ((A.cnt.set A.s.next.toNat 1).set l.toNat (IntKind.i64.wrap (z2 + 1)))[r.toNat]? = some z := ⟨_, List.getElem?_eq_getElem (by rw [List.length_set, List.length_set]; omega)⟩
          refine WL.ix rfl rfl (i := r) (r.toNat) el_102 rfl rfl (by omega) (by omega) (hS.rdO 4 rfl (i64s_at hz3)).1 ?_
          refine WL.run 2 [.int .i64 z3] rfl (by exact (hS.rdO 4 rfl (i64s_at hz3)).2 0 _ rfl) ?_
          refine WL.ix rfl rfl (i := r) (r.toNat) el_102 rfl rfl (by omega) (by omega) (hS.rdO 4 rfl (i64s_at hz3)).1 ?_
          refine WL.stE rfl rfl rfl 4 (r.toNat) 0 [.int .i64 z3] (i64s (((A.cnt.set A.s.next.toNat 1).set l.toNat (IntKind.i64.wrap (z2 + 1))).set r.toNat (IntKind.i64.wrap (z3 + 1)))) hS rfl (i64s_at hz3) rfl rfl rfl rfl rfl (i64s_set _ _ _) (fun w hS => ?_)
          replace hS : St g (Slt p A.s.alloc :: cel b1 #[.int .i64 n1.key, .int .i64 n1.val, .int .u32 n1.lf, .int .u32 n1.rg, .int .i64 n1.size, .int .i64 n1.sum, .int .i64 n1.mn, .int .i64 n1.mx] 113 :: cel a #[.pointer (some ⟨p, 0, none⟩), .slice na (List.length (nds A.nodes)) nc, .slice ca (List.length (i64s A.cnt)) cc, .int .u64 rd] 104 :: Own 113 8 (nds (A.nodes.set A.s.next.toNat n1)) na nc :: Own 3 1 (i64s (((A.cnt.set A.s.next.toNat 1).set l.toNat (IntKind.i64.wrap (z2 + 1))).set r.toNat (IntKind.i64.wrap (z3 + 1)))) ca cc :: L) w := hS
          refine WL.nil ?_
          as_aux_lemma =>
            refine WC.seq ?_
            refine WC.region ?_
            refine WL.r 3 rfl ?_
            refine WL.nil ?_
            refine WC.ret ?_
            have eM : A.make n1 = AM.mk A.s.alloc (A.nodes.set A.s.next.toNat n1) (((A.cnt.set A.s.next.toNat 1).set l.toNat (IntKind.i64.wrap (z2 + 1))).set r.toNat (IntKind.i64.wrap (z3 + 1))) := make_eq hz2 hz3 (by rw [hnd]; exact (accN_lf ..).1) (by rw [hnd]; exact (accN_lf ..).2.1)
            rw [hnd] at eM hS
            have eN : (nds (A.nodes.set A.s.next.toNat (A.nodeOf key val l r))).length = (nds A.nodes).length := by simp
            have eC : (i64s (((A.cnt.set A.s.next.toNat 1).set l.toNat (IntKind.i64.wrap (z2 + 1))).set r.toNat (IntKind.i64.wrap (z3 + 1)))).length = (i64s A.cnt).length := by simp
            replace hS := St.exClose (f := arnF a (A.make (A.nodeOf key val l r))) ⟨p, na, nc, ca, cc, rd⟩ (by rw [eM]; unfold arnF; simp only [eN, eC]; exact hS.sel 5 [2, 0, 1, 1] rfl)
            replace hS : St g (Arn a (A.make (A.nodeOf key val l r)) :: L) w := hS
            refine ⟨[.int .u32 A.s.next, .int .i64 0], ⟨rfl, rfl⟩, ?_⟩
            exact ⟨rfl, hS⟩
set_option maxRecDepth 8192 in
theorem ar_size {g w : World} {L : List HP} (a : Nat) (A : AM) (i : Int) (hA : AWf A) (hi : 0 ≤ i ∧ i < 4294967296) (hS : St g (Arn a A :: L) w) :
    Sp Tryz.prog 126 [.pointer (some ⟨a, 0, none⟩), .int .u32 i] w (fun v w' => v = .int .i64 (A.sz i) ∧ St g (Arn a A :: L) w') := by
  refine Sp.enter Tryz.func126 rfl (by kernel_rfl) (by kernel_rfl) ?_
  refine WC.seq ?_
  refine WC.region ?_
  refine WL.r 1 rfl ?_
  refine WL.nil ?_
  refine WC.seq ?_
  refine WC.seq ?_
  refine WC.region ?_
  obtain ⟨⟨p, na, nc, ca, cc, rd⟩, hS⟩ := St.exOpen (f := arnF a A) hS; have hAs := hA.s; have hcp := hAs.cap; have hnl := hA.nl; have hcl := hA.cl; have hbn := nds_len A.nodes; have hbc := i64s_len A.cnt
  replace hS : St g (cel a #[.pointer (some ⟨p, 0, none⟩), .slice na (List.length (nds A.nodes)) nc, .slice ca (List.length (i64s A.cnt)) cc, .int .u64 rd] 104 :: Slt p A.s :: Own 113 8 (nds A.nodes) na nc :: Own 3 1 (i64s A.cnt) ca cc :: L) w := hS
  refine WL.run 5 [.pointer (some ⟨p, 0, none⟩)] rfl (by exact hS.ld 0 rfl rfl) ?_
  refine WL.call rfl rfl (sl_ok (s := p) (S := A.s) (i := i) (hl := (by first | assumption | exact SOk.le (by assumption))) (hi := hi) (hS := (hS.sel 2 [1, 0] rfl))) rfl ?_
  clear hS; rintro _ w ⟨rfl, hS⟩
  replace hS : St g (Slt p A.s :: cel a #[.pointer (some ⟨p, 0, none⟩), .slice na (List.length (nds A.nodes)) nc, .slice ca (List.length (i64s A.cnt)) cc, .int .u64 rd] 104 :: Own 113 8 (nds A.nodes) na nc :: Own 3 1 (i64s A.cnt) ca cc :: L) w := hS
  refine WL.r 1 rfl ?_
  refine WL.nil ?_
  refine WC.if_ rfl (fun cd1 => ?_) (fun cd1 => ?_)
  · refine WC.seq ?_
    refine WC.region ?_
    refine WL.r 1 rfl ?_
    refine WL.nil ?_
    refine WC.ret ?_
    replace hS := St.exClose (f := arnF a A) ⟨p, na, nc, ca, cc, rd⟩ (by first | exact hS | exact hS.sel 4 [1, 0, 0, 0] rfl)
    replace hS : St g (Arn a A :: L) w := hS
    refine ⟨[.int .i64 0], rfl, ?_⟩
    exact ⟨congrArg (Value.int .i64) (by unfold AM.sz; rw [if_neg (by simpa using cd1)]), hS⟩
  · refine WC.skip ?_
    refine WC.seq ?_
    refine WC.region ?_
    refine WL.run 5 [.int .u64 rd] rfl (by exact hS.ld 1 rfl rfl) ?_
    refine WL.r 2 rfl ?_
    refine WL.st rfl rfl rfl 1 hS rfl rfl rfl rfl rfl rfl (fun w hS => ?_)
    replace hS : St g (Slt p A.s :: cel a #[.pointer (some ⟨p, 0, none⟩), .slice na (List.length (nds A.nodes)) nc, .slice ca (List.length (i64s A.cnt)) cc, .int .u64 (IntKind.u64.wrap (rd + 1))] 104 :: Own 113 8 (nds A.nodes) na nc :: Own 3 1 (i64s A.cnt) ca cc :: L) w := hS
    refine WL.nil ?_
    as_aux_lemma =>
      refine WC.seq ?_
      refine WC.region ?_
      refine WL.run 5 [.slice na (List.length (nds A.nodes)) nc] rfl (by exact hS.ld 1 rfl rfl) ?_
      have hio : A.s.ok i = true := (by simpa using cd1); have hir := SM.ok_rng hAs hi.1 hio; obtain ⟨x, hx⟩ : ∃ x, A.nodes[i.toNat]? = some x := ⟨_, List.getElem?_eq_getElem (by omega)⟩; have hxe : A.nd i = x := (by unfold AM.nd; rw [hx]; rfl)
      refine WL.ix rfl rfl (i := i) (i.toNat) el_101 rfl rfl (by omega) (by omega) (hS.rdO 2 rfl (nds_at hx)).1 ?_
      refine WL.run 3 [.int .i64 x.size] rfl (by exact (hS.rdO 2 rfl (nds_at hx)).2 4 _ rfl) ?_
      refine WL.nil ?_
      refine WC.ret ?_
      replace hS := St.exClose (f := arnF a A) ⟨p, na, nc, ca, cc, IntKind.u64.wrap (rd + 1)⟩ (by first | exact hS | exact hS.sel 4 [1, 0, 0, 0] rfl)
      replace hS : St g (Arn a A :: L) w := hS
      refine ⟨[.int .i64 x.size], rfl, ?_⟩
      exact ⟨congrArg (Value.int .i64) (by rw [sz_ok hio, hxe]), hS⟩
set_option maxRecDepth 8192 in
theorem ar_node {g w : World} {L : List HP} (a : Nat) (A : AM) (i : Int) (hA : AWf A) (hi : 0 ≤ i ∧ i < 4294967296) (hio : A.s.ok i = true) (hS : St g (Arn a A :: L) w) :
    Sp Tryz.prog 169 [.pointer (some ⟨a, 0, none⟩), .int .u32 i] w (fun v w' => v = .tuple #[.agg #[.int .i64 (A.nd i).key, .int .i64 (A.nd i).val, .int .u32 (A.nd i).lf, .int .u32 (A.nd i).rg, .int .i64 (A.nd i).size, .int .i64 (A.nd i).sum, .int .i64 (A.nd i).mn, .int .i64 (A.nd i).mx], .bool true] ∧ St g (Arn a A :: L) w') := by
  refine Sp.enter Tryz.func169 rfl (by kernel_rfl) (by kernel_rfl) ?_
  refine WC.seq ?_
  refine WC.region ?_
  obtain ⟨⟨p, na, nc, ca, cc, rd⟩, hS⟩ := St.exOpen (f := arnF a A) hS; have hAs := hA.s; have hcp := hAs.cap; have hnl := hA.nl; have hcl := hA.cl; have hbn := nds_len A.nodes; have hbc := i64s_len A.cnt
  replace hS : St g (cel a #[.pointer (some ⟨p, 0, none⟩), .slice na (List.length (nds A.nodes)) nc, .slice ca (List.length (i64s A.cnt)) cc, .int .u64 rd] 104 :: Slt p A.s :: Own 113 8 (nds A.nodes) na nc :: Own 3 1 (i64s A.cnt) ca cc :: L) w := hS
  refine WL.new rfl rfl zv_113 hS (fun b1 w hS => ?_)
  refine WL.r 1 rfl ?_
  refine WL.nil ?_
  refine WC.seq ?_
  refine WC.seq ?_
  refine WC.region ?_
  refine WL.run 5 [.pointer (some ⟨p, 0, none⟩)] rfl (by exact hS.ld 1 rfl rfl) ?_
  refine WL.call rfl rfl (sl_ok (s := p) (S := A.s) (i := i) (hl := (by first | assumption | exact SOk.le (by assumption))) (hi := hi) (hS := (hS.sel 3 [2, 0, 0] rfl))) rfl ?_
  clear hS; rintro _ w ⟨rfl, hS⟩
  replace hS : St g (Slt p A.s :: cel b1 #[.int .i64 0, .int .i64 0, .int .u32 0, .int .u32 0, .int .i64 0, .int .i64 0, .int .i64 0, .int .i64 0] 113 :: cel a #[.pointer (some ⟨p, 0, none⟩), .slice na (List.length (nds A.nodes)) nc, .slice ca (List.length (i64s A.cnt)) cc, .int .u64 rd] 104 :: Own 113 8 (nds A.nodes) na nc :: Own 3 1 (i64s A.cnt) ca cc :: L) w := hS
  refine WL.r 1 rfl ?_
  refine WL.nil ?_
  refine WC.ifF rfl (by rw [hio]; rfl) ?_
  refine WC.skip ?_
  refine WC.seq ?_
  refine WC.region ?_
  refine WL.run 5 [.int .u64 rd] rfl (by exact hS.ld 2 rfl rfl) ?_
  refine WL.r 2 rfl ?_
  refine WL.st rfl rfl rfl 2 hS rfl rfl rfl rfl rfl rfl (fun w hS => ?_)
  replace hS : St g (Slt p A.s :: cel b1 #[.int .i64 0, .int .i64 0, .int .u32 0, .int .u32 0, .int .i64 0, .int .i64 0, .int .i64 0, .int .i64 0] 113 :: cel a #[.pointer (some ⟨p, 0, none⟩), .slice na (List.length (nds A.nodes)) nc, .slice ca (List.length (i64s A.cnt)) cc, .int .u64 (IntKind.u64.wrap (rd + 1))] 104 :: Own 113 8 (nds A.nodes) na nc :: Own 3 1 (i64s A.cnt) ca cc :: L) w := hS
  refine WL.nil ?_
  as_aux_lemma =>
    refine WC.seq ?_
    refine WC.region ?_
    refine WL.run 5 [.slice na (List.length (nds A.nodes)) nc] rfl (by exact hS.ld 2 rfl rfl) ?_
    have hir := SM.ok_rng hAs hi.1 hio; obtain ⟨x, hx⟩ : ∃ x, A.nodes[i.toNat]? = some x := ⟨_, List.getElem?_eq_getElem (by omega)⟩; have hxe : A.nd i = x := (by unfold AM.nd; rw [hx]; rfl)
    refine WL.ix rfl rfl (i := i) (i.toNat) el_101 rfl rfl (by omega) (by omega) (hS.rdO 3 rfl (nds_at hx)).1 ?_
    refine WL.ldC rfl rfl [.int .i64 x.key, .int .i64 x.val, .int .u32 x.lf, .int .u32 x.rg, .int .i64 x.size, .int .i64 x.sum, .int .i64 x.mn, .int .i64 x.mx] ag_113 rfl (hS.rdO 3 rfl (nds_at hx)).2 ?_
    refine WL.stF rfl rfl rfl 1 hS rfl rfl rfl rfl rfl ag_113 (fun w hS => ?_)
    replace hS : St g (Slt p A.s :: cel b1 #[.int .i64 x.key, .int .i64 x.val, .int .u32 x.lf, .int .u32 x.rg, .int .i64 x.size, .int .i64 x.sum, .int .i64 x.mn, .int .i64 x.mx] 113 :: cel a #[.pointer (some ⟨p, 0, none⟩), .slice na (List.length (nds A.nodes)) nc, .slice ca (List.length (i64s A.cnt)) cc, .int .u64 (IntKind.u64.wrap (rd + 1))] 104 :: Own 113 8 (nds A.nodes) na nc :: Own 3 1 (i64s A.cnt) ca cc :: L) w := hS
    refine WL.r 1 rfl ?_
    refine WL.nil ?_
    refine WC.ret ?_
    replace hS := St.exClose (f := arnF a A) (L := cel b1 #[.int .i64 x.key, .int .i64 x.val, .int .u32 x.lf, .int .u32 x.rg, .int .i64 x.size, .int .i64 x.sum, .int .i64 x.mn, .int .i64 x.mx] 113 :: L) ⟨p, na, nc, ca, cc, IntKind.u64.wrap (rd + 1)⟩ (hS.sel 5 [2, 0, 1, 1, 0] rfl)
    replace hS : St g (Arn a A :: cel b1 #[.int .i64 x.key, .int .i64 x.val, .int .u32 x.lf, .int .u32 x.rg, .int .i64 x.size, .int .i64 x.sum, .int .i64 x.mn, .int .i64 x.mx] 113 :: L) w := hS
    refine ⟨[.agg #[.int .i64 x.key, .int .i64 x.val, .int .u32 x.lf, .int .u32 x.rg, .int .i64 x.size, .int .i64 x.sum, .int .i64 x.mn, .int .i64 x.mx], .bool true], ⟨⟨_, rfl, hS.lvF 1 rfl ag_113⟩, rfl⟩, ?_⟩
    replace hS := (hS.sel 2 [0] rfl)
    exact ⟨by rw [hxe]; rfl, hS⟩
set_option maxRecDepth 8192 in
theorem ar_rel {g w : World} {L : List HP} (a : Nat) (A : AM) (R : List Int) (i : Int) (hA : ARf A (i :: R)) (hR : R.length ≤ 900000000) (hS : St g (Arn a A :: L) w) :
    Sp Tryz.prog 69 [.pointer (some ⟨a, 0, none⟩), .int .u32 i] w (fun v w' => ∃ (A2 : AM) (f : Int), v = .tuple #[.int .i64 f, .int .i64 0] ∧ St g (Arn a A2 :: L) w' ∧ (ARf A2 R) ∧ (Shr A A2) ∧ (f = A2.s.free - A.s.free ∧ 0 ≤ f)) := by
  rcases hA.ref i (List.mem_cons_self ..) with rfl | ⟨h1, h2⟩
  · exact (ar_release0 a A hS).mono fun v w' ⟨hv, hS'⟩ => ⟨A, 0, hv, hS', hA.tail0, Shr.refl A, by omega, by omega⟩
  · have hr := hA.rng (List.mem_cons_self ..)
    refine (ar_release_ok a A R i hA ⟨h1, hr.2.1⟩ hR hS).mono fun v w' ⟨A2, f, hv, hS', h3, h4, h5⟩ => ⟨A2, f, hv, hS', h3, h4, h5, ?_⟩
    have e1 := AM.cnt_live hA.s
    have e2 := AM.cnt_live h3.s
    have e3 := live_sub (A := A) (B := A2) fun j h0 hj => (h4.ok j h0 hj).1
    have e4 : A.s.cap = (A.s.used.length : Int) - 1 := rfl
    have e5 : A2.s.cap = (A2.s.used.length : Int) - 1 := rfl
    have e6 := h4.cap
    omega
theorem Shr.kp {A B : AM} {R : List Int} (h : Shr A B) (hB : ARf B R) : Kp A B R := fun r hr t ht => Is.mono hB (fun j h0 hj => (h.ok j h0 hj).2) t r ht ((hB.ref r hr).imp id (·.2))
end Go.Proofs.YtloebjlnmdjeiaaGreatDoor
/-! ## Vra -/
namespace Go.V
open Go Go.RowKit
structure RN where
  n : Int
  root : Int
  born : Nat
def rK (x : RN) : Value × Value × Nat := (.int .i64 x.n, .int .u32 x.root, x.born)
structure VM where
  T : TM
  xs : List VN
  q : Nat
  last : Int
  rs : List RN
  q2 : Nat
  cap : Int
structure VsA where
  t : Nat
  p : Nat
  m : Nat
  m2 : Nat
def vstF (s a : Nat) (V : VM) (x : VsA) : List HP := [cel s #[.pointer (some ⟨a, 0, none⟩), .pointer (some ⟨x.t, 0, none⟩), .pointer (some ⟨x.p, 0, none⟩), .map (some x.m2), .int .i64 V.cap] 83, Tbl x.t V.T, cel x.p #[.int .i64 V.cap, .int .i64 V.last, .map (some x.m)] 118, blk x.m (.map (mE (List.map vK V.xs)) V.q), Shs vF V.xs, blk x.m2 (.map (mE (List.map rK V.rs)) V.q2)]
def Vst (s a : Nat) (V : VM) : HP := ExB (vstF s a V)
def TM.vl (T : TM) (i : Int) : Int := (T.vals[i.toNat]?).getD 0
structure VI (V : VM) (A : AM) (R : List Int) : Prop where
  t : TOk V.T
  g : GI V.xs V.q V.cap V.last
  k : KOk rK RN.n V.rs V.q2
  pre : ∀ z, (∃ r ∈ V.rs, r.n = z) ↔ preG V.xs z = true
  lv : ∀ i : Int, 0 ≤ i → V.T.s.ok i = true → liveG V.xs (V.T.vl i) = true
  inj : ∀ i j : Int, 0 ≤ i → 0 ≤ j → V.T.s.ok i = true → V.T.s.ok j = true → V.T.vl i = V.T.vl j → i = j
  all : ∀ z, liveG V.xs z = true → ∃ i : Int, 0 ≤ i ∧ V.T.s.ok i = true ∧ V.T.vl i = z
  ref : ARf A (V.rs.map RN.root ++ R)
  cp : V.T.s.cap = V.cap
def VM.new (cap : Nat) : VM := ⟨TM.new cap, [], 0, 0, [], 0, cap⟩
theorem VM.open_val {V : VM} {A : AM} {R : List Int} (h : VI V A R) {x : Int} (ho : V.T.s.opn x = true) : liveG V.xs (V.T.val x) = true ∧ ∃ (k : Nat) (r : RN), V.rs[k]? = some r ∧ r.n = V.T.val x := by
  have h1 := h.lv (x % 4294967296) (by omega) (SM.opn_ok ho).1
  refine ⟨h1, ?_⟩
  obtain ⟨r, hr, hn⟩ := (h.pre _).2 (live_pre h1)
  obtain ⟨k, hk⟩ := List.mem_iff_getElem?.1 hr
  exact ⟨k, r, hk, hn⟩
theorem SM.new_live (cap : Nat) (i : Int) : (SM.new cap).ok i = false := by
  unfold SM.ok SM.new
  simp only
  cases hx : (List.replicate (cap + 1) false)[i.toNat]? with
  | none => rfl
  | some b => rw [List.eq_of_mem_replicate (List.mem_of_getElem? hx)]; rfl
theorem AM.new_rf {cap : Nat} (h : 1 ≤ cap ∧ cap ≤ 65536) : ARf (AM.new cap) [] := by
  have hno := SM.new_live cap
  refine ⟨AM.new_wf h, fun i hi => ?_, fun i hi => ?_, fun i hi => ?_, fun _ hr => (by cases hr), fun i hi => ?_, fun i _ _ => ?_, by simp⟩
  · have := hno i; rw [show (AM.new cap).s = SM.new cap from rfl, this] at hi; cases hi
  · have := hno i; rw [show (AM.new cap).s = SM.new cap from rfl, this] at hi; cases hi
  · have := hno i; rw [show (AM.new cap).s = SM.new cap from rfl, this] at hi; cases hi
  · have := hno i; rw [show (AM.new cap).s = SM.new cap from rfl, this] at hi; cases hi
  · unfold AM.nd AM.new
    simp only
    cases hx : (List.replicate (cap + 1) Nd.zero)[i.toNat]? with
    | none => rfl
    | some b => rw [List.eq_of_mem_replicate (List.mem_of_getElem? hx)]; rfl
theorem VI.new {slots cap : Nat} (h1 : 1 ≤ slots ∧ slots ≤ 65536) (h2 : 1 ≤ cap ∧ cap ≤ 4096) : VI (VM.new cap) (AM.new slots) [] := by
  have hno := SM.new_live cap
  refine ⟨TM.new_ok (by omega), ⟨GOk.nil, fun _ h => (by cases h), Int.le_refl _, by show 1 ≤ (cap : Int) ∧ (cap : Int) ≤ 4096; omega⟩, KOk.nil, fun z => ?_, fun i _ hi => ?_, fun i j _ _ hi => ?_, fun z hz => (by cases hz), AM.new_rf h1, ?_⟩
  · exact ⟨fun ⟨_, h, _⟩ => (by cases h), fun h => (by cases h)⟩
  · rw [show (VM.new cap).T.s = SM.new cap from rfl, hno i] at hi; cases hi
  · rw [show (VM.new cap).T.s = SM.new cap from rfl, hno i] at hi; cases hi
  · show (((List.replicate (cap + 1) false).length : Nat) : Int) - 1 = cap
    simp
def VM.room (V : VM) : Int := min (V.cap - V.xs.length) (V.cap - (V.T.s.cap - V.T.s.free))
def VM.rootOf (V : VM) (z : Int) : Int := ((V.rs.find? fun r => decide (r.n = z)).map RN.root).getD 0
theorem VM.rootOf_at {V : VM} (hu : V.rs.Pairwise fun x y => RN.n x ≠ RN.n y) {k : Nat} {r : RN} (hr : V.rs[k]? = some r) : V.rootOf r.n = r.root := by
  unfold VM.rootOf
  have : V.rs.find? (fun x => decide (x.n = r.n)) = some r := by
    cases hf : V.rs.find? (fun x => decide (x.n = r.n)) with
    | none => exact absurd (decide_eq_true rfl) (List.find?_eq_none.1 hf r (List.mem_of_getElem? hr))
    | some y =>
      have hn : y.n = r.n := of_decide_eq_true (List.find?_some (p := fun q : RN => decide (q.n = r.n)) hf)
      obtain ⟨j, hj⟩ := List.mem_iff_getElem?.1 (List.mem_of_find?_eq_some hf)
      have h1 := (List.getElem?_eq_some_iff.1 hj).1
      have h2 := (List.getElem?_eq_some_iff.1 hr).1
      have e1 : V.rs[j] = y := (List.getElem?_eq_some_iff.1 hj).2
      have e2 : V.rs[k] = r := (List.getElem?_eq_some_iff.1 hr).2
      rcases Nat.lt_trichotomy j k with hl | hl | hl
      · exact absurd (by rw [e1, e2]; exact hn) (List.pairwise_iff_getElem.1 hu j k h1 h2 hl)
      · subst hl; rw [hj] at hr; exact hr
      · exact absurd (by rw [e1, e2]; exact hn.symm) (List.pairwise_iff_getElem.1 hu k j h2 h1 hl)
  rw [this]; rfl
end Go.V
namespace Go.V
open Go Go.RowKit
theorem TM.open_vl {T : TM} (h : TOk T) (hf : 0 < T.s.free) (v : Int) {i : Int} (hi : 0 ≤ i) : (T.open v).vl i = if i = T.s.next then v else T.vl i := by
  have hn := SM.next_rng h.s hf
  unfold TM.vl TM.open
  simp only
  rw [List.getElem?_set]
  by_cases e : i = T.s.next
  · subst e; rw [if_pos rfl, if_pos (by rw [h.vl]; exact hn.2.2.1), if_pos rfl]; rfl
  · rw [if_neg (by omega), if_neg e]
theorem TM.open_ok {T : TM} (h : TOk T) (hf : 0 < T.s.free) (v : Int) {i : Int} (hi : 0 ≤ i) : (T.open v).s.ok i = if i = T.s.next then true else T.s.ok i := SM.alloc_ok' h.s hf hi
theorem rs_len {V : VM} {A : AM} {R : List Int} (h : VI V A R) : V.rs.length ≤ V.xs.length := by
  have h1 := nd_le (l := V.rs.map RN.n) (m := V.xs.map VN.n) (List.pairwise_map.2 h.k.uniq) (fun z hz => by
    obtain ⟨r, hr, e⟩ := List.mem_map.1 hz
    obtain ⟨x, hx, e2⟩ := pre_iff.1 ((h.pre z).1 ⟨r, hr, e⟩)
    exact List.mem_map.2 ⟨x, hx, e2⟩)
  simpa using h1
def VM.add (V : VM) (xs2 : List VN) (q : Nat) (root : Int) : VM := ⟨V.T.open (V.last + 1), xs2, q, V.last + 1, V.rs ++ [⟨V.last + 1, root, V.q2⟩], V.q2 + 1, V.cap⟩
theorem VI.add {V : VM} {A : AM} {R : List Int} (h : VI V A R) {root : Int} (hr : root = 0 ∨ (1 ≤ root ∧ A.s.ok root = true)) {ps : List Int} {xs2 : List VN} {q : Nat} (h0 : addE V.xs V.cap ps = 0) (hA : AddP V.xs V.cap V.last ps xs2 (V.last + 1))
    (hG : GI xs2 q V.cap (V.last + 1)) (hf : 0 < V.T.s.free) (hla : V.last < 1000000000) (hlen : R.length ≤ 900000000) : VI (V.add xs2 q root) (A.ret root) R := by
  have hla0 := h.g.la
  have hle := rs_len h
  have hnum := hG.ok.num
  obtain ⟨_, _, hn, hlv, hpr, hxl⟩ := (AddP.facts h.g.le hA).resolve_left fun e => e.1 h0
  have hlast : ∀ z, preG V.xs z = true → z ≤ V.last := fun z hz => by
    obtain ⟨x, hx, e⟩ := pre_iff.1 hz
    have := h.g.le x hx; omega
  have hnx := SM.next_rng h.t.s hf
  have hlvl : ∀ i : Int, 0 ≤ i → V.T.s.ok i = true → V.T.vl i ≤ V.last := fun i h0 hi => hlast _ (live_pre (h.lv i h0 hi))
  refine ⟨h.t.open hf (by omega), hG, h.k.snoc rfl (fun y hy e => ?_) rfl (by show _ ≤ V.last + 1 ∧ V.last + 1 ≤ _; omega) (by omega), fun z => ?_, fun i hi ho => ?_, fun i j hi hj ho ho2 e => ?_, fun z hz => ?_, ?_, ?_⟩
  · have := hlast _ ((h.pre y.n).1 ⟨y, hy, rfl⟩)
    have e2 : y.n = V.last + 1 := e
    omega
  · show (∃ r ∈ V.rs ++ [_], r.n = z) ↔ preG xs2 z = true
    rw [hpr z, Bool.or_eq_true, ← h.pre z]
    constructor
    · rintro ⟨r, hr2, e⟩
      rcases List.mem_append.1 hr2 with hr2 | hr2
      · exact .inl ⟨r, hr2, e⟩
      · rw [List.mem_singleton.1 hr2] at e
        exact .inr (decide_eq_true e.symm)
    · rintro (⟨r, hr2, e⟩ | e)
      · exact ⟨r, List.mem_append_left _ hr2, e⟩
      · exact ⟨_, List.mem_append_right _ (List.mem_singleton.2 rfl), (of_decide_eq_true e).symm⟩
  · show liveG xs2 ((V.T.open (V.last + 1)).vl i) = true
    rw [TM.open_vl h.t hf _ hi, hlv]
    rw [show (V.add xs2 q root).T.s.ok i = _ from TM.open_ok h.t hf _ hi] at ho
    by_cases e : i = V.T.s.next
    · rw [if_pos e]; simp
    · rw [if_neg e] at ho ⊢
      rw [h.lv i hi ho, Bool.true_or]
  · rw [show (V.add xs2 q root).T.s.ok i = _ from TM.open_ok h.t hf _ hi] at ho
    rw [show (V.add xs2 q root).T.s.ok j = _ from TM.open_ok h.t hf _ hj] at ho2
    rw [show (V.add xs2 q root).T.vl i = _ from TM.open_vl h.t hf _ hi, show (V.add xs2 q root).T.vl j = _ from TM.open_vl h.t hf _ hj] at e
    by_cases e1 : i = V.T.s.next
    · by_cases e2 : j = V.T.s.next
      · rw [e1, e2]
      · rw [if_neg e2] at ho2
        rw [if_pos e1, if_neg e2] at e
        have := hlvl j hj ho2; omega
    · rw [if_neg e1] at ho
      by_cases e2 : j = V.T.s.next
      · rw [if_neg e1, if_pos e2] at e
        have := hlvl i hi ho; omega
      · rw [if_neg e2] at ho2
        rw [if_neg e1, if_neg e2] at e
        exact h.inj i j hi hj ho ho2 e
  · have hz2 : (liveG V.xs z || decide (z = V.last + 1)) = true := by rw [← hlv z]; exact hz
    rcases Bool.or_eq_true_iff.1 hz2 with hz2 | hz2
    · obtain ⟨i, h1, h2, h3⟩ := h.all z hz2
      have hne : i ≠ V.T.s.next := fun e => by rw [e, hnx.2.2.2] at h2; cases h2
      exact ⟨i, h1, by rw [show (V.add xs2 q root).T.s.ok i = _ from TM.open_ok h.t hf _ h1, if_neg hne]; exact h2, by rw [show (V.add xs2 q root).T.vl i = _ from TM.open_vl h.t hf _ h1, if_neg hne]; exact h3⟩
    · have h1 : 0 ≤ V.T.s.next := by omega
      exact ⟨V.T.s.next, h1, by rw [show (V.add xs2 q root).T.s.ok _ = _ from TM.open_ok h.t hf _ h1, if_pos rfl], by rw [show (V.add xs2 q root).T.vl _ = _ from TM.open_vl h.t hf _ h1, if_pos rfl]; exact (of_decide_eq_true hz2).symm⟩
  · have h1 := (AM.ret_eq h.ref hr (by rw [List.length_append, List.length_map]; omega)).1
    refine h1.perm ?_
    show (root :: (V.rs.map RN.root ++ R)).Perm ((V.rs ++ [(⟨V.last + 1, root, V.q2⟩ : RN)]).map RN.root ++ R)
    rw [List.map_append]
    simpa using (List.perm_middle (a := root) (l₁ := V.rs.map RN.root) (l₂ := R)).symm
  · show (V.T.s.alloc).cap = V.cap
    rw [← h.cp]
    unfold SM.cap SM.alloc; simp
theorem open_inj {V : VM} {A : AM} {R : List Int} (h : VI V A R) {x y : Int} (hx : V.T.s.opn x = true) (hy : V.T.s.opn y = true) (e : V.T.val x = V.T.val y) : x = y := by
  obtain ⟨h1, h2⟩ := SM.opn_ok hx
  obtain ⟨h3, h4⟩ := SM.opn_ok hy
  have := h.inj (x % 4294967296) (y % 4294967296) (by omega) (by omega) h1 h3 e
  rw [← h2, ← h4, this]
theorem okPs_map {V : VM} {A : AM} {R : List Int} (h : VI V A R) {hs : List Int} (hp : okPs hs) (ho : ∀ x ∈ hs, V.T.s.opn x = true) : okPs (hs.map V.T.val) := by
  refine ⟨by simpa using hp.1, fun x y e => ?_⟩
  match hs, hp, ho, e with
  | [u, v], hp, ho, e =>
    simp only [List.map_cons, List.map_nil, List.cons.injEq, and_true] at e
    obtain ⟨e1, e2⟩ := e
    intro e3
    exact hp.2 u v rfl (open_inj h (ho u (by simp)) (ho v (by simp)) (by rw [e1, e2]; exact e3))
theorem room_pos {V : VM} {A : AM} {R : List Int} (h : VI V A R) (hr : 0 < V.room) : (V.xs.length : Int) < V.cap ∧ 0 < V.T.s.free := by
  have := h.cp
  unfold VM.room at hr
  omega
theorem addE_room {V : VM} {A : AM} {R : List Int} (h : VI V A R) {hs : List Int} (hp : okPs hs) (ho : ∀ x ∈ hs, V.T.s.opn x = true) (hr : 0 < V.room) : addE V.xs V.cap (hs.map V.T.val) = 0 := by
  refine addE_ok (okPs_map h hp ho) (fun z hz => ?_) (by have := (room_pos h hr).1; omega)
  obtain ⟨x, hx, rfl⟩ := List.mem_map.1 hz
  exact (VM.open_val h (ho x hx)).1
end Go.V
namespace Go.V
open Go Go.RowKit
theorem TM.newH_mod {T : TM} (h : TOk T) (hf : 0 < T.s.free) : T.newH % 4294967296 = T.s.next ∧ 0 ≤ T.newH ∧ T.newH ≤ 18446744073709551615 := by
  have hn := SM.next_rng h.s hf
  have hc := h.s.cap
  have e : T.s.cap = (T.s.used.length : Int) - 1 := rfl
  have hg := (SM.alloc_sok h.s hf)
  have h1 := SOk.gen_rng hg T.s.next
  unfold TM.newH SM.hd
  omega
theorem TOk.newH_opn {T : TM} (h : TOk T) (hf : 0 < T.s.free) (v : Int) : (T.open v).s.opn T.newH = true ∧ (T.open v).val T.newH = v := by
  obtain ⟨h1, h2, h3⟩ := TM.newH_mod h hf
  have hn := SM.next_rng h.s hf
  constructor
  · unfold SM.opn
    rw [h1]
    have e1 : (T.open v).s.ok T.s.next = true := by rw [TM.open_ok h hf v (by omega), if_pos rfl]
    rw [e1]
    simp [TM.open, TM.newH]
  · show (T.open v).vl (T.newH % 4294967296) = v
    rw [h1, TM.open_vl h hf v (by omega), if_pos rfl]
theorem SM.alloc_gen {S : SM} (i : Int) (h0 : 0 ≤ i) (hn : 0 ≤ S.next) (hne : i ≠ S.next) : S.alloc.genOf i = S.genOf i := by
  unfold SM.genOf SM.alloc
  simp only
  rw [List.getElem?_set, if_neg (by omega)]
theorem TOk.opn_open {T : TM} (h : TOk T) (hf : 0 < T.s.free) (v : Int) {x : Int} (hx : T.s.opn x = true) : (T.open v).s.opn x = true ∧ (T.open v).val x = T.val x := by
  obtain ⟨h1, h2⟩ := SM.opn_ok hx
  have hn := SM.next_rng h.s hf
  have hne : x % 4294967296 ≠ T.s.next := fun e => by rw [e, hn.2.2.2] at h1; cases h1
  constructor
  · unfold SM.opn
    have e1 : (T.open v).s.ok (x % 4294967296) = true := by rw [TM.open_ok h hf v (by omega), if_neg hne]; exact h1
    rw [e1]
    have e2 : (T.open v).s.hd (x % 4294967296) = x := by
      show T.s.alloc.genOf (x % 4294967296) * 4294967296 + x % 4294967296 = x
      rw [SM.alloc_gen _ (by omega) (by omega) hne]; exact h2
    rw [e2]; simp
  · show (T.open v).vl (x % 4294967296) = T.vl (x % 4294967296)
    rw [TM.open_vl h hf v (by omega), if_neg hne]
theorem TOk.opn_close {T : TM} (h : TOk T) {x y : Int} (hx : T.s.opn x = true) (hy : T.s.opn y = true) (hne : T.val x ≠ T.val y) : (T.close x).s.opn y = true ∧ (T.close x).val y = T.val y := by
  obtain ⟨h1, h2⟩ := SM.opn_ok hx
  obtain ⟨h3, h4⟩ := SM.opn_ok hy
  have hne2 : y % 4294967296 ≠ x % 4294967296 := fun e => hne (by unfold TM.val; rw [e])
  refine ⟨?_, rfl⟩
  unfold SM.opn
  have e1 : (T.close x).s.ok (y % 4294967296) = true := by
    show (T.s.release (x % 4294967296)).ok (y % 4294967296) = true
    rw [SM.release_ok' h.s (by omega) h1 (by omega), if_neg hne2]; exact h3
  rw [e1]
  have e2 : (T.close x).s.hd (y % 4294967296) = y := h4
  rw [e2]; simp
end Go.V
namespace Go.V
open Go Go.RowKit
theorem VI.ar {V : VM} {A A2 : AM} {R R2 : List Int} (h : VI V A R) (hA : ARf A2 (V.rs.map RN.root ++ R2)) : VI V A2 R2 := ⟨h.t, h.g, h.k, h.pre, h.lv, h.inj, h.all, hA, h.cp⟩
theorem rel_single {xs xs2 : List VN} {n m : Int} (hR : RelQ xs n xs2) (hn : liveG xs n = true) (hl : ∀ z, liveG xs z = true → z = n ∨ z = m) (hm : liveG xs m = true) (hne : m ≠ n) : ∀ z, preG xs2 z = true ↔ z = m := by
  obtain ⟨_, xs1, N, e1, e2, e3⟩ := Or.resolve_right hR (fun h => by rw [hn] at h; cases h.1)
  have hlv : ∀ z, liveG xs1 z = true ↔ liveG xs z = true ∧ z ≠ n := fun z => by
    rw [live_vw, e1, live_vw]
    unfold dead
    by_cases e : z = n
    · rw [if_pos e]
      cases vw xs z <;> simp [e]
    · rw [if_neg e]; simp [e]
  have hone : ∀ z, liveG xs1 z = true ↔ z = m := fun z => by
    rw [hlv]
    constructor
    · rintro ⟨h1, h2⟩; exact (hl z h1).resolve_left h2
    · rintro rfl; exact ⟨hm, hne⟩
  have hN : ∀ z, N z = true ↔ z = m := fun z => by
    rw [e2]
    unfold needG
    constructor
    · rintro (h | ⟨_, x, y, hx, hy, hxy, _⟩)
      · exact (hone z).1 h
      · have := (hone x).1 hx; have := (hone y).1 hy; omega
    · intro h; exact .inl ((hone z).2 h)
  intro z
  rw [pre_vw, e3]
  unfold keep
  by_cases e : z = m
  · rw [if_pos ((hN z).2 e)]
    have h1 := (hone z).2 e
    rw [live_vw] at h1
    cases hv : vw xs1 z with
    | none => rw [hv] at h1; cases h1
    | some p => simp [e]
  · rw [if_neg (fun h => e ((hN z).1 h))]; simp [e]
theorem single_of {α : Type} {n : α → Int} {xs : List α} {a : α} (hu : xs.Pairwise fun x y => n x ≠ n y) (h : ∀ x, x ∈ xs ↔ x = a) : xs = [a] := by
  match xs, hu, h with
  | [], _, h => exact absurd ((h a).2 rfl) (by simp)
  | [x], _, h => rw [(h x).1 (by simp)]
  | x :: y :: t, hu, h =>
    have h1 := (h x).1 (by simp)
    have h2 := (h y).1 (by simp)
    have := (List.pairwise_cons.1 hu).1 y (by simp)
    rw [h1, h2] at this; exact absurd rfl this
theorem len_single {xs : List VN} {m : Int} (hu : VUq xs) (h : ∀ z, preG xs z = true ↔ z = m) : xs.length = 1 := by
  match xs, hu, h with
  | [], _, h => exact absurd ((h m).2 rfl) (by simp [preG, vfind])
  | [_], _, _ => rfl
  | x :: y :: t, hu, h =>
    have h1 := (h x.n).1 (pre_iff.2 ⟨x, by simp, rfl⟩)
    have h2 := (h y.n).1 (pre_iff.2 ⟨y, by simp, rfl⟩)
    have := (List.pairwise_cons.1 hu).1 y (by simp)
    rw [h1, h2] at this; exact absurd rfl this
structure FvS (V : VM) (A : AM) (hd root : Int) (t : Tr) : Prop where
  vi : VI V A []
  opn : V.T.s.opn hd = true
  rng : 0 ≤ hd ∧ hd ≤ 18446744073709551615
  val : V.T.val hd = V.last
  pre : ∀ z, preG V.xs z = true ↔ z = V.last
  free : V.T.s.free = 49
  cap : V.cap = 50
  rs : ∃ b, V.rs = [⟨V.last, root, b⟩]
  is : Is A t root
  ok : t.ok
  srt : Srt t.ls
  acap : A.s.used.length = 601
theorem FvS.len {V : VM} {A : AM} {hd root : Int} {t : Tr} (h : FvS V A hd root t) : V.xs.length = 1 := len_single h.vi.g.ok.uniq h.pre
theorem FvS.room {V : VM} {A : AM} {hd root : Int} {t : Tr} (h : FvS V A hd root t) : V.room = 49 := by
  have h1 := h.len; have h2 := h.vi.cp; have h3 := h.cap; have h4 := h.free
  unfold VM.room; omega
theorem FvS.root {V : VM} {A : AM} {hd root : Int} {t : Tr} (h : FvS V A hd root t) : V.rootOf (V.T.val hd) = root := by
  obtain ⟨b, hb⟩ := h.rs
  rw [h.val]
  exact VM.rootOf_at (V := V) h.vi.k.uniq (k := 0) (r := ⟨V.last, root, b⟩) (by rw [hb]; rfl)
theorem FvS.ref {V : VM} {A : AM} {hd root : Int} {t : Tr} (h : FvS V A hd root t) : ARf A [root] := by
  obtain ⟨b, hb⟩ := h.rs
  have := h.vi.ref
  rw [hb] at this; exact this
theorem FvS.used {V : VM} {A : AM} {hd root : Int} {t : Tr} (h : FvS V A hd root t) : A.s.cap = 600 ∧ A.s.cap - A.s.free = t.n := by
  have h1 := one_tree h.ref h.is h.srt
  have h2 : A.s.cap = (A.s.used.length : Int) - 1 := rfl
  have h3 := h.acap
  omega
end Go.V
/-! ## V1 -/
namespace Go.Proofs.YtloebjlnmdjeiaaGreatDoor
open Go Go.V Go.RowKit Go.Maps Go.Sort Go.Shelf
set_option maxRecDepth 8192 in
theorem vs_new_bad1 {g w : World} {L : List HP} (sl cap : Int) (hc : ¬ (1 ≤ cap ∧ cap ≤ 4096)) (hS : St g (L) w) :
    Sp Tryz.prog 11 [.int .i64 sl, .int .i64 cap] w (fun v w' => v = .tuple #[.pointer none, .int .i64 1] ∧ St g (L) w') := by
  refine Sp.enter Tryz.func11 rfl (by kernel_rfl) (by kernel_rfl) ?_
  have _ := hc
  refine WC.seq ?_
  refine WC.region ?_
  refine WL.r 2 rfl ?_
  refine WL.nil ?_
  refine WC.seq ?_
  refine WC.seq ?_
  refine WC.region ?_
  refine WL.r 2 rfl ?_
  refine WL.rG 4 rfl (fun j => ?_)
  refine WL.prop 15 rfl (bor (dd _) (dd _)) ?_
  refine WL.nil ?_
  refine WC.ifT rfl (decide_eq_true ((by omega))) ?_
  refine WC.seq ?_
  refine WC.region ?_
  refine WL.r 2 rfl ?_
  refine WL.nil ?_
  refine WC.ret ?_
  refine ⟨[.pointer none, .int .i64 1], ⟨rfl, rfl⟩, ?_⟩
  exact ⟨rfl, hS⟩
set_option maxRecDepth 8192 in
theorem vs_new_bad2 {g w : World} {L : List HP} (sl cap : Int) (hc : 1 ≤ cap ∧ cap ≤ 4096) (hs : ¬ (1 ≤ sl ∧ sl ≤ 65536)) (hS : St g (L) w) :
    Sp Tryz.prog 11 [.int .i64 sl, .int .i64 cap] w (fun v w' => v = .tuple #[.pointer none, .int .i64 1] ∧ St g (L) w') := by
  refine Sp.enter Tryz.func11 rfl (by kernel_rfl) (by kernel_rfl) ?_
  have _ := hc
  refine WC.seq ?_
  refine WC.region ?_
  refine WL.r 2 rfl ?_
  refine WL.nil ?_
  refine WC.seq ?_
  refine WC.seq ?_
  refine WC.region ?_
  refine WL.r 2 rfl ?_
  refine WL.rG 4 rfl (fun j => ?_)
  refine WL.prop 15 rfl (bor (dd _) (dd _)) ?_
  refine WL.nil ?_
  refine WC.ifF rfl (decide_eq_false ((by omega))) ?_
  refine WC.skip ?_
  refine WC.seq ?_
  refine WC.region ?_
  refine WL.r 1 rfl ?_
  refine WL.call rfl rfl (ar_new_bad (cap := sl) (hc := hs) (hS := hS)) rfl ?_
  clear hS; rintro _ w ⟨rfl, hS⟩
  replace hS : St g (L) w := hS
  refine WL.r 5 rfl ?_
  refine WL.nil ?_
  refine WC.seq ?_
  refine WC.seq ?_
  refine WC.region ?_
  refine WL.r 2 rfl ?_
  refine WL.nil ?_
  as_aux_lemma =>
    refine WC.ifT rfl (decide_eq_true ((by decide))) ?_
    refine WC.seq ?_
    refine WC.region ?_
    refine WL.r 3 rfl ?_
    refine WL.nil ?_
    refine WC.ret ?_
    refine ⟨[.pointer none, .int .i64 1], ⟨rfl, rfl⟩, ?_⟩
    exact ⟨rfl, hS⟩
set_option maxRecDepth 8192 in
theorem vs_new_ok {g w : World} {L : List HP} (sl cap : Int) (hc : 1 ≤ cap ∧ cap ≤ 4096) (hs : 1 ≤ sl ∧ sl ≤ 65536) (hS : St g (L) w) :
    Sp Tryz.prog 11 [.int .i64 sl, .int .i64 cap] w (fun v w' => ∃ (s a : Nat), v = .tuple #[.pointer (some ⟨s, 0, none⟩), .int .i64 0] ∧ St g (Vst s a (VM.new cap.toNat) :: Arn a (AM.new sl.toNat) :: L) w') := by
  refine Sp.enter Tryz.func11 rfl (by kernel_rfl) (by kernel_rfl) ?_
  refine WC.seq ?_
  refine WC.region ?_
  refine WL.r 2 rfl ?_
  refine WL.nil ?_
  refine WC.seq ?_
  refine WC.seq ?_
  refine WC.region ?_
  refine WL.r 2 rfl ?_
  refine WL.rG 4 rfl (fun j => ?_)
  refine WL.prop 15 rfl (bor (dd _) (dd _)) ?_
  refine WL.nil ?_
  refine WC.ifF rfl (decide_eq_false ((by omega))) ?_
  refine WC.skip ?_
  refine WC.seq ?_
  refine WC.region ?_
  refine WL.r 1 rfl ?_
  refine WL.call rfl rfl (ar_new_ok (cap := sl) (hc := hs) (hS := hS)) rfl ?_
  clear hS; rintro _ w ⟨a1, rfl, hS⟩
  replace hS : St g (Arn a1 (AM.new sl.toNat) :: L) w := hS
  refine WL.r 5 rfl ?_
  refine WL.nil ?_
  refine WC.seq ?_
  refine WC.seq ?_
  refine WC.region ?_
  refine WL.r 2 rfl ?_
  refine WL.nil ?_
  as_aux_lemma =>
    refine WC.ifF rfl (decide_eq_false ((by decide))) ?_
    refine WC.skip ?_
    refine WC.seq ?_
    refine WC.region ?_
    refine WL.r 1 rfl ?_
    refine WL.call rfl rfl (tb_new_ok (cap := cap) (hc := hc) (hS := hS)) rfl ?_
    clear hS; rintro _ w ⟨t1, rfl, hS⟩
    replace hS : St g (Tbl t1 (TM.new cap.toNat) :: Arn a1 (AM.new sl.toNat) :: L) w := hS
    refine WL.r 5 rfl ?_
    refine WL.nil ?_
    refine WC.seq ?_
    refine WC.seq ?_
    refine WC.region ?_
    refine WL.r 2 rfl ?_
    refine WL.nil ?_
    refine WC.ifF rfl (decide_eq_false ((by decide))) ?_
    refine WC.skip ?_
    refine WC.seq ?_
    refine WC.region ?_
    refine WL.r 1 rfl ?_
    refine WL.call rfl rfl (new_ok (cap := cap) (hc := hc) (hS := hS)) rfl ?_
    clear hS; rintro _ w ⟨p1, m1, rfl, hS⟩
    replace hS : St g (cel p1 #[.int .i64 cap, .int .i64 0, .map (some m1)] 118 :: blk m1 (.map (mE (List.map vK [])) 0) :: Shs vF [] :: Tbl t1 (TM.new cap.toNat) :: Arn a1 (AM.new sl.toNat) :: L) w := hS
    refine WL.r 5 rfl ?_
    refine WL.nil ?_
    as_aux_lemma =>
      refine WC.seq ?_
      refine WC.seq ?_
      refine WC.region ?_
      refine WL.r 2 rfl ?_
      refine WL.nil ?_
      refine WC.ifF rfl (decide_eq_false ((by decide))) ?_
      refine WC.skip ?_
      refine WC.seq ?_
      refine WC.region ?_
      refine WL.r 3 rfl ?_
      refine WL.mkM rfl rfl hS (fun b1 w hS => ?_)
      refine WL.build rfl rfl (cs := [.pointer (some ⟨p1, 0, none⟩), .map (some b1)]) zv_81 rfl rfl ?_
      refine WL.r 1 rfl ?_
      refine WL.build rfl rfl (cs := [.pointer (some ⟨a1, 0, none⟩), .pointer (some ⟨t1, 0, none⟩), .pointer (some ⟨p1, 0, none⟩), .map (some b1), .int .i64 cap]) zv_83 rfl rfl ?_
      refine WL.box rfl rfl #[.pointer (some ⟨a1, 0, none⟩), .pointer (some ⟨t1, 0, none⟩), .pointer (some ⟨p1, 0, none⟩), .map (some b1), .int .i64 cap] hS rfl rfl (fun b2 w hS => ?_)
      refine WL.r 2 rfl ?_
      refine WL.nil ?_
      refine WC.ret ?_
      replace hS := St.exClose (f := vstF b2 a1 (VM.new cap.toNat)) (L := Arn a1 (AM.new sl.toNat) :: L) ⟨t1, p1, m1, b1⟩ (by
        have hc2 : (VM.new cap.toNat).cap = cap := (by show ((cap.toNat : Nat) : Int) = cap; omega)
        unfold vstF
        rw [hc2]
        exact (hS.sel 6 [0, 4, 1, 1, 1, 0] rfl))
      replace hS : St g (Vst b2 a1 (VM.new cap.toNat) :: Arn a1 (AM.new sl.toNat) :: L) w := hS
      refine ⟨[.pointer (some ⟨b2, 0, none⟩), .int .i64 0], ⟨rfl, rfl⟩, ?_⟩
      exact ⟨_, _, rfl, hS⟩
set_option maxRecDepth 8192 in
theorem vs_num_bad {g w : World} {L : List HP} (s a : Nat) (V : VM) (h : Int) (hT : TOk V.T) (hh : 0 ≤ h ∧ h ≤ 18446744073709551615) (hn : V.T.s.opn h = false) (hS : St g (Vst s a V :: L) w) :
    Sp Tryz.prog 120 [.pointer (some ⟨s, 0, none⟩), .int .u64 h] w (fun v w' => v = .tuple #[.int .i64 0, .int .i64 5] ∧ St g (Vst s a V :: L) w') := by
  refine Sp.enter Tryz.func120 rfl (by kernel_rfl) (by kernel_rfl) ?_
  refine WC.seq ?_
  refine WC.region ?_
  refine WL.r 2 rfl ?_
  refine WL.nil ?_
  refine WC.seq ?_
  refine WC.region ?_
  obtain ⟨⟨vt, vp, vm, vr⟩, hS⟩ := St.exOpen (f := vstF s a V) hS
  replace hS : St g (cel s #[.pointer (some ⟨a, 0, none⟩), .pointer (some ⟨vt, 0, none⟩), .pointer (some ⟨vp, 0, none⟩), .map (some vr), .int .i64 V.cap] 83 :: Tbl vt V.T :: cel vp #[.int .i64 V.cap, .int .i64 V.last, .map (some vm)] 118 :: blk vm (.map (mE (List.map vK V.xs)) V.q) :: Shs vF V.xs :: blk vr (.map (mE (List.map rK V.rs)) V.q2) :: L) w := hS
  refine WL.run 5 [.pointer (some ⟨vt, 0, none⟩)] rfl (by exact hS.ld 0 rfl rfl) ?_
  refine WL.call rfl rfl (tb_lookup_bad (t := vt) (T := V.T) (h := h) (hT := hT) (hh := hh) (hn := hn) (hS := (hS.sel 2 [1, 0] rfl))) rfl ?_
  clear hS; rintro _ w ⟨rfl, hS⟩
  replace hS : St g (Tbl vt V.T :: cel s #[.pointer (some ⟨a, 0, none⟩), .pointer (some ⟨vt, 0, none⟩), .pointer (some ⟨vp, 0, none⟩), .map (some vr), .int .i64 V.cap] 83 :: cel vp #[.int .i64 V.cap, .int .i64 V.last, .map (some vm)] 118 :: blk vm (.map (mE (List.map vK V.xs)) V.q) :: Shs vF V.xs :: blk vr (.map (mE (List.map rK V.rs)) V.q2) :: L) w := hS
  refine WL.r 5 rfl ?_
  refine WL.nil ?_
  refine WC.seq ?_
  refine WC.region ?_
  refine WL.r 2 rfl ?_
  refine WL.nw 18 rfl (w64 (by omega)) ?_
  refine WL.r 3 rfl ?_
  refine WL.nil ?_
  refine WC.ret ?_
  replace hS := St.exClose (f := vstF s a V) (L := L) ⟨vt, vp, vm, vr⟩ ((hS.sel 2 [1, 0] rfl))
  replace hS : St g (Vst s a V :: L) w := hS
  refine ⟨[.int .i64 0, .int .i64 5], ⟨rfl, rfl⟩, ?_⟩
  exact ⟨rfl, hS⟩
set_option maxRecDepth 8192 in
theorem vs_num_ok {g w : World} {L : List HP} (s a : Nat) (V : VM) (h : Int) (hT : TOk V.T) (hh : 0 ≤ h ∧ h ≤ 18446744073709551615) (hn : V.T.s.opn h = true) (hS : St g (Vst s a V :: L) w) :
    Sp Tryz.prog 120 [.pointer (some ⟨s, 0, none⟩), .int .u64 h] w (fun v w' => v = .tuple #[.int .i64 (V.T.val h), .int .i64 0] ∧ St g (Vst s a V :: L) w') := by
  refine Sp.enter Tryz.func120 rfl (by kernel_rfl) (by kernel_rfl) ?_
  refine WC.seq ?_
  refine WC.region ?_
  refine WL.r 2 rfl ?_
  refine WL.nil ?_
  refine WC.seq ?_
  refine WC.region ?_
  obtain ⟨⟨vt, vp, vm, vr⟩, hS⟩ := St.exOpen (f := vstF s a V) hS
  replace hS : St g (cel s #[.pointer (some ⟨a, 0, none⟩), .pointer (some ⟨vt, 0, none⟩), .pointer (some ⟨vp, 0, none⟩), .map (some vr), .int .i64 V.cap] 83 :: Tbl vt V.T :: cel vp #[.int .i64 V.cap, .int .i64 V.last, .map (some vm)] 118 :: blk vm (.map (mE (List.map vK V.xs)) V.q) :: Shs vF V.xs :: blk vr (.map (mE (List.map rK V.rs)) V.q2) :: L) w := hS
  refine WL.run 5 [.pointer (some ⟨vt, 0, none⟩)] rfl (by exact hS.ld 0 rfl rfl) ?_
  refine WL.call rfl rfl (tb_lookup_ok (t := vt) (T := V.T) (h := h) (hT := hT) (hh := hh) (hn := hn) (hS := (hS.sel 2 [1, 0] rfl))) rfl ?_
  clear hS; rintro _ w ⟨rfl, hS⟩
  replace hS : St g (Tbl vt V.T :: cel s #[.pointer (some ⟨a, 0, none⟩), .pointer (some ⟨vt, 0, none⟩), .pointer (some ⟨vp, 0, none⟩), .map (some vr), .int .i64 V.cap] 83 :: cel vp #[.int .i64 V.cap, .int .i64 V.last, .map (some vm)] 118 :: blk vm (.map (mE (List.map vK V.xs)) V.q) :: Shs vF V.xs :: blk vr (.map (mE (List.map rK V.rs)) V.q2) :: L) w := hS
  refine WL.r 5 rfl ?_
  refine WL.nil ?_
  refine WC.seq ?_
  refine WC.region ?_
  have hv := hT.val_rng h
  refine WL.r 2 rfl ?_
  refine WL.nw 18 rfl (w64 (by omega)) ?_
  refine WL.r 3 rfl ?_
  refine WL.nil ?_
  refine WC.ret ?_
  replace hS := St.exClose (f := vstF s a V) (L := L) ⟨vt, vp, vm, vr⟩ ((hS.sel 2 [1, 0] rfl))
  replace hS : St g (Vst s a V :: L) w := hS
  refine ⟨[.int .i64 (V.T.val h), .int .i64 0], ⟨rfl, rfl⟩, ?_⟩
  exact ⟨rfl, hS⟩
set_option maxRecDepth 8192 in
theorem vs_root_bad {g w : World} {L : List HP} (s a : Nat) (V : VM) (h : Int) (hT : TOk V.T) (hh : 0 ≤ h ∧ h ≤ 18446744073709551615) (hn : V.T.s.opn h = false) (hS : St g (Vst s a V :: L) w) :
    Sp Tryz.prog 51 [.pointer (some ⟨s, 0, none⟩), .int .u64 h] w (fun v w' => v = .tuple #[.int .u32 0, .int .i64 5] ∧ St g (Vst s a V :: L) w') := by
  refine Sp.enter Tryz.func51 rfl (by kernel_rfl) (by kernel_rfl) ?_
  refine WC.seq ?_
  refine WC.region ?_
  refine WL.r 2 rfl ?_
  refine WL.nil ?_
  refine WC.seq ?_
  refine WC.region ?_
  refine WL.r 2 rfl ?_
  refine WL.call rfl rfl (vs_num_bad (s := s) (a := a) (V := V) (h := h) (hT := hT) (hh := hh) (hn := hn) (hS := hS)) rfl ?_
  clear hS; rintro _ w ⟨rfl, hS⟩
  replace hS : St g (Vst s a V :: L) w := hS
  refine WL.r 5 rfl ?_
  refine WL.nil ?_
  refine WC.seq ?_
  refine WC.seq ?_
  refine WC.region ?_
  refine WL.r 2 rfl ?_
  refine WL.nil ?_
  refine WC.ifT rfl (decide_eq_true ((by decide))) ?_
  refine WC.seq ?_
  refine WC.region ?_
  refine WL.r 3 rfl ?_
  refine WL.nil ?_
  refine WC.ret ?_
  refine ⟨[.int .u32 0, .int .i64 5], ⟨rfl, rfl⟩, ?_⟩
  exact ⟨rfl, hS⟩
set_option maxRecDepth 8192 in
theorem vs_root_ok {g w : World} {L : List HP} (s a : Nat) (V : VM) (A : AM) (R : List Int) (h : Int) (hV : VI V A R) (hh : 0 ≤ h ∧ h ≤ 18446744073709551615) (hn : V.T.s.opn h = true) (hS : St g (Vst s a V :: L) w) :
    Sp Tryz.prog 51 [.pointer (some ⟨s, 0, none⟩), .int .u64 h] w (fun v w' => v = .tuple #[.int .u32 (V.rootOf (V.T.val h)), .int .i64 0] ∧ St g (Vst s a V :: L) w') := by
  refine Sp.enter Tryz.func51 rfl (by kernel_rfl) (by kernel_rfl) ?_
  refine WC.seq ?_
  refine WC.region ?_
  refine WL.r 2 rfl ?_
  refine WL.nil ?_
  refine WC.seq ?_
  refine WC.region ?_
  refine WL.r 2 rfl ?_
  refine WL.call rfl rfl (vs_num_ok (s := s) (a := a) (V := V) (h := h) (hT := hV.t) (hh := hh) (hn := hn) (hS := hS)) rfl ?_
  clear hS; rintro _ w ⟨rfl, hS⟩
  replace hS : St g (Vst s a V :: L) w := hS
  refine WL.r 5 rfl ?_
  refine WL.nil ?_
  refine WC.seq ?_
  refine WC.seq ?_
  refine WC.region ?_
  refine WL.r 2 rfl ?_
  refine WL.nil ?_
  refine WC.ifF rfl (decide_eq_false ((by decide))) ?_
  refine WC.skip ?_
  refine WC.seq ?_
  refine WC.region ?_
  obtain ⟨⟨vt, vp, vm, vr⟩, hS⟩ := St.exOpen (f := vstF s a V) hS
  replace hS : St g (cel s #[.pointer (some ⟨a, 0, none⟩), .pointer (some ⟨vt, 0, none⟩), .pointer (some ⟨vp, 0, none⟩), .map (some vr), .int .i64 V.cap] 83 :: Tbl vt V.T :: cel vp #[.int .i64 V.cap, .int .i64 V.last, .map (some vm)] 118 :: blk vm (.map (mE (List.map vK V.xs)) V.q) :: Shs vF V.xs :: blk vr (.map (mE (List.map rK V.rs)) V.q2) :: L) w := hS
  obtain ⟨_, k, r, hr, hrn⟩ := VM.open_val hV hn
  refine WL.run 6 [.map (some vr)] rfl (by exact hS.ld 0 rfl rfl) ?_
  refine WL.lk rfl rfl mt_79 5 hS rfl rfl rfl (by first | trivial | rfl) (r := some (k, .int .u32 r.root)) (hrn ▸ ki_in hV.k.key hV.k.uniq hr) rfl ?_
  refine WL.r 2 rfl ?_
  refine WL.nil ?_
  as_aux_lemma =>
    refine WC.ret ?_
    replace hS := St.exClose (f := vstF s a V) (L := L) ⟨vt, vp, vm, vr⟩ (hS)
    replace hS : St g (Vst s a V :: L) w := hS
    refine ⟨[.int .u32 r.root, .int .i64 0], ⟨rfl, rfl⟩, ?_⟩
    exact ⟨by rw [← hrn, VM.rootOf_at hV.k.uniq hr]; rfl, hS⟩
end Go.Proofs.YtloebjlnmdjeiaaGreatDoor
/-! ## V2 -/
namespace Go.Proofs.YtloebjlnmdjeiaaGreatDoor
open Go Go.V Go.RowKit Go.Maps Go.Sort Go.Shelf
def hup (T : TM) (k : Nat) : List Int := ((List.range k).filter fun i : Nat => T.s.ok (i : Int)).map fun i : Nat => T.s.hd (i : Int)
set_option maxRecDepth 8192 in
theorem keysR_spec {g w : World} {L : List HP} (m : Nat) (hS : St g (L) w) :
    Sp Tryz.prog 104 [.map (some m)] w (fun v w' => ∃ (c : Nat), v = .func (.func 188) #[] #[.pointer (some ⟨c, 0, none⟩)] ∧ St g (cel c #[.map (some m)] 79 :: L) w') := by
  have h := callsIn_wide.1 (AnyZI.keys_in Tryz.keysB Fence.wide 5 trivial rfl (some m) w)
  refine ⟨⟨_, _, Tryz.func104, by kernel_rfl, rfl⟩, h.mono fun e w' ⟨he, hw⟩ => ⟨_, he, ?_⟩⟩
  subst hw
  exact ⟨_, rfl, hS.new _⟩
set_option maxRecDepth 8192 in
theorem sortedR_spec {g w : World} {L : List HP} (m c q : Nat) (rs : List RN) (ss : List Int) (ht : KOk rK RN.n rs q) (hp : ss.Perm (rs.map RN.n)) (hs : ss.Pairwise (· ≤ ·)) (hS : St g (cel c #[.map (some m)] 79 :: blk m (.map (mE (List.map rK rs)) q) :: L) w) :
    Sp Tryz.prog 103 [.func (.func 188) #[] #[.pointer (some ⟨c, 0, none⟩)]] w (fun v w' => ∃ (a2 : Option Addr) (c2 : Nat), v = .slice a2 (List.length (i64s ss)) c2 ∧ St g (Own 3 1 (i64s ss) a2 c2 :: cel c #[.map (some m)] 79 :: blk m (.map (mE (List.map rK rs)) q) :: L) w') := by
  have hc : w.cell? ⟨c, 0, none⟩ = some (.map (some m)) := hS.ld 0 rfl rfl
  have hcl : c < w.heap.size := by
    have h1 := hS.heap 0 rfl
    exact (Array.getElem?_eq_some_iff.1 h1).1
  have hm := hS.heap 1 rfl
  obtain ⟨D, hD, hsz, hk⟩ := keys_of (P := Tryz.prog) (k := 3) rs q ht Tryz.underlying3 hm
  have hseq := AnyZI.keys_gives (ρ := Tryz.keysB_ren) { Tryz.keysB with } Fence.wide 2 trivial rfl (by omega) c m 4096 D w hcl hc hD
  have h := callsIn_wide.1 (AnyZI.sorted_in Tryz.sortedA Fence.wide 5 trivial trivial trivial trivial rfl (by omega) (Tryz.sortsA _) (enters_of Tryz.func187 (by kernel_rfl) rfl) 188 #[.pointer (some ⟨c, 0, none⟩)] trivial (enters_of Tryz.func188 (by kernel_rfl) rfl) _ _ (by rw [hsz]; exact Nat.le_trans ht.num (by decide)) (by rw [hsz]; have := ht.num; omega) w hseq)
  refine ⟨⟨_, _, Tryz.func103, by kernel_rfl, rfl⟩, h.mono fun e w' ⟨v, ys, he, hys, hrow, _, hb⟩ => ⟨v, he, ?_⟩⟩
  have hpp : ss.Perm ys := hp.trans (hys.trans hk).symm
  obtain ⟨a, c2, rfl, hS2⟩ := St.of_row (i64s ss) hS hb hrow (by rw [sort_eqI hpp hs, i64s_flat]) (by simpa using hpp.length_eq) (i64s_ok ss)
  exact ⟨a, c2, rfl, hS2⟩
set_option maxRecDepth 8192 in
theorem vs_ret {g w : World} {L : List HP} (s a : Nat) (V : VM) (ss : List Int) (hk : KOk rK RN.n V.rs V.q2) (hp : ss.Perm (V.rs.map RN.n)) (hs : ss.Pairwise (· ≤ ·)) (hS : St g (Vst s a V :: L) w) :
    Sp Tryz.prog 39 [.pointer (some ⟨s, 0, none⟩)] w (fun v w' => ∃ (a2 : Option Addr) (c2 : Nat), v = .slice a2 (List.length (i64s ss)) c2 ∧ St g (Own 3 1 (i64s ss) a2 c2 :: Vst s a V :: L) w') := by
  refine Sp.enter Tryz.func39 rfl (by kernel_rfl) (by kernel_rfl) ?_
  refine WC.seq ?_
  refine WC.region ?_
  obtain ⟨⟨vt, vp, vm, vr⟩, hS⟩ := St.exOpen (f := vstF s a V) hS
  replace hS : St g (cel s #[.pointer (some ⟨a, 0, none⟩), .pointer (some ⟨vt, 0, none⟩), .pointer (some ⟨vp, 0, none⟩), .map (some vr), .int .i64 V.cap] 83 :: Tbl vt V.T :: cel vp #[.int .i64 V.cap, .int .i64 V.last, .map (some vm)] 118 :: blk vm (.map (mE (List.map vK V.xs)) V.q) :: Shs vF V.xs :: blk vr (.map (mE (List.map rK V.rs)) V.q2) :: L) w := hS
  refine WL.r 1 rfl ?_
  refine WL.nil ?_
  refine WC.seq ?_
  refine WC.region ?_
  refine WL.run 5 [.map (some vr)] rfl (by exact hS.ld 0 rfl rfl) ?_
  refine WL.call rfl rfl (keysR_spec (m := vr)  (hS := hS)) rfl ?_
  clear hS; rintro _ w ⟨c1, rfl, hS⟩
  replace hS : St g (cel c1 #[.map (some vr)] 79 :: cel s #[.pointer (some ⟨a, 0, none⟩), .pointer (some ⟨vt, 0, none⟩), .pointer (some ⟨vp, 0, none⟩), .map (some vr), .int .i64 V.cap] 83 :: Tbl vt V.T :: cel vp #[.int .i64 V.cap, .int .i64 V.last, .map (some vm)] 118 :: blk vm (.map (mE (List.map vK V.xs)) V.q) :: Shs vF V.xs :: blk vr (.map (mE (List.map rK V.rs)) V.q2) :: L) w := hS
  refine WL.call rfl rfl (sortedR_spec (m := vr) (c := c1) (q := V.q2) (rs := V.rs) (ss := ss) (ht := hk) (hp := hp) (hs := hs) (hS := (hS.sel 7 [0, 5, 0, 0, 0, 0, 0] rfl))) rfl ?_
  clear hS; rintro _ w ⟨a1, c2, rfl, hS⟩
  replace hS : St g (Own 3 1 (i64s ss) a1 c2 :: cel c1 #[.map (some vr)] 79 :: blk vr (.map (mE (List.map rK V.rs)) V.q2) :: cel s #[.pointer (some ⟨a, 0, none⟩), .pointer (some ⟨vt, 0, none⟩), .pointer (some ⟨vp, 0, none⟩), .map (some vr), .int .i64 V.cap] 83 :: Tbl vt V.T :: cel vp #[.int .i64 V.cap, .int .i64 V.last, .map (some vm)] 118 :: blk vm (.map (mE (List.map vK V.xs)) V.q) :: Shs vF V.xs :: L) w := hS
  refine WL.r 1 rfl ?_
  refine WL.nil ?_
  refine WC.ret ?_
  replace hS := St.exClose (f := vstF s a V) (L := Own 3 1 (i64s ss) a1 c2 :: cel c1 #[.map (some vr)] 79 :: L) ⟨vt, vp, vm, vr⟩ ((hS.sel 8 [3, 3, 3, 3, 3, 2, 0, 0] rfl))
  replace hS : St g (Vst s a V :: Own 3 1 (i64s ss) a1 c2 :: cel c1 #[.map (some vr)] 79 :: L) w := hS
  refine ⟨[.slice a1 (List.length (i64s ss)) c2], rfl, ?_⟩
  replace hS := (hS.sel 3 [1, 0] rfl)
  exact ⟨_, _, rfl, hS⟩
set_option maxRecDepth 8192 in
theorem vs_room {g w : World} {L : List HP} (s a : Nat) (V : VM) (ss : List Int) (hT : TOk V.T) (hG : GI V.xs V.q V.cap V.last) (hp : ss.Perm (V.xs.map VN.n)) (hs : ss.Pairwise (· ≤ ·)) (hS : St g (Vst s a V :: L) w) :
    Sp Tryz.prog 28 [.pointer (some ⟨s, 0, none⟩)] w (fun v w' => v = .int .i64 V.room ∧ St g (Vst s a V :: L) w') := by
  refine Sp.enter Tryz.func28 rfl (by kernel_rfl) (by kernel_rfl) ?_
  refine WC.seq ?_
  refine WC.region ?_
  refine WL.r 1 rfl ?_
  refine WL.nil ?_
  refine WC.seq ?_
  refine WC.plan [([0, 4, 12, 16, 1, 5, 13, 17, 2, 6, 14, 18, 3, 7, 15, 19, 8], some (9, [0, 1, 2, 3, 12, 13, 14, 15, 16, 17, 18, 19])), ([10, 11], some (20, [0, 1, 2, 3, 10, 11, 12, 13, 14, 15])), ([21, 22, 23], none)] (by kernel_rfl) (by kernel_rfl) ?_
  obtain ⟨⟨vt, vp, vm, vr⟩, hS⟩ := St.exOpen (f := vstF s a V) hS
  replace hS : St g (cel s #[.pointer (some ⟨a, 0, none⟩), .pointer (some ⟨vt, 0, none⟩), .pointer (some ⟨vp, 0, none⟩), .map (some vr), .int .i64 V.cap] 83 :: Tbl vt V.T :: cel vp #[.int .i64 V.cap, .int .i64 V.last, .map (some vm)] 118 :: blk vm (.map (mE (List.map vK V.xs)) V.q) :: Shs vF V.xs :: blk vr (.map (mE (List.map rK V.rs)) V.q2) :: L) w := hS
  have hsl := i64s_len ss; have hpl := hp.length_eq; rw [List.length_map] at hpl; have hnum := hG.ok.num; have hcp := hG.cp; have hfr := hT.s.free_rng; have hcc := hT.s.cap; have hce : V.T.s.cap = (V.T.s.used.length : Int) - 1 := rfl
  refine WQ.run 17 [.int .i64 V.cap, .int .i64 V.cap, .pointer (some ⟨vt, 0, none⟩), .pointer (some ⟨vp, 0, none⟩)] rfl (by exact ⟨hS.ld 0 rfl rfl, hS.ld 0 rfl rfl, hS.ld 0 rfl rfl, hS.ld 0 rfl rfl⟩) ?_
  refine WQ.nil ?_
  intro m1
  replace hS := hS.drewN m1; generalize hwm1 : World.drewN _ _ = w at *; clear hwm1
  refine WL.call rfl rfl (vers_spec (p := vp) (m := vm) (cap := V.cap) (last := V.last) (xs := V.xs) (q := V.q) (ss := ss) (ht := hG.ok.toVOk) (hp := hp) (hs := hs) (hS := (hS.sel 5 [2, 2, 2, 0, 0] rfl))) rfl ?_
  clear hS; rintro _ w ⟨a1, c1, rfl, hS⟩
  replace hS : St g (Own 3 1 (i64s ss) a1 c1 :: cel vp #[.int .i64 V.cap, .int .i64 V.last, .map (some vm)] 118 :: blk vm (.map (mE (List.map vK V.xs)) V.q) :: Shs vF V.xs :: cel s #[.pointer (some ⟨a, 0, none⟩), .pointer (some ⟨vt, 0, none⟩), .pointer (some ⟨vp, 0, none⟩), .map (some vr), .int .i64 V.cap] 83 :: Tbl vt V.T :: blk vr (.map (mE (List.map rK V.rs)) V.q2) :: L) w := hS
  refine WL.nil ?_
  refine ⟨by exact ⟨RQ.pure rfl rfl rfl rfl, RQ.pure rfl rfl rfl rfl, RQ.pure rfl rfl rfl rfl, RQ.load rfl rfl rfl rfl (hS.ld 4 rfl rfl), RQ.pure rfl rfl rfl rfl, RQ.pure rfl rfl rfl rfl, RQ.pure rfl rfl rfl rfl, RQ.load rfl rfl rfl rfl (hS.ld 4 rfl rfl), RQ.pure rfl rfl rfl rfl, RQ.pure rfl rfl rfl rfl, RQ.pure rfl rfl rfl rfl, RQ.load rfl rfl rfl rfl (hS.ld 4 rfl rfl)⟩, ?_⟩
  refine WQ.r 2 rfl ?_
  refine WQ.nw 14 rfl (w64 (by omega)) ?_
  refine WQ.nil ?_
  intro m2
  replace hS := hS.drewN m2; generalize hwm2 : World.drewN _ _ = w at *; clear hwm2
  refine WL.call rfl rfl (tb_len (t := vt) (T := V.T) (hT := hT) (hS := (hS.sel 6 [5, 0, 0, 0, 0, 0] rfl))) rfl ?_
  clear hS; rintro _ w ⟨rfl, hS⟩
  replace hS : St g (Tbl vt V.T :: Own 3 1 (i64s ss) a1 c1 :: cel vp #[.int .i64 V.cap, .int .i64 V.last, .map (some vm)] 118 :: blk vm (.map (mE (List.map vK V.xs)) V.q) :: Shs vF V.xs :: cel s #[.pointer (some ⟨a, 0, none⟩), .pointer (some ⟨vt, 0, none⟩), .pointer (some ⟨vp, 0, none⟩), .map (some vr), .int .i64 V.cap] 83 :: blk vr (.map (mE (List.map rK V.rs)) V.q2) :: L) w := hS
  refine WL.nil ?_
  refine ⟨by exact ⟨RQ.pure rfl rfl rfl rfl, RQ.pure rfl rfl rfl rfl, RQ.pure rfl rfl rfl rfl, RQ.load rfl rfl rfl rfl (hS.ld 5 rfl rfl), RQ.pure rfl rfl rfl rfl, RQ.pure rfl rfl rfl (congrArg (Value.int .i64) (Eq.symm (w64 (by omega)))), RQ.pure rfl rfl rfl rfl, RQ.pure rfl rfl rfl rfl, RQ.pure rfl rfl rfl rfl, RQ.load rfl rfl rfl rfl (hS.ld 5 rfl rfl)⟩, ?_⟩
  refine WQ.r 1 rfl ?_
  refine WQ.nw 24 rfl (w64 (by omega)) ?_
  refine WQ.r 2 rfl ?_
  refine WQ.nil ?_
  intro m3
  replace hS := hS.drewN m3; generalize hwm3 : World.drewN _ _ = w at *; clear hwm3
  as_aux_lemma =>
    refine WC.ret ?_
    replace hS := St.exClose (f := vstF s a V) (L := Own 3 1 (i64s ss) a1 c1 :: L) ⟨vt, vp, vm, vr⟩ ((hS.sel 7 [5, 0, 1, 1, 1, 1, 0] rfl))
    replace hS : St g (Vst s a V :: Own 3 1 (i64s ss) a1 c1 :: L) w := hS
    refine ⟨[.int .i64 (min (V.cap - (List.length (i64s ss) : Int)) (V.cap - (V.T.s.cap - V.T.s.free)))], rfl, ?_⟩
    replace hS := (hS.sel 2 [0] rfl)
    exact ⟨by unfold VM.room; rw [hsl, hpl]; rfl, hS⟩
end Go.Proofs.YtloebjlnmdjeiaaGreatDoor
/-! ## V3 -/
namespace Go.Proofs.YtloebjlnmdjeiaaGreatDoor
open Go Go.V Go.RowKit
structure Com (V : VM) (root : Int) (ps : List Int) (V2 : VM) : Prop where
  ex : ∃ xs2 q, V2 = V.add xs2 q root ∧ AddP V.xs V.cap V.last ps xs2 (V.last + 1)
  e0 : addE V.xs V.cap ps = 0
set_option maxRecDepth 8192 in
theorem vs_commit {g w : World} {L : List HP} (s a : Nat) (V : VM) (A : AM) (R : List Int) (root : Int) (hs : List Int) (pa : Option Addr) (pc : Nat) (hV : VI V A R) (hr : root = 0 ∨ (1 ≤ root ∧ A.s.ok root = true)) (hps : okPs hs) (hop : ∀ x ∈ hs, (0 ≤ x ∧ x ≤ 18446744073709551615) ∧ V.T.s.opn x = true) (hrm : 0 < V.room) (hla : V.last < 1000000000) (hlen : R.length ≤ 900000000) (hS : St g (Vst s a V :: Arn a A :: Sh 50 1 (u64s hs) pa pc :: L) w) :
    Sp Tryz.prog 68 [.pointer (some ⟨s, 0, none⟩), .int .u32 root, .slice pa (List.length (u64s hs)) pc] w (fun v w' => ∃ (V2 : VM), v = .tuple #[.int .u64 V.T.newH, .int .i64 0] ∧ St g (Vst s a V2 :: Arn a (A.ret root) :: Sh 50 1 (u64s hs) pa pc :: L) w' ∧ (VI V2 (A.ret root) R) ∧ (Com V root (hs.map V.T.val) V2)) := by
  refine Sp.enter Tryz.func68 rfl (by kernel_rfl) (by kernel_rfl) ?_
  refine WC.seq ?_
  refine WC.region ?_
  have hpl := u64s_len hs
  have hp2 := hps.1
  refine WL.r 2 rfl ?_
  refine WL.nil ?_
  refine WC.seq ?_
  refine WC.seq ?_
  refine WC.cut [0, 1, 2, 6, 7, 31] (fun vs w => ∃ (t31 : Bool), vs = [.pointer (some ⟨s, 0, none⟩), .int .u32 root, .slice pa (List.length (u64s hs)) pc, .int .u64 0, .int .i64 0, .bool t31] ∧ St g (Vst s a V :: Arn a A :: Sh 50 1 (u64s hs) pa pc :: L) w ∧ (t31 = false)) ?_ ?_
  · refine WC.plan [([0, 1, 2, 3, 4, 5, 6, 7, 8, 11, 9, 12, 10, 13, 14, 15, 16], none)] (by kernel_rfl) (by kernel_rfl) ?_
    refine WQ.r 4 rfl ?_
    refine WQ.reb 18 (.bool false) (congrArg Value.bool (decide_eq_false ((by omega)))) ?_
    refine WQ.ung rfl rfl rfl ?_
    refine WQ.r 1 rfl ?_
    refine WQ.ung rfl rfl rfl ?_
    refine WQ.r 1 rfl ?_
    refine WQ.ung rfl rfl rfl ?_
    refine WQ.r 1 rfl ?_
    refine WQ.ung rfl rfl rfl ?_
    refine WQ.r 1 rfl ?_
    by_cases cg1 : (List.length (u64s hs) : Int) = 2
    · refine WQ.reb 22 (.bool true) (congrArg Value.bool (decide_eq_true cg1)) ?_
      refine WQ.ung rfl rfl rfl ?_
      refine WQ.r 1 rfl ?_
      refine WQ.ung rfl rfl rfl ?_
      refine WQ.r 1 rfl ?_
      refine WQ.ung rfl rfl rfl ?_
      obtain ⟨p0, h0⟩ : ∃ u, hs[0]? = some u := ⟨_, List.getElem?_eq_getElem (by omega)⟩; obtain ⟨p1, h1⟩ : ∃ u, hs[1]? = some u := ⟨_, List.getElem?_eq_getElem (by omega)⟩
      refine WQ.ix rfl rfl (i := 0) (0) el_130 rfl rfl (by omega) (by omega) (hS.rdS 2 rfl (u64s_at h0)).1 ?_
      refine WQ.ung rfl rfl rfl ?_
      refine WQ.ix rfl rfl (i := 1) (1) el_130 rfl rfl (by omega) (by omega) (hS.rdS 2 rfl (u64s_at h1)).1 ?_
      refine WQ.ung rfl rfl rfl ?_
      refine WQ.run 1 [.int .u64 p0] rfl (by exact (hS.rdS 2 rfl (u64s_at h0)).2 0 _ rfl) ?_
      refine WQ.ung rfl rfl rfl ?_
      refine WQ.run 1 [.int .u64 p1] rfl (by exact (hS.rdS 2 rfl (u64s_at h1)).2 0 _ rfl) ?_
      refine WQ.ung rfl rfl rfl ?_
      refine WQ.r 1 rfl ?_
      refine WQ.ung rfl rfl rfl ?_
      refine WQ.r 2 rfl ?_
      refine WQ.nil ?_
      intro m1
      replace hS := hS.drewN m1; generalize hwm1 : World.drewN _ _ = w at *; clear hwm1
      exact ⟨decide (p0 = p1), rfl, hS, (decide_eq_false (okPs_ne hps h0 h1))⟩
    · refine WQ.reb 22 (.bool false) (congrArg Value.bool (decide_eq_false cg1)) ?_
      refine WQ.skp rfl rfl rfl rfl ?_
      refine WQ.skp rfl rfl rfl rfl ?_
      refine WQ.skp rfl rfl rfl rfl ?_
      refine WQ.skp rfl rfl rfl rfl ?_
      refine WQ.skp rfl rfl rfl rfl ?_
      refine WQ.skp rfl rfl rfl rfl ?_
      refine WQ.skp rfl rfl rfl rfl ?_
      refine WQ.ung rfl rfl rfl ?_
      refine WQ.r 2 rfl ?_
      refine WQ.nil ?_
      intro m1
      replace hS := hS.drewN m1; generalize hwm1 : World.drewN _ _ = w at *; clear hwm1
      exact ⟨false, rfl, hS, (rfl)⟩
  clear hS; rintro _ w j ⟨t31, rfl, hS, h31⟩
  refine WC.ifF rfl h31 ?_
  refine WC.skip ?_
  refine WC.seq ?_
  refine WC.region ?_
  refine WL.r 1 rfl ?_
  refine WL.nil ?_
  refine WC.seq ?_
  refine WC.seq ?_
  refine WC.region ?_
  refine WL.r 3 rfl ?_
  refine WL.nil ?_
  refine WC.block ?_
  replace hS := hS.nil_ 3 1
  refine WC.loop [0, 1, 8, 32, 33, 34] (fun kM vs w => ∃ (k : Nat) (acc : List Int) (u : Option Addr) (d : Nat), vs = [.pointer (some ⟨s, 0, none⟩), .int .u32 root, .slice u (List.length (i64s acc)) d, .slice pa (List.length (u64s hs)) pc, .int .i64 (List.length (u64s hs) : Int), .int .i64 (k : Int)] ∧ St g (Own 3 1 (i64s acc) u d :: Vst s a V :: Arn a A :: Sh 50 1 (u64s hs) pa pc :: L) w ∧ (k ≤ hs.length) ∧ (acc = (List.take k hs).map V.T.val) ∧ (hs.length - k) = kM) ((List.length hs) - 0) ⟨0, [], none, 0, rfl, hS, (Nat.zero_le _), (rfl), rfl⟩ ?_
  clear hS; rintro _ _ w j ⟨k, acc, u, d, rfl, hS, hk, ha, rfl⟩
  refine WC.seq ?_
  refine WC.region ?_
  refine WL.r 1 rfl ?_
  refine WL.nil ?_
  as_aux_lemma =>
    refine WC.seq ?_
    refine WC.ifP rfl (fun cd1 => ?_) (fun cd1 => ?_)
    · refine WC.skip ?_
      refine WC.seq ?_
      refine WC.block ?_
      refine WC.seq ?_
      refine WC.region ?_
      obtain ⟨z, hz⟩ : ∃ u, hs[k]? = some u := ⟨_, List.getElem?_eq_getElem (by omega)⟩; have hzo := hop z (List.mem_of_getElem? hz); have hacl := i64s_len acc; have hacl2 : acc.length = k := (by rw [ha, List.length_map, List.length_take]; omega)
      refine WL.ix rfl rfl (i := (k : Int)) (k) el_130 rfl rfl (by omega) (by omega) (hS.rdS 3 rfl (u64s_at hz)).1 ?_
      refine WL.run 2 [.int .u64 z] rfl (by exact (hS.rdS 3 rfl (u64s_at hz)).2 0 _ rfl) ?_
      refine WL.nil ?_
      refine WC.seq ?_
      refine WC.region ?_
      refine WL.r 2 rfl ?_
      refine WL.call rfl rfl (vs_num_ok (s := s) (a := a) (V := V) (h := z) (hT := hV.t) (hh := hzo.1) (hn := hzo.2) (hS := (hS.sel 2 [1, 0] rfl))) rfl ?_
      clear hS; rintro _ w ⟨rfl, hS⟩
      replace hS : St g (Vst s a V :: Own 3 1 (i64s acc) u d :: Arn a A :: Sh 50 1 (u64s hs) pa pc :: L) w := hS
      refine WL.r 5 rfl ?_
      refine WL.nil ?_
      refine WC.seq ?_
      refine WC.seq ?_
      refine WC.region ?_
      refine WL.r 2 rfl ?_
      refine WL.nil ?_
      refine WC.ifF rfl (decide_eq_false ((by decide))) ?_
      refine WC.skip ?_
      as_aux_lemma =>
        refine WC.region ?_
        refine WL.r 2 rfl ?_
        refine WL.lit rfl rfl (i64s [V.T.val z]) el_102 hS (by exact ⟨rfl, rfl⟩) (i64s_ok _) rfl (by decide) (fun b1 w hS => ?_)
        refine WL.app rfl rfl 2 (i64s (acc ++ [V.T.val z])) el_102 hS rfl (hS.srcO 0 rfl) (i64s_app _ _).symm (Rm.of (by first | omega | (simp <;> omega)) (by decide)) rfl rfl (fun a1 c1 w hS => ?_)
        replace hS : St g (Own 3 1 (i64s [V.T.val z]) (some ⟨b1, 0, none⟩) (List.length (i64s [V.T.val z])) :: Vst s a V :: Own 3 1 (i64s (acc ++ [V.T.val z])) a1 c1 :: Arn a A :: Sh 50 1 (u64s hs) pa pc :: L) w := hS
        refine WL.r 1 rfl ?_
        refine WL.nil ?_
        refine WC.region ?_
        refine WL.r 1 rfl ?_
        refine WL.nw 51 rfl (w64 (by omega)) ?_
        refine WL.r 1 rfl ?_
        refine WL.nil ?_
        exact ⟨_, by omega, k + 1, acc ++ [V.T.val z], a1, c1, rfl, (hS.sel 3 [2, 1] rfl), (by omega), (by rw [ha, List.take_add_one, hz]; simp), rfl⟩
    · refine WC.exit ?_
      refine WC.seq ?_
      refine WC.seq ?_
      refine WC.region ?_
      have hke : acc = hs.map V.T.val := (by rw [ha, List.take_of_length_le (by omega)]); obtain ⟨ss, hK⟩ := keys_ex hV.g.ok.uniq
      refine WL.r 1 rfl ?_
      refine WL.call rfl rfl (vs_room (s := s) (a := a) (V := V) (ss := ss) (hT := hV.t) (hG := hV.g) (hp := hK.perm) (hs := hK.le) (hS := (hS.sel 2 [1, 0] rfl))) rfl ?_
      clear hS; rintro _ w ⟨rfl, hS⟩
      replace hS : St g (Vst s a V :: Own 3 1 (i64s acc) u d :: Arn a A :: Sh 50 1 (u64s hs) pa pc :: L) w := hS
      refine WL.r 1 rfl ?_
      refine WL.nil ?_
      refine WC.ifF rfl (decide_eq_false ((by omega))) ?_
      refine WC.skip ?_
      refine WC.seq ?_
      refine WC.region ?_
      obtain ⟨⟨vt, vp, vm, vr⟩, hS⟩ := St.exOpen (f := vstF s a V) hS
      replace hS : St g (cel s #[.pointer (some ⟨a, 0, none⟩), .pointer (some ⟨vt, 0, none⟩), .pointer (some ⟨vp, 0, none⟩), .map (some vr), .int .i64 V.cap] 83 :: Tbl vt V.T :: cel vp #[.int .i64 V.cap, .int .i64 V.last, .map (some vm)] 118 :: blk vm (.map (mE (List.map vK V.xs)) V.q) :: Shs vF V.xs :: blk vr (.map (mE (List.map rK V.rs)) V.q2) :: Own 3 1 (i64s acc) u d :: Arn a A :: Sh 50 1 (u64s hs) pa pc :: L) w := hS
      refine WL.run 6 [.pointer (some ⟨vp, 0, none⟩)] rfl (by exact hS.ld 0 rfl rfl) ?_
      replace hS := (hS.at_ 6 rfl).share
      replace hS : St g (Sh 3 1 (i64s acc) u d :: cel s #[.pointer (some ⟨a, 0, none⟩), .pointer (some ⟨vt, 0, none⟩), .pointer (some ⟨vp, 0, none⟩), .map (some vr), .int .i64 V.cap] 83 :: Tbl vt V.T :: cel vp #[.int .i64 V.cap, .int .i64 V.last, .map (some vm)] 118 :: blk vm (.map (mE (List.map vK V.xs)) V.q) :: Shs vF V.xs :: blk vr (.map (mE (List.map rK V.rs)) V.q2) :: Arn a A :: Sh 50 1 (u64s hs) pa pc :: L) w := hS
      refine WL.call rfl rfl (add_spec (p := vp) (m := vm) (cap := V.cap) (last := V.last) (xs := V.xs) (q := V.q) (ps := acc) (a := u) (c := d) (hI := hV.g) (hla := hla) (hS := (hS.sel 6 [0, 2, 2, 2, 0, 0] rfl))) rfl ?_
      clear hS; rintro _ w ⟨xs1, q1, last1, rfl, hS, f1, f2⟩
      replace hS : St g (Sh 3 1 (i64s acc) u d :: cel vp #[.int .i64 V.cap, .int .i64 last1, .map (some vm)] 118 :: blk vm (.map (mE (List.map vK xs1)) q1) :: Shs vF xs1 :: cel s #[.pointer (some ⟨a, 0, none⟩), .pointer (some ⟨vt, 0, none⟩), .pointer (some ⟨vp, 0, none⟩), .map (some vr), .int .i64 V.cap] 83 :: Tbl vt V.T :: blk vr (.map (mE (List.map rK V.rs)) V.q2) :: Arn a A :: Sh 50 1 (u64s hs) pa pc :: L) w := hS
      refine WL.r 5 rfl ?_
      refine WL.nil ?_
      as_aux_lemma =>
        refine WC.seq ?_
        refine WC.seq ?_
        refine WC.region ?_
        have he0 := addE_room hV hps (fun x hx => (hop x hx).2) hrm; rw [← hke] at he0
        refine WL.r 2 rfl ?_
        refine WL.nil ?_
        refine WC.ifF rfl (decide_eq_false ((by rw [he0]; decide))) ?_
        refine WC.skip ?_
        refine WC.seq ?_
        refine WC.region ?_
        rw [hke] at he0 f2; obtain ⟨_, rfl, _⟩ := (AddP.facts hV.g.le f2).resolve_left (fun e => e.1 he0); have hv0 : addV V.xs V.cap V.last acc = V.last + 1 := (by unfold addV; rw [hke, if_pos he0]); have hfr := (room_pos hV hrm).2; have hla0 := hV.g.la; have hV2 := hV.add hr he0 f2 f1 hfr hla hlen
        refine WL.reb 13 (.int .i64 (V.last + 1)) (congrArg (Value.int .i64) hv0) ?_
        refine WL.run 5 [.pointer (some ⟨a, 0, none⟩)] rfl (by exact hS.ld 4 rfl rfl) ?_
        refine WL.call rfl rfl (ar_retain (a := a) (A := A) (i := root) (hA := hV.ref.toAWf) (hi := (by have := okrng0 hV.ref.toAWf hr; omega)) (hS := (hS.sel 8 [7, 0, 0, 0, 0, 0, 0, 0] rfl))) rfl ?_
        clear hS; rintro _ w ⟨rfl, hS⟩
        replace hS : St g (Arn a (A.ret root) :: Sh 3 1 (i64s acc) u d :: cel vp #[.int .i64 V.cap, .int .i64 (V.last + 1), .map (some vm)] 118 :: blk vm (.map (mE (List.map vK xs1)) q1) :: Shs vF xs1 :: cel s #[.pointer (some ⟨a, 0, none⟩), .pointer (some ⟨vt, 0, none⟩), .pointer (some ⟨vp, 0, none⟩), .map (some vr), .int .i64 V.cap] 83 :: Tbl vt V.T :: blk vr (.map (mE (List.map rK V.rs)) V.q2) :: Sh 50 1 (u64s hs) pa pc :: L) w := hS
        refine WL.nil ?_
        refine WC.seq ?_
        refine WC.region ?_
        refine WL.run 7 [.map (some vr)] rfl (by exact hS.ld 5 rfl rfl) ?_
        refine WL.muN rfl rfl rfl mt_79 7 hS rfl rfl rfl rfl (by first | trivial | rfl) (ki_out (f := rK) hV.k.key (fun x hx e => by have h9 := (AddP.facts hV.g.le f2).resolve_left (fun e => e.1 he0); have h8 := (hV.pre x.n).1 ⟨x, hx, rfl⟩; rw [e, h9.2.2.1] at h8; cases h8)) (fun w hS => ?_)
        replace hS : St g (Arn a (A.ret root) :: Sh 3 1 (i64s acc) u d :: cel vp #[.int .i64 V.cap, .int .i64 (V.last + 1), .map (some vm)] 118 :: blk vm (.map (mE (List.map vK xs1)) q1) :: Shs vF xs1 :: cel s #[.pointer (some ⟨a, 0, none⟩), .pointer (some ⟨vt, 0, none⟩), .pointer (some ⟨vp, 0, none⟩), .map (some vr), .int .i64 V.cap] 83 :: Tbl vt V.T :: blk vr (.map (mE ((List.map rK V.rs) ++ [⟨.int .i64 (V.last + 1), .int .u32 root, V.q2⟩])) (V.q2 + 1)) :: Sh 50 1 (u64s hs) pa pc :: L) w := hS
        refine WL.nil ?_
        refine WC.seq ?_
        refine WC.region ?_
        refine WL.run 6 [.pointer (some ⟨vt, 0, none⟩)] rfl (by exact hS.ld 5 rfl rfl) ?_
        refine WL.nw 86 rfl (wu32 (by omega)) ?_
        refine WL.call rfl rfl (tb_open_ok (t := vt) (T := V.T) (y := V.last + 1) (hT := hV.t) (hf := hfr) (hS := (hS.sel 7 [6, 0, 0, 0, 0, 0, 0] rfl))) rfl ?_
        clear hS; rintro _ w ⟨rfl, hS⟩
        replace hS : St g (Tbl vt (V.T.open (V.last + 1)) :: Arn a (A.ret root) :: Sh 3 1 (i64s acc) u d :: cel vp #[.int .i64 V.cap, .int .i64 (V.last + 1), .map (some vm)] 118 :: blk vm (.map (mE (List.map vK xs1)) q1) :: Shs vF xs1 :: cel s #[.pointer (some ⟨a, 0, none⟩), .pointer (some ⟨vt, 0, none⟩), .pointer (some ⟨vp, 0, none⟩), .map (some vr), .int .i64 V.cap] 83 :: blk vr (.map (mE ((List.map rK V.rs) ++ [⟨.int .i64 (V.last + 1), .int .u32 root, V.q2⟩])) (V.q2 + 1)) :: Sh 50 1 (u64s hs) pa pc :: L) w := hS
        refine WL.r 4 rfl ?_
        refine WL.nil ?_
        as_aux_lemma =>
          refine WC.ret ?_
          replace hS := St.exClose (f := vstF s a (V.add xs1 q1 root)) (L := Arn a (A.ret root) :: Sh 3 1 (i64s acc) u d :: Sh 50 1 (u64s hs) pa pc :: L) ⟨vt, vp, vm, vr⟩ (by
            have hm : List.map rK V.rs ++ [(.int .i64 (V.last + 1), .int .u32 root, V.q2)] = List.map rK (V.add xs1 q1 root).rs := by simp [rK, VM.add]
            rw [hm] at hS
            exact (hS.sel 8 [6, 0, 2, 2, 2, 2, 0, 0] rfl))
          replace hS : St g (Vst s a (V.add xs1 q1 root) :: Arn a (A.ret root) :: Sh 3 1 (i64s acc) u d :: Sh 50 1 (u64s hs) pa pc :: L) w := hS
          refine ⟨[.int .u64 V.T.newH, .int .i64 0], ⟨rfl, rfl⟩, ?_⟩
          replace hS := (hS.sel 3 [0, 0] rfl)
          exact ⟨_, rfl, hS, hV2, ⟨xs1, q1, rfl, f2⟩, he0⟩
theorem okPs_nil : okPs [] := ⟨by simp, fun _ _ h => by cases h⟩
theorem okPs_one (x : Int) : okPs [x] := ⟨by simp, fun _ _ h => by cases h⟩
end Go.Proofs.YtloebjlnmdjeiaaGreatDoor
